/-
  Chapter 09: a disk's state, in plain Lean, and how it lies in memory.
-/
import Derived.Test.YtkmgbgolpogmpaaProg
import Derived.WalkKit
import Derived.WalkSpells
import Derived.WalkLawsBesides
import Derived.LoopN
import Derived.Lib.Hide
import Derived.Laws.Rows
import Derived.Laws.AppendOwn
import Derived.Laws.OwnMore
import Derived.OwnWalk
import Derived.Below
import Derived.Handy
import Derived.KernelRfl
namespace Go.Proofs.Ytkmgbgolpogmpaa.DK
open Go.RowKit Go.Proofs.Ytkmgbgolpogmpaa

/-- Four files' bytes. -/
structure Four where
  a : ByteArray
  b : ByteArray
  c : ByteArray
  d : ByteArray
/-- A file's bytes. -/
def Four.at (r : Four) (i : Int) : ByteArray := if i = 0 then r.a else if i = 1 then r.b else if i = 2 then r.c else if i = 3 then r.d else ⟨#[]⟩
/-- With another file. -/
def Four.to (r : Four) (i : Int) (s : ByteArray) : Four :=
  if i = 0 then { r with a := s } else if i = 1 then { r with b := s } else if i = 2 then { r with c := s } else if i = 3 then { r with d := s } else r
/-- The cells. -/
def Four.cells (r : Four) : List Value := [.string r.a, .string r.b, .string r.c, .string r.d]
/-- A write that is not sure. -/
structure Wr where
  whole : Bool
  file : Int
  s : ByteArray
def Wr.val (x : Wr) : Value := if x.whole then .iface 64 (.agg #[.int .i64 x.file, .string x.s]) else .iface 58 (.agg #[.int .i64 x.file, .string x.s])
def Wr.ok (x : Wr) : Prop := 0 ≤ x.file ∧ x.file < 4 ∧ x.s.size ≤ 65536
/-- How many units. -/
def Wr.units (x : Wr) : Nat := if x.whole then 1 else x.s.size
/-- What it makes of files, with so many units. -/
def Wr.act (x : Wr) (r : Four) (n : Nat) : Four := if x.whole then (if n = 1 then r.to x.file x.s else r) else r.to x.file (r.at x.file ++ x.s.extract 0 n)

/-- The disk at a block: its files, what of them stays, the writes' slice. -/
def cellsOf (n k : Four) (W : Value) : Array Value := #[.string n.a, .string n.b, .string n.c, .string n.d, .string k.a, .string k.b, .string k.c, .string k.d, W]
structure At (w : World) (A : Nat) (W : Value) (n k : Four) (l : List Wr) : Prop where
  cells : w.heap[A]? = some (.cells (cellsOf n k W) 51 (0, 0))
  row : w.ownsRow 0 54 1 W l.length (l.map Wr.val)
  apart : W.ownBlock ≠ some A
/-- All blocks but the disk's own are as they were. -/
structure Keeps (w w' : World) (A : Nat) (W : Value) : Prop where
  os : w'.os = w.os
  tape : w'.tape = w.tape
  output : w'.output = w.output
  size : w.heap.size ≤ w'.heap.size
  block : ∀ k, k < w.heap.size → k ≠ A → W.ownBlock ≠ some k → w'.heap[k]? = w.heap[k]?

theorem known_walk (i : Int) (w : World) : Calls Try.prog 26 #[.int .i64 i] w fun e w' => e = .returned (.bool (decide (0 ≤ i ∧ i < 4))) ∧ w = w' := by
  go_enter Try.func26, Try.ntmps26
  by_cases h : 0 ≤ i
  · by_cases h2 : i < 4
    · go_wp2
      go_ret
      simp [h, h2]
    · go_wp2
      go_ret
      simp [h, h2]
  · go_wp2
    go_ret
    simp
    omega
end Go.Proofs.Ytkmgbgolpogmpaa.DK
