import Derived.Test.YtkiepnmbimkadaaProg
import Derived.WalkKit
import Derived.WalkSpells
import Derived.WalkLawsBesides
import Derived.LoopN
import Derived.Lib.Hide
import Derived.Laws.Rows
import Derived.Laws.AppendOwn
import Derived.Laws.OwnMore
import Derived.OwnWalk
import Derived.Below
import Derived.Handy
import Derived.KernelRfl
section
namespace Go.Proofs.Ytkiepnmbimkadaa.DK
open Go.RowKit Go.Proofs.Ytkiepnmbimkadaa
structure Four where
  a : ByteArray
  b : ByteArray
  c : ByteArray
  d : ByteArray
def Four.at (r : Four) (i : Int) : ByteArray := if i = 0 then r.a else if i = 1 then r.b else if i = 2 then r.c else if i = 3 then r.d else ⟨#[]⟩
def Four.to (r : Four) (i : Int) (s : ByteArray) : Four :=
  if i = 0 then { r with a := s } else if i = 1 then { r with b := s } else if i = 2 then { r with c := s } else if i = 3 then { r with d := s } else r
def Four.cells (r : Four) : List Value := [.string r.a, .string r.b, .string r.c, .string r.d]
structure Wr where
  whole : Bool
  file : Int
  s : ByteArray
def Wr.val (x : Wr) : Value := if x.whole then .iface 81 (.agg #[.int .i64 x.file, .string x.s]) else .iface 86 (.agg #[.int .i64 x.file, .string x.s])
def Wr.ok (x : Wr) : Prop := 0 ≤ x.file ∧ x.file < 4 ∧ x.s.size ≤ 65536
def Wr.units (x : Wr) : Nat := if x.whole then 1 else x.s.size
def Wr.act (x : Wr) (r : Four) (n : Nat) : Four := if x.whole then (if n = 1 then r.to x.file x.s else r) else r.to x.file (r.at x.file ++ x.s.extract 0 n)
def cellsOf (n k : Four) (W : Value) : Array Value := #[.string n.a, .string n.b, .string n.c, .string n.d, .string k.a, .string k.b, .string k.c, .string k.d, W]
structure At (w : World) (A : Nat) (W : Value) (n k : Four) (l : List Wr) : Prop where
  cells : w.heap[A]? = some (.cells (cellsOf n k W) 61 (0, 0))
  row : w.ownsRow 0 73 1 W l.length (l.map Wr.val)
  apart : W.ownBlock ≠ some A
structure Keeps (w w' : World) (A : Nat) (W : Value) : Prop where
  os : w'.os = w.os
  tape : w'.tape = w.tape
  output : w'.output = w.output
  size : w.heap.size ≤ w'.heap.size
  block : ∀ k, k < w.heap.size → k ≠ A → W.ownBlock ≠ some k → w'.heap[k]? = w.heap[k]?
theorem known_walk (i : Int) (w : World) : Calls Try.prog 43 #[.int .i64 i] w fun e w' => e = .returned (.bool (decide (0 ≤ i ∧ i < 4))) ∧ w = w' := by
  go_enter Try.func43, Try.ntmps43
  by_cases h : 0 ≤ i
  · by_cases h2 : i < 4
    · go_wp2
      go_ret
      simp [h, h2]
    · go_wp2
      go_ret
      simp [h, h2]
  · go_wp2
    go_ret
    simp
    omega
end Go.Proofs.Ytkiepnmbimkadaa.DK
end
section
namespace Go.Proofs.Ytkiepnmbimkadaa.DK
open Go.RowKit Go.Proofs.Ytkiepnmbimkadaa
theorem At.cell {w : World} {A : Nat} {W : Value} {n k : Four} {l : List Wr} (h : At w A W n k l) (j : Nat) : w.cell? ⟨A, j, none⟩ = (cellsOf n k W)[j]? := by
  simp [World.cell?, h.cells]
theorem At.frozen {w : World} {A : Nat} {W : Value} {n k : Four} {l : List Wr} (h : At w A W n k l) (j : Nat) : w.frozen? ⟨A, j, none⟩ = false := by
  simp [World.frozen?, h.cells]
theorem at_cases {i : Int} (h : 0 ≤ i) (h2 : i < 4) : i = 0 ∨ i = 1 ∨ i = 2 ∨ i = 3 := by omega
theorem Four.out (n : Four) {i : Int} (h : ¬ (0 ≤ i ∧ i < 4)) : n.at i = ⟨#[]⟩ := by
  unfold Four.at
  rw [if_neg (by omega), if_neg (by omega), if_neg (by omega), if_neg (by omega)]
set_option maxHeartbeats 1000000 in
theorem read_walk {w : World} {A : Nat} {W : Value} {n k : Four} {l : List Wr} (h : At w A W n k l) (i : Int) :
    Calls Try.prog 21 #[.pointer (some ⟨A, 0, none⟩), .int .i64 i] w fun e w' => e = .returned (.string (n.at i)) ∧ w = w' := by
  have c0 : w.cell? ⟨A, 0, none⟩ = some (.string n.a) := h.cell 0
  have c1 : w.cell? ⟨A, 1, none⟩ = some (.string n.b) := h.cell 1
  have c2 : w.cell? ⟨A, 2, none⟩ = some (.string n.c) := h.cell 2
  have c3 : w.cell? ⟨A, 3, none⟩ = some (.string n.d) := h.cell 3
  clear h
  by_cases hk : 0 ≤ i ∧ i < 4
  · rcases at_cases hk.1 hk.2 with rfl | rfl | rfl | rfl
    all_goals
      clear hk
      go_enter Try.func21, Try.ntmps21
      go_wp2
      go_ret
      exact ⟨rfl, rfl⟩
  · rw [n.out hk]
    by_cases h0 : 0 ≤ i
    · have h1 : ¬ i < 4 := fun h => hk ⟨h0, h⟩
      clear hk
      go_enter Try.func21, Try.ntmps21
      go_wp2
      go_ret
      exact ⟨rfl, rfl⟩
    · clear hk
      go_enter Try.func21, Try.ntmps21
      go_wp2
      go_ret
      exact ⟨rfl, rfl⟩
theorem set_self {w : World} {A j : Nat} {v : Value} {C : Array Value} {t : TypeId} {f : Nat × Nat} (h : w.heap[A]? = some (.cells C t f)) : (w.setCell ⟨A, j, none⟩ v).heap[A]? = some (.cells (C.setIfInBounds j v) t f) := by
  simp [World.setCell, Array.getElem?_modify, h]
theorem set_size (w : World) (a : Addr) (v : Value) : (w.setCell a v).heap.size = w.heap.size := by simp [World.setCell]
theorem Keeps.refl (w : World) (A : Nat) (W : Value) : Keeps w w A W := ⟨rfl, rfl, rfl, Nat.le_refl _, fun _ _ _ _ => rfl⟩
theorem Keeps.setCell {w w' : World} {A : Nat} {W : Value} (h : Keeps w w' A W) (j : Nat) (v : Value) : Keeps w (w'.setCell ⟨A, j, none⟩ v) A W :=
  ⟨h.os, h.tape, h.output, by rw [set_size]; exact h.size, fun k hk ha hw => (Below.heap_setCell _ _ _ _ (fun e => ha e)).trans (h.block k hk ha hw)⟩
theorem Keeps.drew {w w' : World} {A : Nat} {W : Value} (h : Keeps w w' A W) : Keeps w w'.drew A W := ⟨h.os, h.tape, h.output, h.size, h.block⟩
theorem Keeps.alloc {w w' : World} {A : Nat} {W : Value} (h : Keeps w w' A W) (o : Obj) : Keeps w (w'.alloc o) A W :=
  ⟨h.os, h.tape, h.output, by have := h.size; simp; omega, fun k hk ha hw => (Below.heap_alloc _ _ _ (by have := h.size; omega)).trans (h.block k hk ha hw)⟩
def zero4 : Four := ⟨⟨#[]⟩, ⟨#[]⟩, ⟨#[]⟩, ⟨#[]⟩⟩
set_option maxHeartbeats 1000000 in
theorem new_walk (w : World) : Calls Try.prog 9 #[] w fun e w' => e = .returned (.pointer (some ⟨w.heap.size, 0, none⟩)) ∧ w' = w.alloc (.cells (cellsOf zero4 zero4 (.slice none 0 0)) 61) := by
  go_enter Try.func9, Try.ntmps9
  go_wp2
  go_ret
  exact ⟨rfl, rfl⟩
set_option maxHeartbeats 1000000 in
theorem sync_walk {w : World} {A : Nat} {W : Value} {n k : Four} {l : List Wr} (h : At w A W n k l) :
    Calls Try.prog 40 #[.pointer (some ⟨A, 0, none⟩)] w fun e w' => e = .returned (.tuple #[]) ∧ At w' A (.slice none 0 0) n n [] ∧ Keeps w w' A W := by
  have c0 : w.cell? ⟨A, 0, none⟩ = some (.string n.a) := h.cell 0
  have c1 : w.cell? ⟨A, 1, none⟩ = some (.string n.b) := h.cell 1
  have c2 : w.cell? ⟨A, 2, none⟩ = some (.string n.c) := h.cell 2
  have c3 : w.cell? ⟨A, 3, none⟩ = some (.string n.d) := h.cell 3
  have c4 : w.cell? ⟨A, 4, none⟩ = some (.string k.a) := h.cell 4
  have c5 : w.cell? ⟨A, 5, none⟩ = some (.string k.b) := h.cell 5
  have c6 : w.cell? ⟨A, 6, none⟩ = some (.string k.c) := h.cell 6
  have c7 : w.cell? ⟨A, 7, none⟩ = some (.string k.d) := h.cell 7
  have c8 : w.cell? ⟨A, 8, none⟩ = some W := h.cell 8
  have f4 := h.frozen 4
  have f5 := h.frozen 5
  have f6 := h.frozen 6
  have f7 := h.frozen 7
  have f8 := h.frozen 8
  go_enter Try.func40, Try.ntmps40
  go_wp2
  go_returns
  refine ⟨rfl, ⟨(set_self (set_self (set_self (set_self (set_self h.cells))))).trans (by simp [cellsOf]), World.ownsRow_nil _ _ _ _, by simp [Value.ownBlock]⟩, (((((Keeps.refl w A W).setCell _ _).setCell _ _).setCell _ _).setCell _ _).setCell _ _⟩
end Go.Proofs.Ytkiepnmbimkadaa.DK
end
