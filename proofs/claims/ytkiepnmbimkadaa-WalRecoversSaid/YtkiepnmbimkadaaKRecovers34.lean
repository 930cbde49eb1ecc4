import Derived.Test.YtkiepnmbimkadaaKRecovers11
import Derived.Test.YtkiepnmbimkadaaKRecovers33
namespace Go.Proofs.Ytkiepnmbimkadaa.WL
open Go.RowKit Go.Proofs.Ytkiepnmbimkadaa Go.Proofs.Ytkiepnmbimkadaa.DK
structure LSt where
  round : Int
  state : ByteArray
  l : List ByteArray
  sure : Nat
def lcells (A : Nat) (s : LSt) (V : Value) : Array Value := #[.pointer (some ⟨A, 0, none⟩), .int .i64 s.round, .string s.state, V, .int .i64 s.sure]
structure LAt (T : TypeId) (w : World) (L A : Nat) (V : Value) (s : LSt) : Prop where
  cells : w.heap[L]? = some (.cells (lcells A s V) T (0, 0))
  row : w.ownsRow 0 9 1 V s.l.length (s.l.map Value.string)
  apart : V.ownBlock ≠ some L
theorem LAt.lt {T : TypeId} {w : World} {L A : Nat} {V : Value} {s : LSt} (h : LAt T w L A V s) : L < w.heap.size := (Array.getElem?_eq_some_iff.1 h.cells).1
theorem LAt.cell {T : TypeId} {w : World} {L A : Nat} {V : Value} {s : LSt} (h : LAt T w L A V s) (j : Nat) : w.cell? ⟨L, j, none⟩ = (lcells A s V)[j]? := cell_of h.cells j
theorem LAt.frozen {T : TypeId} {w : World} {L A : Nat} {V : Value} {s : LSt} (h : LAt T w L A V s) (j : Nat) : w.frozen? ⟨L, j, none⟩ = false := by
  simp [World.frozen?, h.cells]
theorem row_moved {w w2 : World} {base e size n : Nat} {V : Value} {xs : List Value} (h : w.ownsRow base e size V n xs) (hb : ∀ k, V.ownBlock = some k → w2.heap[k]? = w.heap[k]?) : w2.ownsRow base e size V n xs := by
  refine ⟨h.1, ?_⟩
  rcases h.2 with g | ⟨g, cap, cur, rfl, a, b, c⟩
  · exact .inl g
  · exact .inr ⟨g, cap, cur, rfl, a, (hb g rfl).trans b, c⟩
theorem LAt.moved {T : TypeId} {w w2 : World} {L A : Nat} {V : Value} {s : LSt} (h : LAt T w L A V s) (hL : w2.heap[L]? = w.heap[L]?) (hV : ∀ k, V.ownBlock = some k → w2.heap[k]? = w.heap[k]?) : LAt T w2 L A V s :=
  ⟨hL.trans h.cells, row_moved h.row hV, h.apart⟩
structure Kind where
  D : World → Nat → Value → St → Prop
  lt : ∀ {w A W st}, D w A W st → A < w.heap.size
  row : ∀ {w A W st}, D w A W st → ∀ b, W.ownBlock = some b → b < w.heap.size
  moved : ∀ {w w2 A W st}, D w A W st → w2.heap[A]? = w.heap[A]? → (∀ k, W.ownBlock = some k → w2.heap[k]? = w.heap[k]?) → D w2 A W st
def own : Kind where
  D := fun w A W st => At w A W st.n st.k st.l
  lt := fun h => h.lt
  row := fun h b e => (h.row.lt b e).2
  moved := fun h h1 h2 => ⟨h1.trans h.cells, row_moved h.row h2, h.apart⟩
structure PL (K : Kind) (T : TypeId) (w : World) (A : Nat) (W : Value) (L : Nat) (V : Value) (st : St) (s : LSt) : Prop where
  disk : K.D w A W st
  log : LAt T w L A V s
  off : Off L V A W
def InF (A : Nat) (W : Value) (L : Nat) (V : Value) (k : Nat) : Prop := k = A ∨ W.ownBlock = some k ∨ k = L ∨ V.ownBlock = some k
structure KeepsF (w w2 : World) (F : Nat → Prop) : Prop where
  os : w2.os = w.os
  tape : w2.tape = w.tape
  output : w2.output = w.output
  size : w.heap.size ≤ w2.heap.size
  block : ∀ k, k < w.heap.size → ¬ F k → w2.heap[k]? = w.heap[k]?
theorem KeepsF.refl (w : World) (F : Nat → Prop) : KeepsF w w F := ⟨rfl, rfl, rfl, Nat.le_refl _, fun _ _ _ => rfl⟩
theorem KeepsF.mono {w w2 : World} {F G : Nat → Prop} (h : KeepsF w w2 F) (hFG : ∀ k, k < w.heap.size → F k → G k) : KeepsF w w2 G := ⟨h.os, h.tape, h.output, h.size, fun k hk hn => h.block k hk (fun hf => hn (hFG k hk hf))⟩
theorem KeepsF.trans {w w1 w2 : World} {F : Nat → Prop} (h1 : KeepsF w w1 F) {G : Nat → Prop} (h2 : KeepsF w1 w2 G) (hG : ∀ k, k < w.heap.size → G k → F k) : KeepsF w w2 F :=
  ⟨h2.os.trans h1.os, h2.tape.trans h1.tape, h2.output.trans h1.output, Nat.le_trans h1.size h2.size, fun k hk hn => (h2.block k (Nat.lt_of_lt_of_le hk h1.size) (fun g => hn (hG k hk g))).trans (h1.block k hk hn)⟩
theorem KeepsF.below {w w1 w2 : World} {F : Nat → Prop} (h : KeepsF w w1 F) (hb : Below w1.heap.size w1 w2) : KeepsF w w2 F :=
  ⟨hb.os.trans h.os, hb.tape.trans h.tape, hb.output.trans h.output, Nat.le_trans h.size hb.size, fun k hk hn => (hb.block k (Nat.lt_of_lt_of_le hk h.size)).trans (h.block k hk hn)⟩
theorem KeepsF.of_below {w w2 : World} (hb : Below w.heap.size w w2) (F : Nat → Prop) : KeepsF w w2 F := (KeepsF.refl w F).below hb
theorem KeepsF.of_keeps {w w2 : World} {A : Nat} {W : Value} {F : Nat → Prop} (h : Keeps w w2 A W) (hA : F A) (hW : ∀ k, W.ownBlock = some k → F k) : KeepsF w w2 F :=
  ⟨h.os, h.tape, h.output, h.size, fun k hk hn => h.block k hk (fun e => hn (e ▸ hA)) (fun e => hn (hW k e))⟩
theorem KeepsF.drew {w w2 : World} {F : Nat → Prop} (h : KeepsF w w2 F) : KeepsF w w2.drew F := ⟨h.os, h.tape, h.output, h.size, h.block⟩
theorem KeepsF.setCell {w w2 : World} {F : Nat → Prop} (h : KeepsF w w2 F) {B : Nat} (hB : F B ∨ w.heap.size ≤ B) (j : Nat) (v : Value) : KeepsF w (w2.setCell ⟨B, j, none⟩ v) F :=
  ⟨h.os, h.tape, h.output, by rw [set_size]; exact h.size, fun k hk hn => (Below.heap_setCell _ _ _ _ (fun e => by
    have e2 : k = B := e
    subst e2
    rcases hB with g | g
    · exact hn g
    · omega)).trans (h.block k hk hn)⟩
theorem KeepsF.bel {w w1 w2 : World} {N : Nat} {F : Nat → Prop} (hK : KeepsF w1 w2 F) (hb : Below N w w1) (hN : N ≤ w1.heap.size) (hF : ∀ k, F k → N ≤ k) : Below N w w2 :=
  ⟨hK.os.trans hb.os, hK.tape.trans hb.tape, hK.output.trans hb.output, Nat.le_trans hb.size hK.size, fun k hk => (hK.block k (by omega) (fun g => by have := hF k g; omega)).trans (hb.block k hk)⟩
theorem PL.keep {K : Kind} {T : TypeId} {w w2 : World} {A : Nat} {W : Value} {L : Nat} {V : Value} {st : St} {s : LSt} (h : PL K T w A W L V st s) {F : Nat → Prop} (hK : KeepsF w w2 F) (hd : ∀ k, InF A W L V k → ¬ F k) : PL K T w2 A W L V st s :=
  ⟨K.moved h.disk (hK.block A (K.lt h.disk) (hd A (.inl rfl))) (fun k e => hK.block k (K.row h.disk k e) (hd k (.inr (.inl e)))),
   h.log.moved (hK.block L h.log.lt (hd L (.inr (.inr (.inl rfl))))) (fun k e => hK.block k (h.log.row.lt k e).2 (hd k (.inr (.inr (.inr e))))), h.off⟩
theorem PL.below {K : Kind} {T : TypeId} {w w2 : World} {A : Nat} {W : Value} {L : Nat} {V : Value} {st : St} {s : LSt} (h : PL K T w A W L V st s) (hb : Below w.heap.size w w2) : PL K T w2 A W L V st s :=
  h.keep (F := fun _ => False) (KeepsF.of_below hb _) (fun _ _ g => g)
theorem PL.drew {K : Kind} {T : TypeId} {w : World} {A : Nat} {W : Value} {L : Nat} {V : Value} {st : St} {s : LSt} (h : PL K T w A W L V st s) : PL K T w.drew A W L V st s := h.below ((Below.refl _ _).drew)
theorem PL.inlt {K : Kind} {T : TypeId} {w : World} {A : Nat} {W : Value} {L : Nat} {V : Value} {st : St} {s : LSt} (h : PL K T w A W L V st s) : ∀ k, InF A W L V k → k < w.heap.size := by
  rintro k (rfl | e | rfl | e)
  · exact K.lt h.disk
  · exact K.row h.disk k e
  · exact h.log.lt
  · exact (h.log.row.lt k e).2
def Step (K : Kind) (T : TypeId) (w w2 : World) (A : Nat) (W : Value) (L : Nat) (V : Value) (st : St) (s : LSt) : Prop :=
  ∃ W2 V2, PL K T w2 A W2 L V2 st s ∧ KeepsF w w2 (InF A W L V) ∧ ∀ k, InF A W2 L V2 k → InF A W L V k ∨ w.heap.size ≤ k
theorem Step.same {K : Kind} {T : TypeId} {w w2 : World} {A : Nat} {W : Value} {L : Nat} {V : Value} {st : St} {s : LSt} (h : PL K T w A W L V st s) (hb : Below w.heap.size w w2) : Step K T w w2 A W L V st s :=
  ⟨W, V, h.below hb, KeepsF.of_below hb _, fun _ g => .inl g⟩
theorem Step.drew {K : Kind} {T : TypeId} {w w2 : World} {A : Nat} {W : Value} {L : Nat} {V : Value} {st : St} {s : LSt} (h : Step K T w w2 A W L V st s) : Step K T w w2.drew A W L V st s := by
  obtain ⟨W2, V2, a, b, c⟩ := h
  exact ⟨W2, V2, a.drew, b.drew, c⟩
theorem Step.of {K : Kind} {T : TypeId} {w w1 w2 : World} {A : Nat} {W : Value} {L : Nat} {V : Value} {st : St} {s : LSt} (h : Step K T w1 w2 A W L V st s) (hb : Below w.heap.size w w1) : Step K T w w2 A W L V st s := by
  obtain ⟨W2, V2, a, b, c⟩ := h
  exact ⟨W2, V2, a, ⟨b.os.trans hb.os, b.tape.trans hb.tape, b.output.trans hb.output, Nat.le_trans hb.size b.size, fun k hk hn => (b.block k (Nat.lt_of_lt_of_le hk hb.size) hn).trans (hb.block k hk)⟩,
    fun k g => (c k g).imp id (fun g => Nat.le_trans hb.size g)⟩
theorem Step.then_ {K : Kind} {T : TypeId} {w w1 w2 : World} {A : Nat} {W W1 : Value} {L : Nat} {V V1 : Value} {st1 st2 : St} {s1 s2 : LSt} (h1 : PL K T w1 A W1 L V1 st1 s1) (hk : KeepsF w w1 (InF A W L V)) (hf : ∀ k, InF A W1 L V1 k → InF A W L V k ∨ w.heap.size ≤ k)
    (h2 : Step K T w1 w2 A W1 L V1 st2 s2) : Step K T w w2 A W L V st2 s2 := by
  obtain ⟨W2, V2, a, b, c⟩ := h2
  refine ⟨W2, V2, a, hk.trans b (fun k hk g => ?_), fun k g => ?_⟩
  · rcases hf k g with e | e
    · exact e
    · omega
  · rcases c k g with e | e
    · exact hf k e
    · exact .inr (Nat.le_trans hk.size e)
end Go.Proofs.Ytkiepnmbimkadaa.WL
