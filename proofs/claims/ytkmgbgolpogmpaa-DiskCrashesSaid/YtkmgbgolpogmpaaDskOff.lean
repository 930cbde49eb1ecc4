/-
  Chapter 09: several disks side by side.
-/
import Derived.Test.YtkmgbgolpogmpaaDskPlay
namespace Go.Proofs.Ytkmgbgolpogmpaa.DK
open Go.RowKit Go.Proofs.Ytkmgbgolpogmpaa

/-- Two disks share no block. -/
structure Off (B : Nat) (V : Value) (A : Nat) (W : Value) : Prop where
  a : B ≠ A
  b : V.ownBlock ≠ some A
  c : W.ownBlock ≠ some B
  d : ∀ b, V.ownBlock = some b → W.ownBlock ≠ some b
theorem nil_own : (Value.slice none 0 0).ownBlock = none := rfl
theorem Off.symm {B A : Nat} {V W : Value} (h : Off B V A W) : Off A W B V := ⟨h.a.symm, h.c, h.b, fun b e1 e2 => h.d b e2 e1⟩
theorem Off.nil {B A : Nat} {V W : Value} (h : Off B V A W) : Off B V A (.slice none 0 0) := ⟨h.a, h.b, (fun e => by rw [nil_own] at e; cases e), fun b _ e => by rw [nil_own] at e; cases e⟩
theorem Off.fresh {w : World} {A B : Nat} {V W : Value} {n k : Four} {l : List Wr} (h : At w A W n k l) (hB : w.heap.size ≤ B) (hV : ∀ b, V.ownBlock = some b → w.heap.size ≤ b) : Off B V A W :=
  have hA := h.lt
  have hW := fun b e => (h.row.lt b e).2
  ⟨by omega, (fun e => by have := hV _ e; omega), (fun e => by have := hW _ e; omega), fun b e1 e2 => by have := hV _ e1; have := hW _ e2; omega⟩
theorem Off.grow {w : World} {A B : Nat} {V W W2 : Value} {n k : Four} {l : List Wr} (h : Off B V A W) (hB : At w B V n k l) (hW : W2.ownBlock = W.ownBlock ∨ ∀ b, W2.ownBlock = some b → w.heap.size ≤ b) : Off B V A W2 :=
  have hlt := hB.lt
  have hV := fun b e => (hB.row.lt b e).2
  ⟨h.a, h.b, (fun e => by
    rcases hW with g | g
    · rw [g] at e; exact h.c e
    · have := g _ e; omega), fun b e1 e2 => by
    rcases hW with g | g
    · rw [g] at e2; exact h.d b e1 e2
    · have := g _ e2; have := hV _ e1; omega⟩
theorem At.off {w w2 : World} {A B : Nat} {W V : Value} {n k : Four} {l : List Wr} (ho : At w B V n k l) (hK : Keeps w w2 A W) (h : Off B V A W) : At w2 B V n k l := ho.keeps hK h.a h.b h.c h.d
theorem Own.off {N : Nat} {w0 w w2 : World} {A B : Nat} {W W2 V : Value} {n k n2 k2 : Four} {l l2 : List Wr} (ho : Own N w0 w B V n k l) (hK : Keeps w w2 A W) (h : Off B V A W) (hx : Own N w0 w2 A W2 n2 k2 l2) : Own N w0 w2 B V n k l :=
  ⟨ho.at_.off hK h, hx.bel, hx.base, ho.low, ho.row⟩
theorem Own.copied {N : Nat} {w0 w w2 : World} {A B : Nat} {W V : Value} {n k n2 k2 : Four} {l l2 : List Wr} (h : Own N w0 w A W n k l) (hb : Below w.heap.size w w2) (ha : At w2 B V n2 k2 l2) (hB : w.heap.size ≤ B) (hV : ∀ b, V.ownBlock = some b → w.heap.size ≤ b) : Own N w0 w2 B V n2 k2 l2 :=
  ⟨ha, (h.below hb).bel, (h.below hb).base, Nat.le_trans h.base hB, fun b e => Nat.le_trans h.base (hV b e)⟩
theorem Own.alloc {N : Nat} {w0 w : World} {A : Nat} {W : Value} {n k : Four} {l : List Wr} (h : Own N w0 w A W n k l) (o : Obj) : Own N w0 (w.alloc o) A W n k l := h.below ((Below.refl _ _).alloc (Nat.le_refl _) o)
theorem Own.drew {N : Nat} {w0 w : World} {A : Nat} {W : Value} {n k : Four} {l : List Wr} (h : Own N w0 w A W n k l) : Own N w0 w.drew A W n k l := ⟨h.at_.drew, h.bel.drew, h.base, h.low, h.row⟩
/-- A block that a call of a disk leaves alone. -/
theorem Keeps.same {w w2 : World} {A B : Nat} {W : Value} {o : Obj} (hK : Keeps w w2 A W) (h : w.heap[B]? = some o) (h1 : B ≠ A) (h2 : W.ownBlock ≠ some B) : w2.heap[B]? = some o :=
  (hK.block B (Array.getElem?_eq_some_iff.1 h).1 h1 h2).trans h
theorem cell_of {w : World} {B : Nat} {C : Array Value} {t : TypeId} {f : Nat × Nat} (h : w.heap[B]? = some (.cells C t f)) (j : Nat) : w.cell? ⟨B, j, none⟩ = C[j]? := by simp [World.cell?, h]
/-- play, its arguments written out. -/
theorem play_calls {w : World} {A : Nat} {W : Value} {st : St} (h : At w A W st.n st.k st.l) {b : Nat} (hs : Sound b st) (hb : b ≤ 1000) (kd fl : Int) (s : ByteArray) (nn : Int) :
    Calls Try.prog 14 #[.pointer (some ⟨A, 0, none⟩), .agg #[.int .i64 kd, .int .i64 fl, .string s, .int .i64 nn]] w fun e w2 => e = .returned (.int .i64 (ans st ⟨kd, fl, s, nn⟩)) ∧ Puts w w2 A W (next st ⟨kd, fl, s, nn⟩).n (next st ⟨kd, fl, s, nn⟩).k (next st ⟨kd, fl, s, nn⟩).l :=
  play_walk h hs hb ⟨kd, fl, s, nn⟩
end Go.Proofs.Ytkmgbgolpogmpaa.DK
