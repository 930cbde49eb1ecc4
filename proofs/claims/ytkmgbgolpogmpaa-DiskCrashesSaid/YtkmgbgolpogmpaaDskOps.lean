/-
  A slice of structs that comes in with a law: each element's cells; then chapter 09's calls.
-/
import Derived.Test.YtkmgbgolpogmpaaDskSound
import Derived.Deep.Slices
import Derived.Deep.Fields
import Derived.ChangeSame
namespace Go.Proofs.Ytkmgbgolpogmpaa.SR
open Go.ChangeShapes Go.WideShapes Go.RowKit Go.Deep

section
variable {H : Type} {enc : TypeId × Value → H} {P : Program} {w : World} {base : Nat} {spare : Nat → Bool} {held : Bool}
/-- Of a slice of structs with one-cell fields: the cell of any field of any element, as it is read. -/
theorem struct_slice {t e : TypeId} {fs : Array Field} {fuel : Nat} {cs : List Value} {x : DataW H × List MemPlace} (ht : P.underlying t = some (.slice e)) (he : P.underlying e = some (.struct fs))
    (hone : oneCellFields P fs = true) (hC : P.cellsOf e = fs.size) (h : DataW.trod enc P w base spare held fuel t cs = some x) :
    cs = [.slice none 0 0] ∨ ∃ (a : Addr) (len cap : Nat), cs = [.slice (some a) len cap] ∧ len ≤ cap ∧ cap ≤ maxLen ∧
      ∀ i, i < len → ∀ (j : Nat) (f : Field), fs[j]? = some f → ∃ (v : Value) (y : DataW H × List MemPlace) (n : Nat), w.cell? (a.add (i * fs.size + j)) = some v ∧ DataW.trod enc P w base spare held n f.type [v] = some y := by
  rcases open_slice ht h with ⟨h0, _⟩ | ⟨a, len, cap, m, n, D, Pl, hcs, _, hl, hm, hmm, _, hi⟩
  · exact .inl h0
  · refine .inr ⟨a, len, cap, hcs, hl, hm, fun i hil j f hj => ?_⟩
    obtain ⟨cs2, hc, ht2⟩ := hi i (by rw [hmm]; split <;> omega)
    rw [hC] at hc
    obtain ⟨ys, n2, _, _, _, hyl, hf⟩ := DataW.trod_struct he ht2
    obtain ⟨_, hcl, hat⟩ := World.cells?_some hc
    obtain ⟨ho, hk⟩ := hone_of hone j f hj
    have hjl : j < fs.size := (Array.getElem?_eq_some_iff.1 hj).1
    have hread := hf j f hj
    rw [ho, hk, List.drop_eq_getElem_cons (by omega), List.getElem?_eq_getElem (by omega)] at hread
    have hcell := hat j hjl
    rw [List.getElem?_eq_getElem (by omega)] at hcell
    exact ⟨_, _, n2, by rw [← Go.Deep.add_add]; exact hcell, hread⟩
end
end Go.Proofs.Ytkmgbgolpogmpaa.SR
namespace Go.Proofs.Ytkmgbgolpogmpaa.DK
open Go.RowKit Go.Proofs.Ytkmgbgolpogmpaa Go.ChangeShapes Go.WideShapes Go.Deep
/-- The calls of a script, as they lie in memory. -/
def IsOps (w : World) (a : Option Addr) (len : Nat) (z : Nat → OpV) : Prop :=
  len = 0 ∨ ∃ x, a = some x ∧ len ≤ maxLen ∧ ∀ i, i < len → w.cell? (x.add (i * 4)) = some (.int .i64 (z i).kind) ∧ w.cell? (x.add (i * 4 + 1)) = some (.int .i64 (z i).file) ∧ w.cell? (x.add (i * 4 + 2)) = some (.string (z i).s) ∧ w.cell? (x.add (i * 4 + 3)) = some (.int .i64 (z i).n) ∧ (z i).s.size ≤ maxLen
theorem IsOps.below {w w1 : World} {a : Option Addr} {len : Nat} {z : Nat → OpV} (h : IsOps w a len z) {N : Nat} (hN : w.heap.size ≤ N) (hb : Below N w w1) : IsOps w1 a len z := by
  rcases h with h | ⟨x, ha, hm, hc⟩
  · exact .inl h
  · refine .inr ⟨x, ha, hm, fun i hi => ?_⟩
    obtain ⟨h0, h1, h2, h3, h4⟩ := hc i hi
    have low : ∀ (p : Addr) (v : Value), w.cell? p = some v → w1.cell? p = some v := fun p v hp => by
      have hlt : p.block < N := by
        unfold World.cell? at hp
        rcases Nat.lt_or_ge p.block w.heap.size with h | h
        · omega
        · rw [Array.getElem?_eq_none h] at hp
          cases hp
      exact (hb.cell hlt).trans hp
    exact ⟨low _ _ h0, low _ _ h1, low _ _ h2, low _ _ h3, h4⟩
/-- The four cells as a load of the whole struct looks for them. -/
theorem four_cells {w : World} {x : Addr} {v0 v1 v2 v3 : Value} (j : Nat) (_h0 : w.cell? (x.add j) = some v0) (h1 : w.cell? (x.add (j + 1)) = some v1) (h2 : w.cell? (x.add (j + 2)) = some v2) (h3 : w.cell? (x.add (j + 3)) = some v3) :
    w.cell? ⟨(x.add j).block, (x.add j).off + 1, none⟩ = some v1 ∧ w.cell? ⟨(x.add j).block, (x.add j).off + 2, none⟩ = some v2 ∧ w.cell? ⟨(x.add j).block, (x.add j).off + 3, none⟩ = some v3 := by
  have e : ∀ k, 0 < k → (⟨(x.add j).block, (x.add j).off + k, none⟩ : Addr) = x.add (j + k) := by
    intro k hk
    unfold Addr.add
    rw [if_neg (show ¬ j + k = 0 by omega)]
    split
    · rename_i h
      subst h
      simp
    · simp [Nat.add_assoc]
  rw [e 1 (by omega), e 2 (by omega), e 3 (by omega)]
  exact ⟨h1, h2, h3⟩
/-- A field of a struct. -/
theorem ops_open {H : Type} {enc : TypeId × Value → H} {w : World} {base : Nat} {spare : Nat → Bool} {held : Bool} {len cap : Nat} {a : Option Addr} {fs : Array Field} {f0 f1 f2 f3 : Field} {e : TypeId} {t : TypeId} {d : DataW H} {ps : List MemPlace}
    (ht : Try.prog.underlying t = some (.slice e)) (he : Try.prog.underlying e = some (.struct fs)) (hfs : fs = #[f0, f1, f2, f3]) (hone : oneCellFields Try.prog fs = true) (hC : Try.prog.cellsOf e = fs.size)
    (h0 : Try.prog.underlying f0.type = some (.int .i64)) (h1 : Try.prog.underlying f1.type = some (.int .i64)) (h2 : Try.prog.underlying f2.type = some .string) (h3 : Try.prog.underlying f3.type = some (.int .i64))
    (h : DataW.Trod enc Try.prog w base spare held t (.slice a len cap) d ps) : ∃ z, IsOps w a len z := by
  obtain ⟨fuel, hf⟩ := h
  subst hfs
  rcases SR.struct_slice ht he hone hC hf with hcs | ⟨x, l, c, hcs, hl, hm, hcell⟩
  · simp [Value.cells] at hcs
    exact ⟨fun _ => ⟨0, 0, ⟨#[]⟩, 0⟩, .inl hcs.2.1⟩
  · simp [Value.cells] at hcs
    obtain ⟨rfl, rfl, rfl⟩ := hcs
    have each : ∀ i, ∃ o : OpV, i < len → w.cell? (x.add (i * 4)) = some (.int .i64 o.kind) ∧ w.cell? (x.add (i * 4 + 1)) = some (.int .i64 o.file) ∧ w.cell? (x.add (i * 4 + 2)) = some (.string o.s) ∧ w.cell? (x.add (i * 4 + 3)) = some (.int .i64 o.n) ∧ o.s.size ≤ maxLen := by
      intro i
      by_cases hi : i < len
      · obtain ⟨v0, y0, n0, c0, r0⟩ := hcell i hi 0 f0 rfl
        obtain ⟨v1, y1, n1, c1, r1⟩ := hcell i hi 1 f1 rfl
        obtain ⟨v2, y2, n2, c2, r2⟩ := hcell i hi 2 f2 rfl
        obtain ⟨v3, y3, n3, c3, r3⟩ := hcell i hi 3 f3 rfl
        obtain ⟨k0, e0, _, _⟩ := DataW.trod_int h0 r0
        obtain ⟨k1, e1, _, _⟩ := DataW.trod_int h1 r1
        obtain ⟨k2, e2, _, z2⟩ := DataW.trod_string h2 r2
        obtain ⟨k3, e3, _, _⟩ := DataW.trod_int h3 r3
        simp only [List.cons.injEq, and_true] at e0 e1 e2 e3
        subst e0
        subst e1
        subst e2
        subst e3
        exact ⟨⟨k0, k1, k2, k3⟩, fun _ => ⟨c0, c1, c2, c3, z2⟩⟩
      · exact ⟨⟨0, 0, ⟨#[]⟩, 0⟩, fun h => absurd h hi⟩
    obtain ⟨z, hz⟩ := Classical.axiomOfChoice each
    exact ⟨z, .inr ⟨x, rfl, by omega, hz⟩⟩
end Go.Proofs.Ytkmgbgolpogmpaa.DK
