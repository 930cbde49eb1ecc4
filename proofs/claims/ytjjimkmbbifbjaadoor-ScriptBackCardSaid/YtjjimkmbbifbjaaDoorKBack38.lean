import Derived.Deep.Slices
import Derived.Deep.Fields
import Derived.ChangeSame
import Derived.WideShapes
import Derived.Test.YtjjimkmbbifbjaaDoorKBack30
namespace Go.Proofs.YtjjimkmbbifbjaaDoor.SRow
open Go Go.ChangeShapes Go.WideShapes Go.RowKit Go.Deep Go.Proofs.YtjjimkmbbifbjaaDoor.Pr Go.Proofs.YtjjimkmbbifbjaaDoorW.PrintWords
section
variable {H : Type} {enc : TypeId × Value → H} {P : Program} {w : World} {base : Nat} {spare : Nat → Bool} {held : Bool}
theorem struct_slice {t e : TypeId} {fs : Array Field} {fuel : Nat} {cs : List Value} {x : DataW H × List MemPlace} (ht : P.underlying t = some (.slice e)) (he : P.underlying e = some (.struct fs))
    (hone : oneCellFields P fs = true) (hC : P.cellsOf e = fs.size) (h : DataW.trod enc P w base spare held fuel t cs = some x) :
    cs = [.slice none 0 0] ∨ ∃ (a : Addr) (len cap : Nat), cs = [.slice (some a) len cap] ∧ len ≤ cap ∧ cap ≤ maxLen ∧
      ∀ i, i < len → ∀ (j : Nat) (f : Field), fs[j]? = some f → ∃ (v : Value) (y : DataW H × List MemPlace) (n : Nat), w.cell? (a.add (i * fs.size + j)) = some v ∧ DataW.trod enc P w base spare held n f.type [v] = some y := by
  rcases open_slice ht h with ⟨h0, _⟩ | ⟨a, len, cap, m, n, D, Pl, hcs, _, hl, hm, hmm, _, hi⟩
  · exact .inl h0
  · refine .inr ⟨a, len, cap, hcs, hl, hm, fun i hil j f hj => ?_⟩
    obtain ⟨cs2, hc, ht2⟩ := hi i (by rw [hmm]; split <;> omega)
    rw [hC] at hc
    obtain ⟨ys, n2, _, _, _, hyl, hf⟩ := DataW.trod_struct he ht2
    obtain ⟨_, hcl, hat⟩ := World.cells?_some hc
    obtain ⟨ho, hk⟩ := hone_of hone j f hj
    have hjl : j < fs.size := (Array.getElem?_eq_some_iff.1 hj).1
    have hread := hf j f hj
    rw [ho, hk, List.drop_eq_getElem_cons (by omega), List.getElem?_eq_getElem (by omega)] at hread
    have hcell := hat j hjl
    rw [List.getElem?_eq_getElem (by omega)] at hcell
    exact ⟨_, _, n2, by rw [← Go.Deep.add_add]; exact hcell, hread⟩
end
set_option maxRecDepth 100000 in
theorem acts_open {H : Type} {enc : TypeId × Value → H} {w : World} {base : Nat} {spare : Nat → Bool} {held : Bool} {len cap : Nat} {a : Option Addr} {t : TypeId} {d : DataW H} {ps : List MemPlace}
    (ht : Tryd.prog.underlying t = some (.slice 23)) (h : DataW.Trod enc Tryd.prog w base spare held t (.slice a len cap) d ps) : ∃ l : List S23, l.length = len ∧ Kd.C k23 w a l.length l ∧ l.length ≤ cap := by
  obtain ⟨fuel, hf⟩ := h
  rcases struct_slice ht Tryd.underlying23 (by kernel_rfl) (by kernel_rfl) hf with hcs | ⟨x, l, c, hcs, hl, hm, hcell⟩
  · simp [Value.cells] at hcs
    obtain ⟨rfl, rfl, rfl⟩ := hcs
    exact ⟨[], rfl, ⟨rfl, by simp, fun h => absurd h (by simp)⟩, Nat.le_refl _⟩
  · simp [Value.cells] at hcs
    obtain ⟨rfl, rfl, rfl⟩ := hcs
    have each : ∀ i, ∃ o : S23, i < len → w.cell? (x.add (i * 8)) = some (.int .i64 o.f0) ∧ w.cell? (x.add (i * 8 + 1)) = some (.int .i64 o.f1) ∧ w.cell? (x.add (i * 8 + 2)) = some (.int .i64 o.f2) ∧ w.cell? (x.add (i * 8 + 3)) = some (.int .i64 o.f3) ∧ w.cell? (x.add (i * 8 + 4)) = some (.string o.f4) ∧ w.cell? (x.add (i * 8 + 5)) = some (.string o.f5) ∧ w.cell? (x.add (i * 8 + 6)) = some (.bool o.f6) ∧ w.cell? (x.add (i * 8 + 7)) = some (.int .i64 o.f7) := by
      intro i
      by_cases hi : i < len
      · obtain ⟨v0, y0, n0, c0, r0⟩ := hcell i hi 0 _ rfl
        obtain ⟨v1, y1, n1, c1, r1⟩ := hcell i hi 1 _ rfl
        obtain ⟨v2, y2, n2, c2, r2⟩ := hcell i hi 2 _ rfl
        obtain ⟨v3, y3, n3, c3, r3⟩ := hcell i hi 3 _ rfl
        obtain ⟨v4, y4, n4, c4, r4⟩ := hcell i hi 4 _ rfl
        obtain ⟨v5, y5, n5, c5, r5⟩ := hcell i hi 5 _ rfl
        obtain ⟨v6, y6, n6, c6, r6⟩ := hcell i hi 6 _ rfl
        obtain ⟨v7, y7, n7, c7, r7⟩ := hcell i hi 7 _ rfl
        obtain ⟨k0, e0, _, w0⟩ := DataW.trod_int Tryd.underlying3 r0
        obtain ⟨k1, e1, _, w1⟩ := DataW.trod_int Tryd.underlying3 r1
        obtain ⟨k2, e2, _, w2⟩ := DataW.trod_int Tryd.underlying3 r2
        obtain ⟨k3, e3, _, w3⟩ := DataW.trod_int Tryd.underlying3 r3
        obtain ⟨k4, e4, _, w4⟩ := DataW.trod_string Tryd.underlying9 r4
        obtain ⟨k5, e5, _, w5⟩ := DataW.trod_string Tryd.underlying9 r5
        obtain ⟨k6, e6, _⟩ := DataW.trod_bool Tryd.underlying4 r6
        obtain ⟨k7, e7, _, w7⟩ := DataW.trod_int Tryd.underlying3 r7
        simp only [List.cons.injEq, and_true] at e0 e1 e2 e3 e4 e5 e6 e7
        subst e0 e1 e2 e3 e4 e5 e6 e7
        exact ⟨⟨k0, k1, k2, k3, k4, k5, k6, k7⟩, fun _ => ⟨c0, c1, c2, c3, c4, c5, c6, c7⟩⟩
      · exact ⟨⟨0, 0, 0, 0, ⟨#[]⟩, ⟨#[]⟩, false, 0⟩, fun h => absurd h hi⟩
    obtain ⟨z, hz⟩ := Classical.axiomOfChoice each
    have hlen : ((List.range len).map z).length = len := by rw [List.length_map, List.length_range]
    refine ⟨(List.range len).map z, hlen, ⟨rfl, by rw [hlen]; unfold maxLen at hm; omega, fun _ => ⟨x, rfl, fun j p hj => ?_⟩⟩, by rw [hlen]; exact hl⟩
    rw [List.getElem?_map] at hj
    obtain ⟨i, hi, rfl⟩ := Option.map_eq_some_iff.1 hj
    obtain ⟨hjl, rfl⟩ := List.getElem?_eq_some_iff.1 hi
    rw [List.length_range] at hjl
    rw [List.getElem_range]
    obtain ⟨c0, c1, c2, c3, c4, c5, c6, c7⟩ := hz j hjl
    refine ⟨_, rfl, k23_mk w _, fun i u hu => ?_⟩
    rcases i with _ | _ | _ | _ | _ | _ | _ | _ | i
    · simp at hu
      subst hu
      exact c0
    · simp at hu
      subst hu
      exact c1
    · simp at hu
      subst hu
      exact c2
    · simp at hu
      subst hu
      exact c3
    · simp at hu
      subst hu
      exact c4
    · simp at hu
      subst hu
      exact c5
    · simp at hu
      subst hu
      exact c6
    · simp at hu
      subst hu
      exact c7
    · simp at hu
end Go.Proofs.YtjjimkmbbifbjaaDoor.SRow
