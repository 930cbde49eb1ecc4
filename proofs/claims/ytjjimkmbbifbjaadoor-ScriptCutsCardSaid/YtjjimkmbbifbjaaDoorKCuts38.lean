import Derived.Deep.Slices
import Derived.Deep.Fields
import Derived.ChangeSame
import Derived.WideShapes
import Derived.Test.YtjjimkmbbifbjaaDoorKCuts30
namespace Go.Proofs.YtjjimkmbbifbjaaDoor.SRow
open Go Go.ChangeShapes Go.WideShapes Go.RowKit Go.Deep Go.Proofs.YtjjimkmbbifbjaaDoor.Pr Go.Proofs.YtjjimkmbbifbjaaDoorW.PrintWords
section
variable {H : Type} {enc : TypeId × Value → H} {P : Program} {w : World} {base : Nat} {spare : Nat → Bool} {held : Bool}
theorem struct_value {r : Reach} {b0 : Nat} {t : TypeId} {fs : Array Field} {v : Value} {d : DataW H} {ps : List MemPlace} (hs : P.underlying t = some (.struct fs)) (hone : oneCellFields P fs = true) (hC : P.cellsOf t = fs.size)
    (hv : Value.okWide P w r b0 t v) (h : DataW.Trod enc P w base spare held t v d ps) :
    ∃ cs : Array Value, v = .agg cs ∧ cs.size = fs.size ∧ ∀ (j : Nat) (f : Field), fs[j]? = some f → ∃ (u : Value) (y : DataW H × List MemPlace) (n : Nat), cs[j]? = some u ∧ DataW.trod enc P w base spare held n f.type [u] = some y := by
  obtain ⟨cs, rfl, hsz⟩ := okWide_struct hs hv
  refine ⟨cs, rfl, hsz.trans hC, fun j f hj => ?_⟩
  obtain ⟨fuel, hf⟩ := h
  obtain ⟨xs, n, _, _, _, hlen, hg⟩ := DataW.trod_struct hs hf
  obtain ⟨ho, hk⟩ := hone_of hone j f hj
  have hjl : j < fs.size := (Array.getElem?_eq_some_iff.1 hj).1
  have hjc : j < cs.toList.length := by rw [Array.length_toList]; omega
  have hread := hg j f hj
  simp only [Value.cells] at hread
  rw [ho, hk, List.drop_eq_getElem_cons hjc, List.getElem?_eq_getElem (by omega)] at hread
  exact ⟨_, _, n, by simp [Array.getElem?_eq_getElem (show j < cs.size by omega)], hread⟩
end
set_option maxRecDepth 100000 in
theorem act_open {H : Type} {enc : TypeId × Value → H} {w : World} {base : Nat} {spare : Nat → Bool} {held : Bool} {r : Reach} {b0 : Nat} {v : Value} {d : DataW H} {ps : List MemPlace}
    (hv : Value.okWide Tryd.prog w r b0 23 v) (h : DataW.Trod enc Tryd.prog w base spare held 23 v d ps) :
    ∃ (x0 : Int) (x1 : Int) (x2 : Int) (x3 : Int) (x4 : ByteArray) (x5 : ByteArray) (x6 : Bool) (x7 : Int), v = .agg #[.int .i64 x0, .int .i64 x1, .int .i64 x2, .int .i64 x3, .string x4, .string x5, .bool x6, .int .i64 x7] ∧ (Lit.int .i64 x0).wf = true ∧ (Lit.int .i64 x1).wf = true ∧ (Lit.int .i64 x2).wf = true ∧ (Lit.int .i64 x3).wf = true ∧ x4.size ≤ maxLen ∧ x5.size ≤ maxLen ∧ (Lit.int .i64 x7).wf = true := by
  obtain ⟨cs, rfl, hsz, hf⟩ := struct_value Tryd.underlying23 (by kernel_rfl) (by kernel_rfl) hv h
  obtain ⟨v0, y0, n0, c0, r0⟩ := hf 0 _ rfl
  obtain ⟨v1, y1, n1, c1, r1⟩ := hf 1 _ rfl
  obtain ⟨v2, y2, n2, c2, r2⟩ := hf 2 _ rfl
  obtain ⟨v3, y3, n3, c3, r3⟩ := hf 3 _ rfl
  obtain ⟨v4, y4, n4, c4, r4⟩ := hf 4 _ rfl
  obtain ⟨v5, y5, n5, c5, r5⟩ := hf 5 _ rfl
  obtain ⟨v6, y6, n6, c6, r6⟩ := hf 6 _ rfl
  obtain ⟨v7, y7, n7, c7, r7⟩ := hf 7 _ rfl
  obtain ⟨k0, e0, _, w0⟩ := DataW.trod_int Tryd.underlying3 r0
  obtain ⟨k1, e1, _, w1⟩ := DataW.trod_int Tryd.underlying3 r1
  obtain ⟨k2, e2, _, w2⟩ := DataW.trod_int Tryd.underlying3 r2
  obtain ⟨k3, e3, _, w3⟩ := DataW.trod_int Tryd.underlying3 r3
  obtain ⟨k4, e4, _, w4⟩ := DataW.trod_string Tryd.underlying9 r4
  obtain ⟨k5, e5, _, w5⟩ := DataW.trod_string Tryd.underlying9 r5
  obtain ⟨k6, e6, _⟩ := DataW.trod_bool Tryd.underlying4 r6
  obtain ⟨k7, e7, _, w7⟩ := DataW.trod_int Tryd.underlying3 r7
  simp only [List.cons.injEq, and_true] at e0 e1 e2 e3 e4 e5 e6 e7
  subst e0 e1 e2 e3 e4 e5 e6 e7
  refine ⟨k0, k1, k2, k3, k4, k5, k6, k7, ?_, w0, w1, w2, w3, w4, w5, w7⟩
  congr 1
  apply Array.ext_getElem?
  intro i
  rcases i with _ | _ | _ | _ | _ | _ | _ | _ | i
  · exact c0
  · exact c1
  · exact c2
  · exact c3
  · exact c4
  · exact c5
  · exact c6
  · exact c7
  · rw [Array.getElem?_eq_none (by rw [hsz]; simp), Array.getElem?_eq_none (by simp)]
end Go.Proofs.YtjjimkmbbifbjaaDoor.SRow
