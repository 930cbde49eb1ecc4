/-
  Chapter 08: a slice of calls that comes in with a law.
-/
import Derived.Test.YtgomnnddfddkhaaMailFixed
import Derived.Deep.Slices
import Derived.Deep.Fields
import Derived.ChangeSame
import Derived.SizedLaws
namespace Go.Proofs.Ytgomnnddfddkhaa.SR
open Go.ChangeShapes Go.WideShapes Go.RowKit Go.Deep

section
variable {H : Type} {enc : TypeId × Value → H} {P : Program} {w : World} {base : Nat} {spare : Nat → Bool} {held : Bool}
/-- Of a slice of structs with one-cell fields: the cell of any field of any element, as it is read. -/
theorem struct_slice {t e : TypeId} {fs : Array Field} {fuel : Nat} {cs : List Value} {x : DataW H × List MemPlace} (ht : P.underlying t = some (.slice e)) (he : P.underlying e = some (.struct fs))
    (hone : oneCellFields P fs = true) (hC : P.cellsOf e = fs.size) (h : DataW.trod enc P w base spare held fuel t cs = some x) :
    cs = [.slice none 0 0] ∨ ∃ (a : Addr) (len cap : Nat), cs = [.slice (some a) len cap] ∧ len ≤ cap ∧ cap ≤ maxLen ∧
      ∀ i, i < len → ∀ (j : Nat) (f : Field), fs[j]? = some f → ∃ (v : Value) (y : DataW H × List MemPlace) (n : Nat), w.cell? (a.add (i * fs.size + j)) = some v ∧ DataW.trod enc P w base spare held n f.type [v] = some y := by
  rcases open_slice ht h with ⟨h0, _⟩ | ⟨a, len, cap, m, n, D, Pl, hcs, _, hl, hm, hmm, _, hi⟩
  · exact .inl h0
  · refine .inr ⟨a, len, cap, hcs, hl, hm, fun i hil j f hj => ?_⟩
    obtain ⟨cs2, hc, ht2⟩ := hi i (by rw [hmm]; split <;> omega)
    rw [hC] at hc
    obtain ⟨ys, n2, _, _, _, hyl, hf⟩ := DataW.trod_struct he ht2
    obtain ⟨_, hcl, hat⟩ := World.cells?_some hc
    obtain ⟨ho, hk⟩ := hone_of hone j f hj
    have hjl : j < fs.size := (Array.getElem?_eq_some_iff.1 hj).1
    have hread := hf j f hj
    rw [ho, hk, List.drop_eq_getElem_cons (by omega), List.getElem?_eq_getElem (by omega)] at hread
    have hcell := hat j hjl
    rw [List.getElem?_eq_getElem (by omega)] at hcell
    exact ⟨_, _, n2, by rw [← Go.Deep.add_add]; exact hcell, hread⟩
end
end Go.Proofs.Ytgomnnddfddkhaa.SR
namespace Go.Proofs.Ytgomnnddfddkhaa.ML
open Go.RowKit Go.Proofs.Ytgomnnddfddkhaa Go.ChangeShapes Go.WideShapes Go.Deep
structure OpM where
  kind : Int
  s : ByteArray
  n : Int
/-- The calls of a script, as they lie in memory. -/
def IsOps (w : World) (a : Option Addr) (len : Nat) (z : Nat → OpM) : Prop :=
  len = 0 ∨ ∃ x, a = some x ∧ ∀ i, i < len → w.cell? (x.add (i * 3)) = some (.int .i64 (z i).kind) ∧ w.cell? (x.add (i * 3 + 1)) = some (.string (z i).s) ∧ w.cell? (x.add (i * 3 + 2)) = some (.int .i64 (z i).n)
theorem low_cell {w w1 : World} {N : Nat} (hN : w.heap.size ≤ N) (hb : Below N w w1) {p : Addr} {v : Value} (hp : w.cell? p = some v) : w1.cell? p = some v := by
  have hlt : p.block < N := by
    unfold World.cell? at hp
    rcases Nat.lt_or_ge p.block w.heap.size with h | h
    · omega
    · rw [Array.getElem?_eq_none h] at hp
      cases hp
  exact (hb.cell hlt).trans hp
theorem add_off {x : Addr} (j k : Nat) (hk : 0 < k) : (⟨(x.add j).block, (x.add j).off + k, none⟩ : Addr) = x.add (j + k) := by
  unfold Addr.add
  rw [if_neg (show ¬ j + k = 0 by omega)]
  split
  · rename_i h
    subst h
    simp
  · simp [Nat.add_assoc]
theorem IsOps.loads {w w1 : World} {x : Addr} {len : Nat} {z : Nat → OpM} (h : IsOps w (some x) len z) {i N : Nat} (hi : i < len) (hN : w.heap.size ≤ N) (hb : Below N w w1) :
    (w1.cell? (x.add (i * 3)) = some (.int .i64 (z i).kind) ∧ w1.cell? (x.add (i * 3 + 1)) = some (.string (z i).s) ∧ w1.cell? (x.add (i * 3 + 2)) = some (.int .i64 (z i).n)) ∧
      w1.cell? ⟨(x.add (i * 3)).block, (x.add (i * 3)).off + 1, none⟩ = some (.string (z i).s) ∧ w1.cell? ⟨(x.add (i * 3)).block, (x.add (i * 3)).off + 2, none⟩ = some (.int .i64 (z i).n) := by
  rcases h with h | ⟨y, hy, hc⟩
  · omega
  · cases hy
    obtain ⟨c0, c1, c2⟩ := hc i hi
    have d0 := low_cell hN hb c0
    have d1 := low_cell hN hb c1
    have d2 := low_cell hN hb c2
    exact ⟨⟨d0, d1, d2⟩, by rw [add_off _ _ (by omega)]; exact d1, by rw [add_off _ _ (by omega)]; exact d2⟩
theorem ops_open {H : Type} {enc : TypeId × Value → H} {w : World} {base : Nat} {spare : Nat → Bool} {held : Bool} {len cap : Nat} {a : Option Addr} {fs : Array Field} {f0 f1 f2 : Field} {e : TypeId} {t : TypeId} {d : DataW H} {ps : List MemPlace}
    (ht : Try.prog.underlying t = some (.slice e)) (he : Try.prog.underlying e = some (.struct fs)) (hfs : fs = #[f0, f1, f2]) (hone : oneCellFields Try.prog fs = true) (hC : Try.prog.cellsOf e = fs.size)
    (h0 : Try.prog.underlying f0.type = some (.int .i64)) (h1 : Try.prog.underlying f1.type = some .string) (h2 : Try.prog.underlying f2.type = some (.int .i64))
    (h : DataW.Trod enc Try.prog w base spare held t (.slice a len cap) d ps) : ∃ z, IsOps w a len z := by
  obtain ⟨fuel, hf⟩ := h
  subst hfs
  rcases SR.struct_slice ht he hone hC hf with hcs | ⟨x, l, c, hcs, hl, hm, hcell⟩
  · simp [Value.cells] at hcs
    exact ⟨fun _ => ⟨0, ⟨#[]⟩, 0⟩, .inl hcs.2.1⟩
  · simp [Value.cells] at hcs
    obtain ⟨rfl, rfl, rfl⟩ := hcs
    have each : ∀ i, ∃ o : OpM, i < len → w.cell? (x.add (i * 3)) = some (.int .i64 o.kind) ∧ w.cell? (x.add (i * 3 + 1)) = some (.string o.s) ∧ w.cell? (x.add (i * 3 + 2)) = some (.int .i64 o.n) := by
      intro i
      by_cases hi : i < len
      · obtain ⟨v0, y0, n0, c0, r0⟩ := hcell i hi 0 f0 rfl
        obtain ⟨v1, y1, n1, c1, r1⟩ := hcell i hi 1 f1 rfl
        obtain ⟨v2, y2, n2, c2, r2⟩ := hcell i hi 2 f2 rfl
        obtain ⟨k0, e0, _, _⟩ := DataW.trod_int h0 r0
        obtain ⟨k1, e1, _, _⟩ := DataW.trod_string h1 r1
        obtain ⟨k2, e2, _, _⟩ := DataW.trod_int h2 r2
        simp only [List.cons.injEq, and_true] at e0 e1 e2
        subst e0
        subst e1
        subst e2
        exact ⟨⟨k0, k1, k2⟩, fun _ => ⟨c0, c1, c2⟩⟩
      · exact ⟨⟨0, ⟨#[]⟩, 0⟩, fun h => absurd h hi⟩
    obtain ⟨z, hz⟩ := Classical.axiomOfChoice each
    exact ⟨z, .inr ⟨x, rfl, hz⟩⟩
theorem and_mask (x : Int) {c : Nat} (hc : c < 65536) : ∃ m : Nat, Go.bits .and .i64 x (c : Int) = (m : Int) ∧ m ≤ c := by
  refine ⟨(BitVec.ofInt 64 x &&& BitVec.ofInt 64 (c : Int)).toNat, ?_, ?_⟩
  · have hle : (BitVec.ofInt 64 x &&& BitVec.ofInt 64 (c : Int)).toNat ≤ c := by
      rw [BitVec.toNat_and]
      refine Nat.le_trans Nat.and_le_right ?_
      rw [BitVec.ofInt_natCast, BitVec.toNat_ofNat]
      exact Nat.mod_le _ _
    show IntKind.i64.wrap (((BitVec.ofInt 64 x &&& BitVec.ofInt 64 (c : Int)).toNat : Nat) : Int) = _
    exact IntWalk.i64_in _ (by omega)
  · rw [BitVec.toNat_and]
    refine Nat.le_trans Nat.and_le_right ?_
    rw [BitVec.ofInt_natCast, BitVec.toNat_ofNat]
    exact Nat.mod_le _ _
theorem cut40 (s : ByteArray) : ∃ j : Int, (if 40 < (s.size : Int) then 40 else (s.size : Int)) = j ∧ 0 ≤ j ∧ j ≤ s.size ∧ j ≤ 40 := ⟨_, rfl, by split <;> omega, by split <;> omega, by split <;> omega⟩
theorem max2_int (k k' : IntKind) (x y : Int) : Builtin.max2 (.int k x) (.int k' y) = pure (.int k (if x < y then y else x)) := by simp only [Builtin.max2, gt_iff_lt]
theorem min2_int (k k' : IntKind) (x y : Int) : Builtin.min2 (.int k x) (.int k' y) = pure (.int k (if y < x then y else x)) := by simp only [Builtin.min2]
theorem max_two (ats : Array TypeId) (ty : TypeId) (a b : Value) : Builtin.max_ ats ty #[a, b] = (Builtin.max2 a b >>= fun s => pure s) := by simp only [Builtin.max_, List.foldlM_cons, List.foldlM_nil]
theorem min_two (ats : Array TypeId) (ty : TypeId) (a b : Value) : Builtin.min_ ats ty #[a, b] = (Builtin.min2 a b >>= fun s => pure s) := by simp only [Builtin.min_, List.foldlM_cons, List.foldlM_nil]
end Go.Proofs.Ytgomnnddfddkhaa.ML
