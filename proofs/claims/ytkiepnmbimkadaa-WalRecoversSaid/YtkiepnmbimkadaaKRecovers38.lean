import Derived.Deep.Slices
import Derived.Deep.Fields
import Derived.ChangeSame
import Derived.SizedLaws
import Derived.Test.YtkiepnmbimkadaaKRecovers37
section
namespace Go.Proofs.Ytkiepnmbimkadaa.WL
open Go.RowKit Go.Proofs.Ytkiepnmbimkadaa Go.Proofs.Ytkiepnmbimkadaa.DK Go.Proofs.Ytkiepnmbimkadaa.Pr Go.Proofs.Ytkiepnmbimkadaa.VP Go.Proofs.Ytkiepnmbimkadaa.VF Go.Proofs.Ytkiepnmbimkadaa.CF Go.Proofs.Ytkiepnmbimkadaa.WF Go.Proofs.YtkiepnmbimkadaaW.PrintWords Go.Proofs.YtkiepnmbimkadaaW.PrintLast
def pre (r : Int) (x : ByteArray) : ByteArray := strOfNums (enc r) ++ x
theorem pre_bytes {r : Int} (hr : 0 ≤ r) (x : ByteArray) : bytesOf (pre r x) = enc r ++ bytesOf x := by
  unfold pre
  rw [bytes_append, bytes_son (enc_by hr)]
theorem pre_size2 (r : Int) (x : ByteArray) : (pre r x).size = sz r + x.size := pre_size r x
theorem row_bytes (r : Int) (x : ByteArray) : bytesOf (rowB r x) = sealB (pre r x) := bytes_son (seal_by _)
theorem text_bytes (r : Int) : ∀ l : List ByteArray, bytesOf (textS r l) = sealed (l.map (pre r))
  | [] => rfl
  | x :: l => by
    show bytesOf (rowB r x ++ textS r l) = sealB (pre r x) ++ sealed (l.map (pre r))
    rw [bytes_append, row_bytes, text_bytes r l]
theorem get_pre {r : Int} (h0 : 0 ≤ r) (h1 : r ≤ 9223372036854775807) (x : ByteArray) : getS (pre r x) 0 = (r, (sz r : Int), 0) := by
  unfold getS
  rw [if_neg (by omega), show (0 : Int).toNat = 0 from rfl, List.drop_zero, pre_bytes h0, dec_enc h0 (by omega)]
  simp
theorem ext_pre {r : Int} (h0 : 0 ≤ r) (x : ByteArray) : (pre r x).extract (sz r) (pre r x).size = x := by
  apply bytes_inj
  rw [bytes_extract, pre_bytes h0, List.drop_left' (enc_length r), pre_size2, List.take_of_length_le (by rw [size_bytes]; omega)]
theorem recs_same {r : Int} (h0 : 0 ≤ r) (h1 : r ≤ 9223372036854775807) : ∀ l : List ByteArray, recsS r (l.map (pre r)) = l
  | [] => rfl
  | x :: l => by
    show recsS r (pre r x :: l.map (pre r)) = _
    rw [recsS_hit (get_pre h0 h1 x), Int.toNat_natCast, ext_pre h0, recs_same h0 h1 l]
theorem recs_other {r q : Int} (h0 : 0 ≤ r) (h1 : r ≤ 9223372036854775807) (hq : r ≠ q) : ∀ l : List ByteArray, recsS q (l.map (pre r)) = []
  | [] => rfl
  | x :: l => by
    show recsS q (pre r x :: l.map (pre r)) = _
    rw [recsS_miss (get_pre h0 h1 x) hq, recs_other h0 h1 hq l]
theorem sealed_len (l : List ByteArray) : l.length ≤ (sealed l).length := by
  induction l with
  | nil => exact Nat.le_refl _
  | cons x l ih =>
    have := seal_length x
    simp only [sealed, List.length_append, List.length_cons]
    omega
theorem all_torn {r : Int} (h0 : 0 ≤ r) (l : List ByteArray) (hl : ∀ x ∈ l, x.size ≤ 60000) (x : ByteArray) (hx : x.size ≤ 60000) (j : Nat) (hj : j < (rowB r x).size) (hs : (textS r l ++ (rowB r x).extract 0 j).size ≤ 1000000) :
    (allS (textS r l ++ (rowB r x).extract 0 j)).1 = l.map (pre r) := by
  have hz := sz_bd r
  have hb : bytesOf (textS r l ++ (rowB r x).extract 0 j) = sealed (l.map (pre r)) ++ (sealB (pre r x)).take j := by
    rw [bytes_append, text_bytes, bytes_extract, row_bytes, List.drop_zero, Nat.sub_zero]
  have hjl : j < (sealB (pre r x)).length := by
    rw [← row_bytes, size_bytes]
    exact hj
  have hm : ∀ y ∈ l.map (pre r), y.size ≤ 65536 := by
    intro y hy
    obtain ⟨z, hz1, rfl⟩ := List.mem_map.1 hy
    have := hl z hz1
    rw [pre_size2]
    omega
  have hrest : (sealB (pre r x)).take j = [] ∨ ∀ p : Nat, (bytesOf (textS r l ++ (rowB r x).extract 0 j)).drop p = (sealB (pre r x)).take j → p ≤ (textS r l ++ (rowB r x).extract 0 j).size → (openS (textS r l ++ (rowB r x).extract 0 j) p).2.2 ≠ 0 := by
    right
    intro p hp hps
    rw [open_short (x := pre r x) (by rw [pre_size2]; omega) hps hjl hp]
    decide
  have hlen : (l.map (pre r)).length ≤ (textS r l ++ (rowB r x).extract 0 j).size := by
    have h1 := sealed_len (l.map (pre r))
    rw [← size_bytes, hb, List.length_append]
    omega
  have ha := all_sealed (s := textS r l ++ (rowB r x).extract 0 j) (by omega) _ hrest (l.map (pre r)) (2 * (textS r l ++ (rowB r x).extract 0 j).size + 100) 0 [] hm (Nat.zero_le _) (by rw [List.drop_zero]; exact hb) (by omega) (by rw [List.length_map] at *; simp only [List.length_nil]; omega)
  have hf := (all_f (s := textS r l ++ (rowB r x).extract 0 j) (by omega)).1
  have he : check_All.f (2 * (textS r l ++ (rowB r x).extract 0 j).size + 100) (textS r l ++ (rowB r x).extract 0 j) = some ([] ++ l.map (pre r), ((0 + (sealed (l.map (pre r))).length : Nat) : Int)) := ha
  rw [hf] at he
  injection he with he
  rw [he]
  rfl
theorem app_nil (s : ByteArray) : s ++ (⟨#[]⟩ : ByteArray) = s := append_none s
theorem row_none (s : ByteArray) : s.extract 0 0 = (⟨#[]⟩ : ByteArray) := extract_none s
theorem row_ne (r : Int) (x : ByteArray) : rowB r x ≠ ⟨#[]⟩ := by
  intro h
  have := (rowB_size r x).1
  rw [h] at this
  exact absurd this (by show ¬ x.size < 0; omega)
theorem head_row {r : Int} (h0 : 0 ≤ r) (h1 : r ≤ 1099511627776) (x : ByteArray) (hx : x.size ≤ 60000) : headS (rowB r x) = (r, x, 0) := by
  have hz := sz_bd r
  have ho : openS (rowB r x) 0 = (pre r x, ((rowB r x).size : Int), 0) := by
    have h := openS_seal (s := rowB r x) (x := pre r x) (by rw [pre_size2]; omega) (p := 0) (r := []) (Nat.zero_le _) (by rw [List.drop_zero, List.append_nil, row_bytes])
    rw [← row_bytes, size_bytes, Nat.zero_add] at h
    exact h
  unfold headS
  rw [if_neg (row_ne r x), ho]
  simp only [if_true]
  unfold partS
  rw [get_pre h0 (by omega)]
  simp only [if_true]
  rw [if_neg (by omega), Int.toNat_natCast, ext_pre h0]
theorem head_none : headS ⟨#[]⟩ = (0, ⟨#[]⟩, 0) := by
  unfold headS
  rw [if_pos rfl]
structure Tells (F : Four) (s : LSt) : Prop where
  r0 : 0 ≤ s.round
  r1 : s.round ≤ 1099511000000
  head : headS (F.at 0) = (s.round, s.state, 0)
  rows : ∃ (q : Int) (l : List ByteArray) (x : ByteArray) (j : Nat), 0 ≤ q ∧ q ≤ 1099511000000 ∧ (∀ y ∈ l, y.size ≤ 60000) ∧ x.size ≤ 60000 ∧ j < (rowB q x).size ∧ F.at 1 = textS q l ++ (rowB q x).extract 0 j ∧ (F.at 1).size ≤ 65536 ∧ (q = s.round ∧ l = s.l ∨ q ≠ s.round ∧ s.l = [])
theorem Tells.openE {F k : Four} {m : List Wr} {s : LSt} (h : Tells F s) : WL.openE ⟨F, k, m⟩ = 0 := by
  unfold WL.openE
  rw [h.head]
theorem Tells.openR {F k : Four} {m : List Wr} {s : LSt} (h : Tells F s) : WL.openR ⟨F, k, m⟩ = s.round := by
  unfold WL.openR
  rw [h.head]
theorem Tells.recs {F k : Four} {m : List Wr} {s : LSt} (h : Tells F s) : recsT ⟨F, k, m⟩ = s.l := by
  unfold recsT
  rw [h.openR]
  obtain ⟨q, l, x, j, q0, q1, hl, hx, hj, hF, hz, hc⟩ := h.rows
  show recsS s.round (allS (F.at 1)).1 = s.l
  have hz2 : (textS q l ++ (rowB q x).extract 0 j).size ≤ 65536 := by rw [← hF]; exact hz
  rw [hF, all_torn q0 l hl x hx j hj (by omega)]
  rcases hc with ⟨rfl, rfl⟩ | ⟨hq, hn⟩
  · exact recs_same h.r0 (by have := h.r1; omega) _
  · rw [hn]
    exact recs_other q0 (by omega) hq l
theorem Tells.openL {F k : Four} {m : List Wr} {s : LSt} (h : Tells F s) : WL.openL ⟨F, k, m⟩ = ⟨s.round, s.state, s.l, s.l.length⟩ := by
  unfold WL.openL
  rw [h.recs, h.openR]
  show LSt.mk s.round (headS (F.at 0)).2.1 s.l s.l.length = _
  rw [h.head]
theorem Tells.whole {F : Four} {r : Int} {t : ByteArray} {l : List ByteArray} {u : Nat} (r0 : 0 ≤ r) (r1 : r ≤ 1099511000000) (hh : headS (F.at 0) = (r, t, 0)) (hl : ∀ y ∈ l, y.size ≤ 60000) (hF : F.at 1 = textS r l) (hz : (F.at 1).size ≤ 65536) : Tells F ⟨r, t, l, u⟩ :=
  ⟨r0, r1, hh, r, l, ⟨#[]⟩, 0, r0, r1, hl, by decide, by have := rowB_size r ⟨#[]⟩; omega, by rw [row_none, app_nil]; exact hF, hz, .inl ⟨rfl, rfl⟩⟩
theorem Tells.zero : Tells zero4 ⟨0, ⟨#[]⟩, [], 0⟩ := Tells.whole (by decide) (by decide) head_none (fun y hy => by simp at hy) rfl (by decide)
end Go.Proofs.Ytkiepnmbimkadaa.WL
end
section
namespace Go.Proofs.Ytkiepnmbimkadaa.SR
open Go.ChangeShapes Go.WideShapes Go.RowKit Go.Deep
section
variable {H : Type} {enc : TypeId × Value → H} {P : Program} {w : World} {base : Nat} {spare : Nat → Bool} {held : Bool}
theorem struct_slice {t e : TypeId} {fs : Array Field} {fuel : Nat} {cs : List Value} {x : DataW H × List MemPlace} (ht : P.underlying t = some (.slice e)) (he : P.underlying e = some (.struct fs))
    (hone : oneCellFields P fs = true) (hC : P.cellsOf e = fs.size) (h : DataW.trod enc P w base spare held fuel t cs = some x) :
    cs = [.slice none 0 0] ∨ ∃ (a : Addr) (len cap : Nat), cs = [.slice (some a) len cap] ∧ len ≤ cap ∧ cap ≤ maxLen ∧
      ∀ i, i < len → ∀ (j : Nat) (f : Field), fs[j]? = some f → ∃ (v : Value) (y : DataW H × List MemPlace) (n : Nat), w.cell? (a.add (i * fs.size + j)) = some v ∧ DataW.trod enc P w base spare held n f.type [v] = some y := by
  rcases open_slice ht h with ⟨h0, _⟩ | ⟨a, len, cap, m, n, D, Pl, hcs, _, hl, hm, hmm, _, hi⟩
  · exact .inl h0
  · refine .inr ⟨a, len, cap, hcs, hl, hm, fun i hil j f hj => ?_⟩
    obtain ⟨cs2, hc, ht2⟩ := hi i (by rw [hmm]; split <;> omega)
    rw [hC] at hc
    obtain ⟨ys, n2, _, _, _, hyl, hf⟩ := DataW.trod_struct he ht2
    obtain ⟨_, hcl, hat⟩ := World.cells?_some hc
    obtain ⟨ho, hk⟩ := hone_of hone j f hj
    have hjl : j < fs.size := (Array.getElem?_eq_some_iff.1 hj).1
    have hread := hf j f hj
    rw [ho, hk, List.drop_eq_getElem_cons (by omega), List.getElem?_eq_getElem (by omega)] at hread
    have hcell := hat j hjl
    rw [List.getElem?_eq_getElem (by omega)] at hcell
    exact ⟨_, _, n2, by rw [← Go.Deep.add_add]; exact hcell, hread⟩
end
end Go.Proofs.Ytkiepnmbimkadaa.SR
namespace Go.Proofs.Ytkiepnmbimkadaa.ML
open Go.RowKit Go.Proofs.Ytkiepnmbimkadaa Go.ChangeShapes Go.WideShapes Go.Deep
structure OpM where
  kind : Int
  s : ByteArray
  n : Int
def IsOps (w : World) (a : Option Addr) (len : Nat) (z : Nat → OpM) : Prop :=
  len = 0 ∨ ∃ x, a = some x ∧ ∀ i, i < len → w.cell? (x.add (i * 3)) = some (.int .i64 (z i).kind) ∧ w.cell? (x.add (i * 3 + 1)) = some (.string (z i).s) ∧ w.cell? (x.add (i * 3 + 2)) = some (.int .i64 (z i).n)
theorem low_cell {w w1 : World} {N : Nat} (hN : w.heap.size ≤ N) (hb : Below N w w1) {p : Addr} {v : Value} (hp : w.cell? p = some v) : w1.cell? p = some v := by
  have hlt : p.block < N := by
    unfold World.cell? at hp
    rcases Nat.lt_or_ge p.block w.heap.size with h | h
    · omega
    · rw [Array.getElem?_eq_none h] at hp
      cases hp
  exact (hb.cell hlt).trans hp
theorem add_off {x : Addr} (j k : Nat) (hk : 0 < k) : (⟨(x.add j).block, (x.add j).off + k, none⟩ : Addr) = x.add (j + k) := by
  unfold Addr.add
  rw [if_neg (show ¬ j + k = 0 by omega)]
  split
  · rename_i h
    subst h
    simp
  · simp [Nat.add_assoc]
theorem IsOps.loads {w w1 : World} {x : Addr} {len : Nat} {z : Nat → OpM} (h : IsOps w (some x) len z) {i N : Nat} (hi : i < len) (hN : w.heap.size ≤ N) (hb : Below N w w1) :
    (w1.cell? (x.add (i * 3)) = some (.int .i64 (z i).kind) ∧ w1.cell? (x.add (i * 3 + 1)) = some (.string (z i).s) ∧ w1.cell? (x.add (i * 3 + 2)) = some (.int .i64 (z i).n)) ∧
      w1.cell? ⟨(x.add (i * 3)).block, (x.add (i * 3)).off + 1, none⟩ = some (.string (z i).s) ∧ w1.cell? ⟨(x.add (i * 3)).block, (x.add (i * 3)).off + 2, none⟩ = some (.int .i64 (z i).n) := by
  rcases h with h | ⟨y, hy, hc⟩
  · omega
  · cases hy
    obtain ⟨c0, c1, c2⟩ := hc i hi
    have d0 := low_cell hN hb c0
    have d1 := low_cell hN hb c1
    have d2 := low_cell hN hb c2
    exact ⟨⟨d0, d1, d2⟩, by rw [add_off _ _ (by omega)]; exact d1, by rw [add_off _ _ (by omega)]; exact d2⟩
theorem ops_open {H : Type} {enc : TypeId × Value → H} {w : World} {base : Nat} {spare : Nat → Bool} {held : Bool} {len cap : Nat} {a : Option Addr} {fs : Array Field} {f0 f1 f2 : Field} {e : TypeId} {t : TypeId} {d : DataW H} {ps : List MemPlace}
    (ht : Try.prog.underlying t = some (.slice e)) (he : Try.prog.underlying e = some (.struct fs)) (hfs : fs = #[f0, f1, f2]) (hone : oneCellFields Try.prog fs = true) (hC : Try.prog.cellsOf e = fs.size)
    (h0 : Try.prog.underlying f0.type = some (.int .i64)) (h1 : Try.prog.underlying f1.type = some .string) (h2 : Try.prog.underlying f2.type = some (.int .i64))
    (h : DataW.Trod enc Try.prog w base spare held t (.slice a len cap) d ps) : ∃ z, IsOps w a len z := by
  obtain ⟨fuel, hf⟩ := h
  subst hfs
  rcases SR.struct_slice ht he hone hC hf with hcs | ⟨x, l, c, hcs, hl, hm, hcell⟩
  · simp [Value.cells] at hcs
    exact ⟨fun _ => ⟨0, ⟨#[]⟩, 0⟩, .inl hcs.2.1⟩
  · simp [Value.cells] at hcs
    obtain ⟨rfl, rfl, rfl⟩ := hcs
    have each : ∀ i, ∃ o : OpM, i < len → w.cell? (x.add (i * 3)) = some (.int .i64 o.kind) ∧ w.cell? (x.add (i * 3 + 1)) = some (.string o.s) ∧ w.cell? (x.add (i * 3 + 2)) = some (.int .i64 o.n) := by
      intro i
      by_cases hi : i < len
      · obtain ⟨v0, y0, n0, c0, r0⟩ := hcell i hi 0 f0 rfl
        obtain ⟨v1, y1, n1, c1, r1⟩ := hcell i hi 1 f1 rfl
        obtain ⟨v2, y2, n2, c2, r2⟩ := hcell i hi 2 f2 rfl
        obtain ⟨k0, e0, _, _⟩ := DataW.trod_int h0 r0
        obtain ⟨k1, e1, _, _⟩ := DataW.trod_string h1 r1
        obtain ⟨k2, e2, _, _⟩ := DataW.trod_int h2 r2
        simp only [List.cons.injEq, and_true] at e0 e1 e2
        subst e0
        subst e1
        subst e2
        exact ⟨⟨k0, k1, k2⟩, fun _ => ⟨c0, c1, c2⟩⟩
      · exact ⟨⟨0, ⟨#[]⟩, 0⟩, fun h => absurd h hi⟩
    obtain ⟨z, hz⟩ := Classical.axiomOfChoice each
    exact ⟨z, .inr ⟨x, rfl, hz⟩⟩
end Go.Proofs.Ytkiepnmbimkadaa.ML
end
