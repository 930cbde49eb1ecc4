import Derived.Maps.AppendAt
import Derived.Test.YtdoaomoocikmaaaDoorKSame3
namespace Go.Proofs.YtdoaomoocikmaaaDoor.TW
open Go Go.RowKit Go.Shelf Go.Proofs.YtdoaomoocikmaaaDoor Go.Proofs.YtdoaomoocikmaaaDoor.TP
attribute [local go_sem] Oper.semAt_some
theorem info9 : (Tryd.prog.info? 9).map (fun i => (i.zero, i.size, i.bytes)) = some (some (.string ⟨#[]⟩), 1, 16) := by kernel_rfl
theorem own_base {W : World} {N M n : Nat} {v : Value} {xs : List Value} (h : M ≤ N) (hr : W.ownsRow N 9 1 v n xs) : W.ownsRow M 9 1 v n xs :=
  ⟨hr.1, hr.2.imp id fun ⟨g, cap, cur, e, hb, r⟩ => ⟨g, cap, cur, e, Nat.le_trans h hb, r⟩⟩
theorem put_boxed {W : World} {B l : Nat} {t : TypeId} {v : Value} {o : Obj} (h : Boxed W B t v) (o' : Obj) (hl : W.heap[l]? = some o) (ho : o.isCells = false) : Boxed (W.putObj l o') B t v :=
  h.kept (grownBy_putObj' W l o') (fun e => by
    cases e
    rw [show W.heap[B]? = _ from h] at hl
    cases hl
    cases ho)
theorem app_others {W w1 : World} {N B : Nat} {v : Value} {k : Nat} {xs : List Value} {tmp : Obj} (v' : Value) (hrow : W.ownsRow N 9 1 v k xs) (hg : (W.alloc tmp).grownBy w1 v.ownBlock) : KeepsOthers W (w1.setCell ⟨B, 0, none⟩ v') := by
  refine ((KeepsOthers.alloc W tmp).trans (KeepsOthers.of_grownBy hg fun j o ej hj => ?_)).trans (KeepsOthers.setCell _ _ _)
  rcases (hrow.alloc tmp).2 with ⟨rfl, _⟩ | ⟨g, cap, cur, rfl, _, hgb, _⟩
  · simp [Value.ownBlock] at ej
  · obtain rfl : g = j := by simpa [Value.ownBlock] using ej
    rw [hgb] at hj
    cases hj
    rfl
structure JL (w : World) (s : List ByteArray × ByteArray) (W : World) : Prop where
  out : ∃ v, Boxed W w.heap.size 69 v ∧ W.ownsRow (w.heap.size + 4) 9 1 v s.1.length (s.1.map Value.string) ∧ (v = .slice none 0 0 ↔ s.1 = [])
  txt : Boxed W (w.heap.size + 1) 9 (.string s.2)
  sep : Boxed W (w.heap.size + 2) 9 (.string ⟨#[47]⟩)
  sav : Boxed W (w.heap.size + 3) 3 (.int .i64 0)
  bel : Below w.heap.size w W
theorem JL.put {w W : World} {s : List ByteArray × ByteArray} {l : Nat} {o : Obj} (h : JL w s W) (o' : Obj) (hlw : w.heap.size ≤ l) (hl : W.heap[l]? = some o) (ho : o.isCells = false) : JL w s (W.putObj l o') := by
  obtain ⟨⟨v, hv, hr, hn⟩, h1, h2, h3, hb⟩ := h
  exact ⟨⟨v, put_boxed hv o' hl ho, ownsRow_putObj hr o' hl ho, hn⟩, put_boxed h1 o' hl ho, put_boxed h2 o' hl ho, put_boxed h3 o' hl ho, hb.grown (grownBy_putObj' W l o') hb.size (fun k e => by cases e; exact hlw)⟩
theorem JL.alloc {w W : World} {s : List ByteArray × ByteArray} (h : JL w s W) (o : Obj) : JL w s (W.alloc o) := by
  obtain ⟨⟨v, hv, hr, hn⟩, h1, h2, h3, hb⟩ := h
  exact ⟨⟨v, hv.alloc o, hr.alloc o, hn⟩, h1.alloc o, h2.alloc o, h3.alloc o, hb.alloc hb.size o⟩
theorem JL.text {w W : World} {pre : List ByteArray} {t : ByteArray} (h : JL w (pre, t) W) (t2 : ByteArray) : JL w (pre, t2) (W.setCell ⟨w.heap.size + 1, 0, none⟩ (.string t2)) := by
  obtain ⟨⟨v, hv, hr, hn⟩, h1, h2, h3, hb⟩ := h
  have hg := grownBy_setCell' W (w.heap.size + 1) (.string t2)
  refine ⟨⟨v, hv.kept hg (fun e => by have := Option.some.inj e; omega), hr.kept hg (.inr fun e => ?_), hn⟩, h1.set _, h2.kept hg (fun e => by have := Option.some.inj e; omega), h3.kept hg (fun e => by have := Option.some.inj e; omega), hb.setCell (p := ⟨w.heap.size + 1, 0, none⟩) (Nat.le_add_right _ _) _⟩
  have := (hr.lt _ e).1
  omega
def szAt (W : World) (B : Nat) : Nat := match W.cell? ⟨B, 0, none⟩ with
  | some (.string t) => t.size
  | _ => 0
theorem szAt_eq {W : World} {B : Nat} {t : ByteArray} (h : Boxed W B 9 (.string t)) : szAt W B = t.size := by unfold szAt; rw [h.cell]
theorem lv_last {t : ByteArray} (h : Lib.indexByte t.data.toList 47 = -1) : lv t = [t] := by
  unfold lv
  rw [index_none _ h]
  rfl
theorem lv_first {t : ByteArray} {i : Nat} (h : Lib.indexByte t.data.toList 47 = i) : i < t.size ∧ lv t = t.extract 0 i :: lv (t.extract (i + 1) t.size) := by
  obtain ⟨h1, h2⟩ := index_some _ _ h
  have hsz : t.data.toList.length = t.size := by rw [Array.length_toList]; rfl
  rw [hsz] at h1
  refine ⟨h1, ?_⟩
  have e1 : (t.extract 0 i).data.toList = t.data.toList.take i := by simp
  have e2 : (t.extract (i + 1) t.size).data.toList = t.data.toList.drop (i + 1) := by
    simp only [ByteArray.data_extract, Array.toList_extract, List.extract_eq_take_drop]
    rw [List.take_of_length_le (by rw [List.length_drop, hsz]; omega)]
  unfold lv
  rw [h2, e2, List.map_cons]
  congr 1
  exact ba_ext (by rw [e1])
set_option maxRecDepth 100000 in
set_option maxHeartbeats 2000000 in
theorem seq_walk (s : ByteArray) (w : World) (l : Nat) (n : Nat) (J' : List ByteArray × ByteArray → World → Prop) (W : World) (hn : 2 ≤ n) (hss : s.size ≤ 1000000) (hsub : ∀ s W, J' s W → JL w s W) (hset : ∀ s s' W p v, J' s W → JL w s' (W.setCell p v) → J' s' (W.setCell p v))
    (hY : ∀ q x W1, (∃ r, q.1 ++ x :: r = lv s) → J' q W1 → YieldAt Fence.wide (n - 1) Tryd.prog l #[.string x] W1 fun e W' => e = .returned (.bool true) ∧ J' (q.1 ++ [x], q.2) W') (h0 : J' ([], s) W) :
    CallsIn Fence.wide n Tryd.prog 71 #[.func (.yield l) #[] #[], .pointer (some ⟨w.heap.size + 2, 0, none⟩), .pointer (some ⟨w.heap.size + 1, 0, none⟩), .pointer (some ⟨w.heap.size + 3, 0, none⟩)] W fun e W' => (∃ v, e = .returned v) ∧ J' (lv s, (lv s).getLast (lv_ne s)) W' := by
  have j0 := hsub _ _ h0
  have c1 := j0.txt.cell
  have c2 := j0.sep.cell
  have c3 := j0.sav.cell
  refine callsIn_of_wp Tryd.func71 rfl trivial ?_ rfl
  simp only [Tryd.ntmps71, List.size_toArray, List.length_cons, List.length_nil, Nat.reduceAdd, Nat.reduceSub, Array.replicate_succ, Array.replicate_zero, List.push_toArray, List.append_toArray, List.nil_append, List.cons_append]
  gi_wp2
  gi_loopw [7] (fun v7 wr => ∃ (pre : List ByteArray) (t : ByteArray), pre ++ lv t = lv s ∧ t.size ≤ s.size ∧ J' (pre, t) wr) (fun _ wr => szAt wr (w.heap.size + 1))
  case atStart => exact ⟨[], s, rfl, Nat.le_refl _, h0⟩
  case round =>
    obtain ⟨pre, t, hpt, hts, hj⟩ := hrel
    have j1 := hsub _ _ hj
    have d1 := j1.txt.cell
    have d2 := j1.sep.cell
    have d3 := j1.sav.cell
    have f1 := j1.txt.frozen
    have hsz := szAt_eq j1.txt
    clear c1 c2 c3 j0 h0
    have hix := index_calls t 47
    have k44 : Fence.wide.fn 73 := trivial
    have hn1 : 1 ≤ n := by omega
    by_cases hi : Lib.indexByte t.data.toList 47 = -1
    · rw [hi] at hix
      rw [lv_last hi] at hpt
      obtain ⟨fn, tmps, assign, body, hy, hR⟩ := hY (pre, t) t wr ⟨[], hpt⟩ hj
      gi_wp2_with (gi_at_call 73; refine (callsIn_wide.2 (hix _)).mono ?_; rintro e w' ⟨rfl, rfl⟩)
      refine hR.mono ?_
      rintro e W3 ⟨rfl, hj3⟩
      gi_wp2
      go_end0
      refine ⟨⟨_, rfl⟩, ?_⟩
      have : (lv s).getLast (lv_ne s) = t := by simp [← hpt]
      rw [this, ← hpt]
      exact hj3
    · obtain ⟨i, hii⟩ : ∃ i : Nat, Lib.indexByte t.data.toList 47 = i := ⟨(Lib.indexByte t.data.toList 47).toNat, by have := Lib.indexByte_ge t.data.toList 47; omega⟩
      rw [hii] at hix
      obtain ⟨hit, hlv⟩ := lv_first hii
      have w0 : wrap64 (i : Int) = i := IntWalk.wrap64_in _ (by omega)
      have w1 : wrap64 ((i : Int) + 1) = i + 1 := IntWalk.wrap64_in _ (by omega)
      have g0 : ¬ (i : Int) < 0 := by omega
      have g1 : (i : Int) ≤ t.size := by omega
      have g2 : (i : Int) + 1 ≤ t.size := by omega
      have g3 : ¬ (i : Int) + 1 < 0 := by omega
      obtain ⟨fn, tmps, assign, body, hy, hR⟩ := hY (pre, t) (t.extract 0 i) wr ⟨_, by rw [← hlv]; exact hpt⟩ hj
      gi_wp2_with (gi_at_call 73; refine (callsIn_wide.2 (hix _)).mono ?_; rintro e w' ⟨rfl, rfl⟩)
      refine hR.mono ?_
      rintro e W3 ⟨rfl, hj3⟩
      have j3 := hsub _ _ hj3
      have e1 := j3.txt.cell
      have e2 := j3.sep.cell
      have fe := j3.txt.frozen
      have hj4 := hset _ (pre ++ [t.extract 0 i], t.extract (i + 1) t.size) W3 ⟨w.heap.size + 1, 0, none⟩ (.string (t.extract (i + 1) t.size)) hj3 (j3.text _)
      have hez : (t.extract (i + 1) t.size).size < t.size := by rw [ByteArray.size_extract]; omega
      have hm4 := szAt_eq (hsub _ _ hj4).txt
      gi_wp2
      go_roundw
      case rel => exact ⟨_, _, by rw [List.append_assoc, List.singleton_append, ← hlv, hpt], by omega, hj4⟩
      case measure => rw [hm4, hsz]; exact hez
theorem lv_len (s : ByteArray) : (lv s).length ≤ s.size + 1 := by
  unfold lv
  rw [List.length_map]
  have := split_len s.data.toList
  rw [Array.length_toList] at this
  exact this
theorem splitseq_in (s : ByteArray) (w : World) :
    Calls Tryd.prog 66 #[.string s, .string ⟨#[47]⟩, .int .i64 0] w fun e w' => e = .returned (.func (.func 71) #[] #[.pointer (some ⟨w.heap.size + 1, 0, none⟩), .pointer (some ⟨w.heap.size, 0, none⟩), .pointer (some ⟨w.heap.size + 2, 0, none⟩)]) ∧ w' = ((w.alloc (.cells #[.string s] 9)).alloc (.cells #[.string ⟨#[47]⟩] 9)).alloc (.cells #[.int .i64 0] 3) := by
  go_enter Tryd.func66, Tryd.ntmps66
  go_wp2
  go_ret
  exact ⟨rfl, rfl⟩
theorem splitseq_walk (s : ByteArray) (w : World) :
    Calls Tryd.prog 59 #[.string s, .string ⟨#[47]⟩] w fun e w' => e = .returned (.func (.func 71) #[] #[.pointer (some ⟨w.heap.size + 1, 0, none⟩), .pointer (some ⟨w.heap.size, 0, none⟩), .pointer (some ⟨w.heap.size + 2, 0, none⟩)]) ∧ w' = ((w.alloc (.cells #[.string s] 9)).alloc (.cells #[.string ⟨#[47]⟩] 9)).alloc (.cells #[.int .i64 0] 3) := by
  go_enter Tryd.func59, Tryd.ntmps59
  go_wp2_with (go_at_call 66; (with_reducible refine (splitseq_in _ _).mono ?_); rintro e w' ⟨rfl, rfl⟩)
  go_ret
  exact ⟨rfl, rfl⟩
set_option maxRecDepth 100000 in
set_option maxHeartbeats 2000000 in
theorem levels_walk (s : ByteArray) (hs : s.size ≤ 1000000) (w : World) :
    Calls Tryd.prog 45 #[.string s] w fun e w' => ∃ o k, e = .returned (.slice o (lv s).length k) ∧ w'.ownsRow w.heap.size 9 1 (.slice o (lv s).length k) (lv s).length ((lv s).map Value.string) ∧ Below w.heap.size w w' := by
  obtain ⟨i0, hi, hz0, hz1, hz2⟩ := info_parts info9
  have hll := lv_len s
  have k32 : Fence.wide.fn 59 := trivial
  refine (callsIn_wide (n := 9)).1 ?_
  refine callsIn_of_wp_marks Tryd.func45 rfl trivial ?_ rfl
  simp only [Tryd.ntmps45, List.size_toArray, List.length_cons, List.length_nil, Nat.reduceAdd, Nat.reduceSub, Array.replicate_succ, Array.replicate_zero, List.push_toArray, List.append_toArray, List.nil_append, List.cons_append]
  gi_wp2_with (gi_at_call 59; refine (callsIn_wide.2 (splitseq_walk s _)).mono ?_; rintro e w' ⟨rfl, rfl⟩)
  have z0 : Boxed (w.alloc (.cells #[.slice none 0 0] 69)) w.heap.size 69 (.slice none 0 0) := Boxed.new w _ _
  have z1 := Boxed.new (w.alloc (.cells #[.slice none 0 0] 69)) 9 (.string s)
  have z2 := Boxed.new ((w.alloc (.cells #[.slice none 0 0] 69)).alloc (.cells #[.string s] 9)) 9 (.string ⟨#[47]⟩)
  have z3 := Boxed.new (((w.alloc (.cells #[.slice none 0 0] 69)).alloc (.cells #[.string s] 9)).alloc (.cells #[.string ⟨#[47]⟩] 9)) 3 (.int .i64 0)
  have j0 : JL w ([], s) ((((w.alloc (.cells #[.slice none 0 0] 69)).alloc (.cells #[.string s] 9)).alloc (.cells #[.string ⟨#[47]⟩] 9)).alloc (.cells #[.int .i64 0] 3)) := by
    simp only [World.size_alloc] at z1 z2 z3
    exact ⟨⟨_, ((z0.alloc _).alloc _).alloc _, World.ownsRow_nil _ _ _ _, by simp⟩, (z1.alloc _).alloc _, z2.alloc _, z3, ((((Below.refl _ w).alloc (Nat.le_refl _) _).alloc (by simp) _).alloc (by simp; omega) _).alloc (by simp; omega) _⟩
  clear z0 z1 z2 z3
  obtain ⟨w4, hw4⟩ : ∃ w4, ((((w.alloc (.cells #[.slice none 0 0] 69)).alloc (.cells #[.string s] 9)).alloc (.cells #[.string ⟨#[47]⟩] 9)).alloc (.cells #[.int .i64 0] 3)) = w4 := ⟨_, rfl⟩
  have hs4 : w4.heap.size = w.heap.size + 4 := by rw [← hw4]; simp
  rw [hw4] at j0 ⊢
  refine range_state (n := 9) (gf := 71) (lb := #[.pointer (some ⟨w.heap.size + 2, 0, none⟩), .pointer (some ⟨w.heap.size + 1, 0, none⟩), .pointer (some ⟨w.heap.size + 3, 0, none⟩)]) rfl (enters_of Tryd.func71 (by kernel_rfl) rfl)
    (fun x : ByteArray => #[Value.string x]) (fun _ => rfl) (JL w) (fun s x => (s.1 ++ [x], s.2)) (fun q x => ∃ r, q.1 ++ x :: r = lv s) ([], s) (lv s, (lv s).getLast (lv_ne s)) (fun s W l o o' h hl => h.put o' (by omega)) (fun s W o h => h.alloc o) j0
    (fun x => { tmps := #[.string s, undef, .slice none 0 0, .pointer (some ⟨w.heap.size, 0, none⟩), .string x, .string s, .func (.func 71) #[] #[.pointer (some ⟨w.heap.size + 2, 0, none⟩), .pointer (some ⟨w.heap.size + 1, 0, none⟩), .pointer (some ⟨w.heap.size + 3, 0, none⟩)], .string x, undef, undef, undef, undef, undef], defers := [] }) ?assign ?body
    (fun l J' W hsub hset hY h0 => seq_walk s w l 8 J' W (by omega) hs hsub hset hY h0) ?done
  case assign =>
    intro l x W K hK
    gi_wp2
    exact hK
  case body =>
    rintro l ⟨pre, t⟩ x W ⟨r, hr⟩ hj
    simp only at hr
    have hpl : pre.length + 1 ≤ (lv s).length := by rw [← hr, List.length_append, List.length_cons]; omega
    obtain ⟨⟨v, hv, hrow, hnil⟩, h1, h2, h3, hB⟩ := hj
    simp only at hrow hnil h1
    have hc := hv.cell
    have hlow := fun b e => (hrow.lt b e).1
    have hBs := hB.size
    have hW4 : w.heap.size + 4 ≤ W.heap.size := by have := h3.lt; omega
    gi_wp2_with (gi_at_builtin; refine wpListIn_append_own _ rfl _ _ 69 rfl (w.heap.size + 4) 9 i0 (.string ⟨#[]⟩) 1 16 Tryd.underlying69 hi hz0 hz1 hz2 rfl (by decide) _ _ _ rfl (hrow.alloc _) ⟨W.heap.size, 0, none⟩ 1 1 [.string x] rfl rfl (cell_one_new _ _ _) (by simp [Value.oneCell']) (by simp only [maxLen]; omega) (by omega) (by simp; omega) ?_; intro v' w1 hown' hgrow _
                 obtain ⟨g', cap', rfl⟩ := ownsRow_succ hown'
                 have hlow' := fun b e => (hown'.lt b e).1
                 have b0 : Boxed w1 w.heap.size 69 v := (hv.alloc _).kept hgrow (fun e => by have := hlow _ e.symm; omega)
                 have b1 := (h1.alloc (.cells #[.string x] 9)).kept hgrow (fun e => by have := hlow _ e.symm; omega)
                 have b2 := (h2.alloc (.cells #[.string x] 9)).kept hgrow (fun e => by have := hlow _ e.symm; omega)
                 have b3 := (h3.alloc (.cells #[.string x] 9)).kept hgrow (fun e => by have := hlow _ e.symm; omega)
                 have hk := app_others (B := w.heap.size) (.slice (some ⟨g', 0, none⟩) (pre.length + 1) cap') hrow hgrow
                 have hg2 := grownBy_setCell' w1 w.heap.size (.slice (some ⟨g', 0, none⟩) (pre.length + 1) cap')
                 have jn : JL w (pre ++ [x], t) (w1.setCell ⟨w.heap.size, 0, none⟩ (.slice (some ⟨g', 0, none⟩) (pre.length + 1) cap')) := by
                   refine ⟨⟨_, b0.set _, ?_, by simp⟩, b1.kept hg2 (fun e => by have := Option.some.inj e; omega), b2.kept hg2 (fun e => by have := Option.some.inj e; omega), b3.kept hg2 (fun e => by have := Option.some.inj e; omega), ?_⟩
                   · simp only [List.length_append, List.length_singleton, List.map_append, List.map_cons, List.map_nil]
                     exact hown'.kept hg2 (.inr fun e => by have := hlow' _ e; omega)
                   · exact ((hB.alloc hBs _).grown hgrow (by simp; omega) (fun k e => by have := hlow k e; omega)).setCell (p := ⟨w.heap.size, 0, none⟩) (Nat.le_refl _) _
                 have hc1 := b0.cell
                 have hf1 := b0.frozen
                 clear hgrow hown' hlow' b1 b2 b3 hg2)
  case done =>
    intro D W hD hj hK
    obtain ⟨⟨v, hv, hrow, hnil⟩, _, _, _, hB⟩ := hj
    have hc := hv.cell
    simp only at hrow
    gi_wp2
    refine ⟨by simp, .inl ⟨_, _, rfl, run_takeDeferred hK, ?_⟩⟩
    obtain ⟨o, k, rfl⟩ : ∃ o k, v = .slice o (lv s).length k := by
      rcases hrow.2 with ⟨rfl, h0⟩ | ⟨g, cap, _, rfl, _⟩
      · rw [h0]; exact ⟨_, _, rfl⟩
      · exact ⟨_, _, rfl⟩
    exact ⟨_, results_tmp rfl _ _ _, o, k, rfl, own_base (Nat.le_add_right _ _) (ownsRow_putObj hrow _ hK rfl), hB.grown (grownBy_putObj' W D _) hB.size (fun k e => by cases e; omega)⟩
end Go.Proofs.YtdoaomoocikmaaaDoor.TW
