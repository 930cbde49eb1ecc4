import Derived.Maps.AppendAt
import Derived.Lib.OthersKept
import Derived.Handy
import Derived.Deep.AppendLies
import Derived.Laws.OwnMore
import Derived.Lib.Hide
import Derived.Test.YtjjimkmbbifbjaaDoorKCuts3
section
namespace Go.Proofs.YtjjimkmbbifbjaaDoor.TW
open Go Go.RowKit Go.Shelf Go.Proofs.YtjjimkmbbifbjaaDoor Go.Proofs.YtjjimkmbbifbjaaDoor.TP
attribute [local go_sem] Oper.semAt_some
theorem info9 : (Tryd.prog.info? 9).map (fun i => (i.zero, i.size, i.bytes)) = some (some (.string ⟨#[]⟩), 1, 16) := by kernel_rfl
theorem own_base {W : World} {N M n : Nat} {v : Value} {xs : List Value} (h : M ≤ N) (hr : W.ownsRow N 9 1 v n xs) : W.ownsRow M 9 1 v n xs :=
  ⟨hr.1, hr.2.imp id fun ⟨g, cap, cur, e, hb, r⟩ => ⟨g, cap, cur, e, Nat.le_trans h hb, r⟩⟩
theorem put_boxed {W : World} {B l : Nat} {t : TypeId} {v : Value} {o : Obj} (h : Boxed W B t v) (o' : Obj) (hl : W.heap[l]? = some o) (ho : o.isCells = false) : Boxed (W.putObj l o') B t v :=
  h.kept (grownBy_putObj' W l o') (fun e => by
    cases e
    rw [show W.heap[B]? = _ from h] at hl
    cases hl
    cases ho)
theorem app_others {W w1 : World} {N B : Nat} {v : Value} {k : Nat} {xs : List Value} {tmp : Obj} (v' : Value) (hrow : W.ownsRow N 9 1 v k xs) (hg : (W.alloc tmp).grownBy w1 v.ownBlock) : KeepsOthers W (w1.setCell ⟨B, 0, none⟩ v') := by
  refine ((KeepsOthers.alloc W tmp).trans (KeepsOthers.of_grownBy hg fun j o ej hj => ?_)).trans (KeepsOthers.setCell _ _ _)
  rcases (hrow.alloc tmp).2 with ⟨rfl, _⟩ | ⟨g, cap, cur, rfl, _, hgb, _⟩
  · simp [Value.ownBlock] at ej
  · obtain rfl : g = j := by simpa [Value.ownBlock] using ej
    rw [hgb] at hj
    cases hj
    rfl
structure JL (w : World) (s : List ByteArray × ByteArray) (W : World) : Prop where
  out : ∃ v, Boxed W w.heap.size 57 v ∧ W.ownsRow (w.heap.size + 4) 9 1 v s.1.length (s.1.map Value.string) ∧ (v = .slice none 0 0 ↔ s.1 = [])
  txt : Boxed W (w.heap.size + 1) 9 (.string s.2)
  sep : Boxed W (w.heap.size + 2) 9 (.string ⟨#[47]⟩)
  sav : Boxed W (w.heap.size + 3) 3 (.int .i64 0)
  bel : Below w.heap.size w W
theorem JL.put {w W : World} {s : List ByteArray × ByteArray} {l : Nat} {o : Obj} (h : JL w s W) (o' : Obj) (hlw : w.heap.size ≤ l) (hl : W.heap[l]? = some o) (ho : o.isCells = false) : JL w s (W.putObj l o') := by
  obtain ⟨⟨v, hv, hr, hn⟩, h1, h2, h3, hb⟩ := h
  exact ⟨⟨v, put_boxed hv o' hl ho, ownsRow_putObj hr o' hl ho, hn⟩, put_boxed h1 o' hl ho, put_boxed h2 o' hl ho, put_boxed h3 o' hl ho, hb.grown (grownBy_putObj' W l o') hb.size (fun k e => by cases e; exact hlw)⟩
theorem JL.alloc {w W : World} {s : List ByteArray × ByteArray} (h : JL w s W) (o : Obj) : JL w s (W.alloc o) := by
  obtain ⟨⟨v, hv, hr, hn⟩, h1, h2, h3, hb⟩ := h
  exact ⟨⟨v, hv.alloc o, hr.alloc o, hn⟩, h1.alloc o, h2.alloc o, h3.alloc o, hb.alloc hb.size o⟩
theorem JL.text {w W : World} {pre : List ByteArray} {t : ByteArray} (h : JL w (pre, t) W) (t2 : ByteArray) : JL w (pre, t2) (W.setCell ⟨w.heap.size + 1, 0, none⟩ (.string t2)) := by
  obtain ⟨⟨v, hv, hr, hn⟩, h1, h2, h3, hb⟩ := h
  have hg := grownBy_setCell' W (w.heap.size + 1) (.string t2)
  refine ⟨⟨v, hv.kept hg (fun e => by have := Option.some.inj e; omega), hr.kept hg (.inr fun e => ?_), hn⟩, h1.set _, h2.kept hg (fun e => by have := Option.some.inj e; omega), h3.kept hg (fun e => by have := Option.some.inj e; omega), hb.setCell (p := ⟨w.heap.size + 1, 0, none⟩) (Nat.le_add_right _ _) _⟩
  have := (hr.lt _ e).1
  omega
def szAt (W : World) (B : Nat) : Nat := match W.cell? ⟨B, 0, none⟩ with
  | some (.string t) => t.size
  | _ => 0
theorem szAt_eq {W : World} {B : Nat} {t : ByteArray} (h : Boxed W B 9 (.string t)) : szAt W B = t.size := by unfold szAt; rw [h.cell]
theorem lv_last {t : ByteArray} (h : Lib.indexByte t.data.toList 47 = -1) : lv t = [t] := by
  unfold lv
  rw [index_none _ h]
  rfl
theorem lv_first {t : ByteArray} {i : Nat} (h : Lib.indexByte t.data.toList 47 = i) : i < t.size ∧ lv t = t.extract 0 i :: lv (t.extract (i + 1) t.size) := by
  obtain ⟨h1, h2⟩ := index_some _ _ h
  have hsz : t.data.toList.length = t.size := by rw [Array.length_toList]; rfl
  rw [hsz] at h1
  refine ⟨h1, ?_⟩
  have e1 : (t.extract 0 i).data.toList = t.data.toList.take i := by simp
  have e2 : (t.extract (i + 1) t.size).data.toList = t.data.toList.drop (i + 1) := by
    simp only [ByteArray.data_extract, Array.toList_extract, List.extract_eq_take_drop]
    rw [List.take_of_length_le (by rw [List.length_drop, hsz]; omega)]
  unfold lv
  rw [h2, e2, List.map_cons]
  congr 1
  exact ba_ext (by rw [e1])
set_option maxRecDepth 100000 in
set_option maxHeartbeats 2000000 in
theorem seq_walk (s : ByteArray) (w : World) (l : Nat) (n : Nat) (J' : List ByteArray × ByteArray → World → Prop) (W : World) (hn : 2 ≤ n) (hss : s.size ≤ 1000000) (hsub : ∀ s W, J' s W → JL w s W) (hset : ∀ s s' W p v, J' s W → JL w s' (W.setCell p v) → J' s' (W.setCell p v))
    (hY : ∀ q x W1, (∃ r, q.1 ++ x :: r = lv s) → J' q W1 → YieldAt Fence.wide (n - 1) Tryd.prog l #[.string x] W1 fun e W' => e = .returned (.bool true) ∧ J' (q.1 ++ [x], q.2) W') (h0 : J' ([], s) W) :
    CallsIn Fence.wide n Tryd.prog 81 #[.func (.yield l) #[] #[], .pointer (some ⟨w.heap.size + 2, 0, none⟩), .pointer (some ⟨w.heap.size + 1, 0, none⟩), .pointer (some ⟨w.heap.size + 3, 0, none⟩)] W fun e W' => (∃ v, e = .returned v) ∧ J' (lv s, (lv s).getLast (lv_ne s)) W' := by
  have j0 := hsub _ _ h0
  have c1 := j0.txt.cell
  have c2 := j0.sep.cell
  have c3 := j0.sav.cell
  refine callsIn_of_wp Tryd.func81 rfl trivial ?_ rfl
  simp only [Tryd.ntmps81, List.size_toArray, List.length_cons, List.length_nil, Nat.reduceAdd, Nat.reduceSub, Array.replicate_succ, Array.replicate_zero, List.push_toArray, List.append_toArray, List.nil_append, List.cons_append]
  gi_wp2
  gi_loopw [7] (fun v7 wr => ∃ (pre : List ByteArray) (t : ByteArray), pre ++ lv t = lv s ∧ t.size ≤ s.size ∧ J' (pre, t) wr) (fun _ wr => szAt wr (w.heap.size + 1))
  case atStart => exact ⟨[], s, rfl, Nat.le_refl _, h0⟩
  case round =>
    obtain ⟨pre, t, hpt, hts, hj⟩ := hrel
    have j1 := hsub _ _ hj
    have d1 := j1.txt.cell
    have d2 := j1.sep.cell
    have d3 := j1.sav.cell
    have f1 := j1.txt.frozen
    have hsz := szAt_eq j1.txt
    clear c1 c2 c3 j0 h0
    have hix := index_calls t 47
    have k44 : Fence.wide.fn 83 := trivial
    have hn1 : 1 ≤ n := by omega
    by_cases hi : Lib.indexByte t.data.toList 47 = -1
    · rw [hi] at hix
      rw [lv_last hi] at hpt
      obtain ⟨fn, tmps, assign, body, hy, hR⟩ := hY (pre, t) t wr ⟨[], hpt⟩ hj
      gi_wp2_with (gi_at_call 83; refine (callsIn_wide.2 (hix _)).mono ?_; rintro e w' ⟨rfl, rfl⟩)
      refine hR.mono ?_
      rintro e W3 ⟨rfl, hj3⟩
      gi_wp2
      go_end0
      refine ⟨⟨_, rfl⟩, ?_⟩
      have : (lv s).getLast (lv_ne s) = t := by simp [← hpt]
      rw [this, ← hpt]
      exact hj3
    · obtain ⟨i, hii⟩ : ∃ i : Nat, Lib.indexByte t.data.toList 47 = i := ⟨(Lib.indexByte t.data.toList 47).toNat, by have := Lib.indexByte_ge t.data.toList 47; omega⟩
      rw [hii] at hix
      obtain ⟨hit, hlv⟩ := lv_first hii
      have w0 : wrap64 (i : Int) = i := IntWalk.wrap64_in _ (by omega)
      have w1 : wrap64 ((i : Int) + 1) = i + 1 := IntWalk.wrap64_in _ (by omega)
      have g0 : ¬ (i : Int) < 0 := by omega
      have g1 : (i : Int) ≤ t.size := by omega
      have g2 : (i : Int) + 1 ≤ t.size := by omega
      have g3 : ¬ (i : Int) + 1 < 0 := by omega
      obtain ⟨fn, tmps, assign, body, hy, hR⟩ := hY (pre, t) (t.extract 0 i) wr ⟨_, by rw [← hlv]; exact hpt⟩ hj
      gi_wp2_with (gi_at_call 83; refine (callsIn_wide.2 (hix _)).mono ?_; rintro e w' ⟨rfl, rfl⟩)
      refine hR.mono ?_
      rintro e W3 ⟨rfl, hj3⟩
      have j3 := hsub _ _ hj3
      have e1 := j3.txt.cell
      have e2 := j3.sep.cell
      have fe := j3.txt.frozen
      have hj4 := hset _ (pre ++ [t.extract 0 i], t.extract (i + 1) t.size) W3 ⟨w.heap.size + 1, 0, none⟩ (.string (t.extract (i + 1) t.size)) hj3 (j3.text _)
      have hez : (t.extract (i + 1) t.size).size < t.size := by rw [ByteArray.size_extract]; omega
      have hm4 := szAt_eq (hsub _ _ hj4).txt
      gi_wp2
      go_roundw
      case rel => exact ⟨_, _, by rw [List.append_assoc, List.singleton_append, ← hlv, hpt], by omega, hj4⟩
      case measure => rw [hm4, hsz]; exact hez
theorem lv_len (s : ByteArray) : (lv s).length ≤ s.size + 1 := by
  unfold lv
  rw [List.length_map]
  have := split_len s.data.toList
  rw [Array.length_toList] at this
  exact this
theorem splitseq_in (s : ByteArray) (w : World) :
    Calls Tryd.prog 76 #[.string s, .string ⟨#[47]⟩, .int .i64 0] w fun e w' => e = .returned (.func (.func 81) #[] #[.pointer (some ⟨w.heap.size + 1, 0, none⟩), .pointer (some ⟨w.heap.size, 0, none⟩), .pointer (some ⟨w.heap.size + 2, 0, none⟩)]) ∧ w' = ((w.alloc (.cells #[.string s] 9)).alloc (.cells #[.string ⟨#[47]⟩] 9)).alloc (.cells #[.int .i64 0] 3) := by
  go_enter Tryd.func76, Tryd.ntmps76
  go_wp2
  go_ret
  exact ⟨rfl, rfl⟩
theorem splitseq_walk (s : ByteArray) (w : World) :
    Calls Tryd.prog 69 #[.string s, .string ⟨#[47]⟩] w fun e w' => e = .returned (.func (.func 81) #[] #[.pointer (some ⟨w.heap.size + 1, 0, none⟩), .pointer (some ⟨w.heap.size, 0, none⟩), .pointer (some ⟨w.heap.size + 2, 0, none⟩)]) ∧ w' = ((w.alloc (.cells #[.string s] 9)).alloc (.cells #[.string ⟨#[47]⟩] 9)).alloc (.cells #[.int .i64 0] 3) := by
  go_enter Tryd.func69, Tryd.ntmps69
  go_wp2_with (go_at_call 76; (with_reducible refine (splitseq_in _ _).mono ?_); rintro e w' ⟨rfl, rfl⟩)
  go_ret
  exact ⟨rfl, rfl⟩
set_option maxRecDepth 100000 in
set_option maxHeartbeats 2000000 in
theorem levels_walk (s : ByteArray) (hs : s.size ≤ 1000000) (w : World) :
    Calls Tryd.prog 57 #[.string s] w fun e w' => ∃ o k, e = .returned (.slice o (lv s).length k) ∧ w'.ownsRow w.heap.size 9 1 (.slice o (lv s).length k) (lv s).length ((lv s).map Value.string) ∧ Below w.heap.size w w' := by
  obtain ⟨i0, hi, hz0, hz1, hz2⟩ := info_parts info9
  have hll := lv_len s
  have k32 : Fence.wide.fn 69 := trivial
  refine (callsIn_wide (n := 9)).1 ?_
  refine callsIn_of_wp_marks Tryd.func57 rfl trivial ?_ rfl
  simp only [Tryd.ntmps57, List.size_toArray, List.length_cons, List.length_nil, Nat.reduceAdd, Nat.reduceSub, Array.replicate_succ, Array.replicate_zero, List.push_toArray, List.append_toArray, List.nil_append, List.cons_append]
  gi_wp2_with (gi_at_call 69; refine (callsIn_wide.2 (splitseq_walk s _)).mono ?_; rintro e w' ⟨rfl, rfl⟩)
  have z0 : Boxed (w.alloc (.cells #[.slice none 0 0] 57)) w.heap.size 57 (.slice none 0 0) := Boxed.new w _ _
  have z1 := Boxed.new (w.alloc (.cells #[.slice none 0 0] 57)) 9 (.string s)
  have z2 := Boxed.new ((w.alloc (.cells #[.slice none 0 0] 57)).alloc (.cells #[.string s] 9)) 9 (.string ⟨#[47]⟩)
  have z3 := Boxed.new (((w.alloc (.cells #[.slice none 0 0] 57)).alloc (.cells #[.string s] 9)).alloc (.cells #[.string ⟨#[47]⟩] 9)) 3 (.int .i64 0)
  have j0 : JL w ([], s) ((((w.alloc (.cells #[.slice none 0 0] 57)).alloc (.cells #[.string s] 9)).alloc (.cells #[.string ⟨#[47]⟩] 9)).alloc (.cells #[.int .i64 0] 3)) := by
    simp only [World.size_alloc] at z1 z2 z3
    exact ⟨⟨_, ((z0.alloc _).alloc _).alloc _, World.ownsRow_nil _ _ _ _, by simp⟩, (z1.alloc _).alloc _, z2.alloc _, z3, ((((Below.refl _ w).alloc (Nat.le_refl _) _).alloc (by simp) _).alloc (by simp; omega) _).alloc (by simp; omega) _⟩
  clear z0 z1 z2 z3
  obtain ⟨w4, hw4⟩ : ∃ w4, ((((w.alloc (.cells #[.slice none 0 0] 57)).alloc (.cells #[.string s] 9)).alloc (.cells #[.string ⟨#[47]⟩] 9)).alloc (.cells #[.int .i64 0] 3)) = w4 := ⟨_, rfl⟩
  have hs4 : w4.heap.size = w.heap.size + 4 := by rw [← hw4]; simp
  rw [hw4] at j0 ⊢
  refine range_state (n := 9) (gf := 81) (lb := #[.pointer (some ⟨w.heap.size + 2, 0, none⟩), .pointer (some ⟨w.heap.size + 1, 0, none⟩), .pointer (some ⟨w.heap.size + 3, 0, none⟩)]) rfl (enters_of Tryd.func81 (by kernel_rfl) rfl)
    (fun x : ByteArray => #[Value.string x]) (fun _ => rfl) (JL w) (fun s x => (s.1 ++ [x], s.2)) (fun q x => ∃ r, q.1 ++ x :: r = lv s) ([], s) (lv s, (lv s).getLast (lv_ne s)) (fun s W l o o' h hl => h.put o' (by omega)) (fun s W o h => h.alloc o) j0
    (fun x => { tmps := #[.string s, undef, .slice none 0 0, .pointer (some ⟨w.heap.size, 0, none⟩), .string x, .string s, .func (.func 81) #[] #[.pointer (some ⟨w.heap.size + 2, 0, none⟩), .pointer (some ⟨w.heap.size + 1, 0, none⟩), .pointer (some ⟨w.heap.size + 3, 0, none⟩)], .string x, undef, undef, undef, undef, undef], defers := [] }) ?assign ?body
    (fun l J' W hsub hset hY h0 => seq_walk s w l 8 J' W (by omega) hs hsub hset hY h0) ?done
  case assign =>
    intro l x W K hK
    gi_wp2
    exact hK
  case body =>
    rintro l ⟨pre, t⟩ x W ⟨r, hr⟩ hj
    simp only at hr
    have hpl : pre.length + 1 ≤ (lv s).length := by rw [← hr, List.length_append, List.length_cons]; omega
    obtain ⟨⟨v, hv, hrow, hnil⟩, h1, h2, h3, hB⟩ := hj
    simp only at hrow hnil h1
    have hc := hv.cell
    have hlow := fun b e => (hrow.lt b e).1
    have hBs := hB.size
    have hW4 : w.heap.size + 4 ≤ W.heap.size := by have := h3.lt; omega
    gi_wp2_with (gi_at_builtin; refine wpListIn_append_own _ rfl _ _ 57 rfl (w.heap.size + 4) 9 i0 (.string ⟨#[]⟩) 1 16 Tryd.underlying57 hi hz0 hz1 hz2 rfl (by decide) _ _ _ rfl (hrow.alloc _) ⟨W.heap.size, 0, none⟩ 1 1 [.string x] rfl rfl (cell_one_new _ _ _) (by simp [Value.oneCell']) (by simp only [maxLen]; omega) (by omega) (by simp; omega) ?_; intro v' w1 hown' hgrow _
                 obtain ⟨g', cap', rfl⟩ := ownsRow_succ hown'
                 have hlow' := fun b e => (hown'.lt b e).1
                 have b0 : Boxed w1 w.heap.size 57 v := (hv.alloc _).kept hgrow (fun e => by have := hlow _ e.symm; omega)
                 have b1 := (h1.alloc (.cells #[.string x] 9)).kept hgrow (fun e => by have := hlow _ e.symm; omega)
                 have b2 := (h2.alloc (.cells #[.string x] 9)).kept hgrow (fun e => by have := hlow _ e.symm; omega)
                 have b3 := (h3.alloc (.cells #[.string x] 9)).kept hgrow (fun e => by have := hlow _ e.symm; omega)
                 have hk := app_others (B := w.heap.size) (.slice (some ⟨g', 0, none⟩) (pre.length + 1) cap') hrow hgrow
                 have hg2 := grownBy_setCell' w1 w.heap.size (.slice (some ⟨g', 0, none⟩) (pre.length + 1) cap')
                 have jn : JL w (pre ++ [x], t) (w1.setCell ⟨w.heap.size, 0, none⟩ (.slice (some ⟨g', 0, none⟩) (pre.length + 1) cap')) := by
                   refine ⟨⟨_, b0.set _, ?_, by simp⟩, b1.kept hg2 (fun e => by have := Option.some.inj e; omega), b2.kept hg2 (fun e => by have := Option.some.inj e; omega), b3.kept hg2 (fun e => by have := Option.some.inj e; omega), ?_⟩
                   · simp only [List.length_append, List.length_singleton, List.map_append, List.map_cons, List.map_nil]
                     exact hown'.kept hg2 (.inr fun e => by have := hlow' _ e; omega)
                   · exact ((hB.alloc hBs _).grown hgrow (by simp; omega) (fun k e => by have := hlow k e; omega)).setCell (p := ⟨w.heap.size, 0, none⟩) (Nat.le_refl _) _
                 have hc1 := b0.cell
                 have hf1 := b0.frozen
                 clear hgrow hown' hlow' b1 b2 b3 hg2)
  case done =>
    intro D W hD hj hK
    obtain ⟨⟨v, hv, hrow, hnil⟩, _, _, _, hB⟩ := hj
    have hc := hv.cell
    simp only at hrow
    gi_wp2
    refine ⟨by simp, .inl ⟨_, _, rfl, run_takeDeferred hK, ?_⟩⟩
    obtain ⟨o, k, rfl⟩ : ∃ o k, v = .slice o (lv s).length k := by
      rcases hrow.2 with ⟨rfl, h0⟩ | ⟨g, cap, _, rfl, _⟩
      · rw [h0]; exact ⟨_, _, rfl⟩
      · exact ⟨_, _, rfl⟩
    exact ⟨_, results_tmp rfl _ _ _, o, k, rfl, own_base (Nat.le_add_right _ _) (ownsRow_putObj hrow _ hK rfl), hB.grown (grownBy_putObj' W D _) hB.size (fun k e => by cases e; omega)⟩
end Go.Proofs.YtjjimkmbbifbjaaDoor.TW
end
section
namespace Go.Proofs.YtjjimkmbbifbjaaDoor.TW
open Go Go.RowKit Go.Proofs.YtjjimkmbbifbjaaDoor Go.Proofs.YtjjimkmbbifbjaaDoor.TP
def okc (c : Int) : Bool := decide ((97 ≤ c ∧ c ≤ 122) ∨ (48 ≤ c ∧ c ≤ 57) ∨ c = 45 ∨ c = 95)
set_option maxHeartbeats 2000000 in
theorem name1_walk (c : Int) (w : World) : Calls Tryd.prog 71 #[.int .i32 c] w fun e w' => e = .returned (.bool (okc c)) ∧ w = w' := by
  have hc : (97 ≤ c ∧ c ≤ 122) ∨ (¬ c ≤ 122 ∧ 97 ≤ c ∧ ¬ c ≤ 57 ∧ 48 ≤ c ∧ ¬ c = 45 ∧ ¬ c = 95) ∨ (¬ 97 ≤ c ∧ ¬ c ≤ 57 ∧ 48 ≤ c ∧ ¬ c = 45 ∧ ¬ c = 95) ∨ c = 95 ∨ (¬ 97 ≤ c ∧ 48 ≤ c ∧ c ≤ 57) ∨ (¬ 97 ≤ c ∧ ¬ 48 ≤ c ∧ ¬ c = 45 ∧ ¬ c = 95) ∨ c = 45 := by omega
  rcases hc with ⟨h1, h2⟩ | ⟨h1, h2, h3, h4, h5, h6⟩ | ⟨h1, h2, h3, h4, h5⟩ | rfl | ⟨h1, h2, h3⟩ | ⟨h1, h2, h3, h4⟩ | rfl
  · have e : okc c = true := by unfold okc; simp only [decide_eq_true_eq]; omega
    rw [e]; clear e
    go_enter Tryd.func71, Tryd.ntmps71
    go_wp2
    go_returns
    exact ⟨rfl, rfl⟩
  · have e : okc c = false := by unfold okc; simp only [decide_eq_false_iff_not]; omega
    rw [e]; clear e
    have b1 : (c == 45) = false := by simp; omega
    have b2 : (c == 95) = false := by simp; omega
    go_enter Tryd.func71, Tryd.ntmps71
    go_wp2
    go_returns
    exact ⟨rfl, rfl⟩
  · have e : okc c = false := by unfold okc; simp only [decide_eq_false_iff_not]; omega
    rw [e]; clear e
    have b1 : (c == 45) = false := by simp; omega
    have b2 : (c == 95) = false := by simp; omega
    go_enter Tryd.func71, Tryd.ntmps71
    go_wp2
    go_returns
    exact ⟨rfl, rfl⟩
  · go_enter Tryd.func71, Tryd.ntmps71
    go_wp2
    go_returns
    exact ⟨rfl, rfl⟩
  · have e : okc c = true := by unfold okc; simp only [decide_eq_true_eq]; omega
    rw [e]; clear e
    go_enter Tryd.func71, Tryd.ntmps71
    go_wp2
    go_returns
    exact ⟨rfl, rfl⟩
  · have e : okc c = false := by unfold okc; simp only [decide_eq_false_iff_not]; omega
    rw [e]; clear e
    have b1 : (c == 45) = false := by simp; omega
    have b2 : (c == 95) = false := by simp; omega
    go_enter Tryd.func71, Tryd.ntmps71
    go_wp2
    go_returns
    exact ⟨rfl, rfl⟩
  · go_enter Tryd.func71, Tryd.ntmps71
    go_wp2
    go_returns
    exact ⟨rfl, rfl⟩
set_option maxRecDepth 100000 in
theorem okc_nmc (b : UInt8) : okc (b.toNat : Int) = nmc b := by
  have h : ∀ n : Fin 256, okc ((UInt8.ofNat n.val).toNat : Int) = nmc (UInt8.ofNat n.val) := by decide
  have := h ⟨b.toNat, b.toNat_lt⟩
  simpa using this
theorem okc_high {n : Nat} (h : 128 ≤ n) : okc (n : Int) = false := by unfold okc; simp only [decide_eq_false_iff_not]; omega
theorem nm_bad {s : ByteArray} {i : Nat} (h : i < s.size) (hb : nmc (s[i]'h) = false) : nm s = false := by
  cases hn : nm s with
  | false => rfl
  | true =>
    unfold nm at hn
    simp only [Bool.and_eq_true, List.all_eq_true] at hn
    have := hn.1.1 (s[i]'h) (by simp [ByteArray.getElem_eq_getElem_data])
    rw [hb] at this
    cases this
set_option maxHeartbeats 2000000 in
theorem name_walk (s : ByteArray) (hs : s.size ≤ 1000000) (w : World) : Calls Tryd.prog 60 #[.string s] w fun e w' => e = .returned (.bool (nm s)) ∧ Below w.heap.size w w' := by
  go_enter Tryd.func60, Tryd.ntmps60
  go_wp2
  go_loopw [] (fun wr => ∃ pos : Nat, wr.heap[w.heap.size]? = some (.stringIter s pos) ∧ Below w.heap.size w wr ∧ pos ≤ s.size ∧ ∀ i (h : i < s.size), i < pos → nmc (s[i]'h) = true) (fun wr => s.size - wr.iterPos w.heap.size)
  case atStart => exact ⟨0, by have := World.iter_heap w s 0; simpa using this, (Below.refl _ w).alloc (Nat.le_refl _) _, Nat.zero_le _, fun i _ h => by omega⟩
  case round =>
    obtain ⟨pos, hit, hb, hps, hall⟩ := hrel
    by_cases hp : pos < s.size
    · by_cases ha : (s[pos]'hp).toNat < 128
      · have hnx : ∀ ty, (Instr.next (.pointer (some ⟨w.heap.size, 0, none⟩)) true ty).run Tryd.prog wr = _ := fun ty => Lib.run_next_ascii_at wr w.heap.size s pos ty hit hp ha
        have hit2 := Lib.iterAt_heap wr w.heap.size s pos (pos + 1) hit
        have hb2 := Lib.below_iterAt hb (k := w.heap.size) (Nat.le_refl _) s (pos + 1)
        have hok := name1_walk ((s[pos]'hp).toNat : Int)
        rw [okc_nmc] at hok
        cases hc : nmc (s[pos]'hp) with
        | true =>
          rw [hc] at hok
          generalize (s[pos]'hp).toNat = cc at *
          go_wp2_with (go_at_call 71; (with_reducible refine (hok _).mono ?_); rintro e w3 ⟨rfl, rfl⟩)
          go_roundw
          case rel => exact ⟨pos + 1, hit2, hb2, hp, fun i h hi => by
            by_cases e : i = pos
            · subst e; exact hc
            · exact hall i h (by omega)⟩
          case measure => simp only [World.iterPos, hit2, hit]; omega
        | false =>
          rw [hc] at hok
          have hbad := nm_bad hp hc
          generalize (s[pos]'hp).toNat = cc at *
          go_wp2_with (go_at_call 71; (with_reducible refine (hok _).mono ?_); rintro e w3 ⟨rfl, rfl⟩)
          go_returns
          exact ⟨by rw [hbad]; rfl, hb2⟩
      · have hd := decode_high s pos hp (by omega)
        have hnx : ∀ ty, (Instr.next (.pointer (some ⟨w.heap.size, 0, none⟩)) true ty).run Tryd.prog wr = _ := fun ty => Lib.run_next_any_at wr w.heap.size s pos ty hit hp
        have hb2 := Lib.below_iterAt hb (k := w.heap.size) (Nat.le_refl _) s (pos + (Utf8.decode s pos).2)
        have hok := name1_walk ((Utf8.decode s pos).1 : Int)
        rw [okc_high hd.1] at hok
        have hc : nmc (s[pos]'hp) = false := by
          rw [← okc_nmc, okc_high (by omega)]
        have hbad := nm_bad hp hc
        generalize (Utf8.decode s pos).1 = cc at *
        generalize (Utf8.decode s pos).2 = dd at *
        go_wp2_with (go_at_call 71; (with_reducible refine (hok _).mono ?_); rintro e w3 ⟨rfl, rfl⟩)
        go_returns
        exact ⟨by rw [hbad]; rfl, hb2⟩
    · have hnx : ∀ ty, (Instr.next (.pointer (some ⟨w.heap.size, 0, none⟩)) true ty).run Tryd.prog wr = _ := fun ty => Lib.run_next_end_at wr w.heap.size s pos ty hit hp
      have hal : s.data.toList.all nmc = true := by
        rw [List.all_eq_true]
        intro x hx
        obtain ⟨i, hi, rfl⟩ := List.getElem_of_mem hx
        have hi2 : i < s.size := by rw [Array.length_toList] at hi; exact hi
        have := hall i hi2 (by omega)
        simpa [ByteArray.getElem_eq_getElem_data] using this
      have hn : nm s = (decide (1 ≤ s.size) && decide (s.size ≤ 16)) := by unfold nm; rw [hal]; simp
      clear hal hall
      have hem : s.toList.isEmpty = decide (s.size = 0) := by
        rw [Lib.toList_data, Bool.eq_iff_iff, List.isEmpty_iff, decide_eq_true_eq, ← List.length_eq_zero_iff, Array.length_toList]
        rfl
      have hc : s.size = 0 ∨ (1 ≤ s.size ∧ s.size ≤ 16) ∨ 16 < s.size := by omega
      rcases hc with h0 | ⟨h1, h16⟩ | h16
      · have he : s.toList.isEmpty = true := by rw [hem]; simpa using h0
        replace hn : nm s = false := by rw [hn]; simp [h0]
        clear hem
        go_wp2
        go_returns
        exact ⟨by rw [hn]; rfl, hb⟩
      · have he : s.toList.isEmpty = false := by rw [hem, decide_eq_false_iff_not]; omega
        replace hn : nm s = true := by rw [hn]; simp [h1, h16]
        have g16 : (s.size : Int) ≤ 16 := by omega
        clear hem
        go_wp2
        go_returns
        exact ⟨by rw [hn]; rfl, hb⟩
      · have he : s.toList.isEmpty = false := by rw [hem, decide_eq_false_iff_not]; omega
        replace hn : nm s = false := by rw [hn]; simp; omega
        have g16 : ¬ (s.size : Int) ≤ 16 := by omega
        have g16b : ¬ s.size ≤ 16 := by omega
        clear hem
        go_wp2
        go_returns
        exact ⟨rfl, hb⟩
def SRow (w : World) (o : Option Addr) (l : List ByteArray) : Prop := ∀ j (hj : j < l.length), ∃ a, o = some a ∧ w.cell? (a.add j) = some (.string (l[j]'hj)) ∧ a.block < w.heap.size
theorem add0 (g : Nat) (j : Nat) : (⟨g, 0, none⟩ : Addr).add j = ⟨g, j, none⟩ := by
  unfold Addr.add
  split
  · rename_i h; rw [h]
  · simp
theorem add_block (a : Addr) (j : Nat) : (a.add j).block = a.block := by
  unfold Addr.add
  split <;> rfl
theorem SRow.below {w w2 : World} {o : Option Addr} {l : List ByteArray} (h : SRow w o l) (hb : Below w.heap.size w w2) : SRow w2 o l := fun j hj => by
  obtain ⟨a, ha, hc, hlt⟩ := h j hj
  exact ⟨a, ha, (hb.cell (by rw [add_block]; exact hlt)).trans hc, Nat.lt_of_lt_of_le hlt hb.size⟩
theorem SRow.own {w : World} {N : Nat} {o : Option Addr} {k : Nat} {l : List ByteArray} (h : w.ownsRow N 9 1 (.slice o l.length k) l.length (l.map Value.string)) : SRow w o l := fun j hj => by
  obtain ⟨g, cap, hf, _, hlt⟩ := h.form (by omega)
  obtain ⟨ho, _, hk⟩ := Value.slice.inj hf
  subst ho
  subst hk
  refine ⟨⟨g, 0, none⟩, rfl, ?_, hlt⟩
  rw [add0, h.cellAt j (by omega)]
  simp [hj]
theorem levels_calls (s : ByteArray) (hs : s.size ≤ 1000000) (w : World) :
    Calls Tryd.prog 57 #[.string s] w fun e w' => ∃ o k, e = .returned (.slice o (lv s).length k) ∧ SRow w' o (lv s) ∧ Below w.heap.size w w' := by
  refine (levels_walk s hs w).mono ?_
  rintro e w2 ⟨o, k, rfl, hr, hb⟩
  exact ⟨o, k, rfl, .own hr, hb⟩
set_option maxHeartbeats 1000000 in
theorem right1_walk (s : ByteArray) (hs : s.size ≤ 1000000) (w : World) : Calls Tryd.prog 59 #[.string s] w fun e w' => e = .returned (.bool (!nm s)) ∧ Below w.heap.size w w' := by
  go_enter Tryd.func59, Tryd.ntmps59
  go_wp2_with (go_at_call 60; (with_reducible refine (name_walk s hs _).mono ?_); rintro e w2 ⟨rfl, hb⟩)
  go_returns
  exact ⟨rfl, hb⟩
def badAt : List ByteArray → Int
  | [] => -1
  | x :: l => if nm x = false then 0 else if badAt l = -1 then -1 else badAt l + 1
theorem badAt_ge : ∀ l, -1 ≤ badAt l
  | [] => by simp [badAt]
  | x :: l => by
    have := badAt_ge l
    unfold badAt
    split
    · omega
    · split <;> omega
theorem badAt_all : ∀ l, (0 ≤ badAt l) ↔ l.all nm = false
  | [] => by simp [badAt]
  | x :: l => by
    have ih := badAt_all l
    have hg := badAt_ge l
    unfold badAt
    rw [List.all_cons]
    cases hx : nm x with
    | false => simp
    | true =>
      simp only [Bool.true_and]
      rw [if_neg (by simp), ← ih]
      split <;> omega
theorem badAt_drop : ∀ (l : List ByteArray) (j : Nat), (∀ i (h : i < l.length), i < j → nm (l[i]'h) = true) → (hj : j < l.length) → nm (l[j]'hj) = false → badAt l = j
  | [], j, _, hj, _ => by simp at hj
  | x :: l, 0, _, _, hb => by simp at hb; simp [badAt, hb]
  | x :: l, j + 1, ha, hj, hb => by
    have h0 := ha 0 (by simp) (by omega)
    simp at h0 hb
    have := badAt_drop l j (fun i h hi => by have := ha (i + 1) (by simp; omega) (by omega); simpa using this) (by simpa using hj) hb
    unfold badAt
    rw [if_neg (by simp [h0]), this, if_neg (by omega)]
    omega
theorem badAt_none : ∀ (l : List ByteArray), (∀ i (h : i < l.length), nm (l[i]'h) = true) → badAt l = -1
  | [], _ => rfl
  | x :: l, ha => by
    have h0 := ha 0 (by simp)
    simp at h0
    have := badAt_none l (fun i h => by have := ha (i + 1) (by simp; omega); simpa using this)
    unfold badAt
    rw [if_neg (by simp [h0]), if_pos this]
set_option maxHeartbeats 2000000 in
theorem indexf_walk {w : World} {o : Option Addr} {l : List ByteArray} (h : SRow w o l) (k : Nat) (hl : l.length ≤ 1000000) (hz : ∀ x ∈ l, x.size ≤ 1000000) :
    Calls Tryd.prog 70 #[.slice o l.length k, .func (.func 59) #[] #[]] w fun e w' => e = .returned (.int .i64 (badAt l)) ∧ Below w.heap.size w w' := by
  go_enter Tryd.func70, Tryd.ntmps70
  go_wp2
  go_loopw [8] (fun v8 wr => ∃ j : Nat, v8 = .int .i64 j ∧ j ≤ l.length ∧ Below w.heap.size w wr ∧ ∀ i (h : i < l.length), i < j → nm (l[i]'h) = true) (fun i _ => l.length - (intOf i).toNat)
  case atStart => exact ⟨0, rfl, Nat.zero_le _, Below.refl _ _, fun i _ h => by omega⟩
  case round =>
    obtain ⟨j, rfl, hj, hb, hall⟩ := hrel
    by_cases hlt : j < l.length
    · obtain ⟨a, rfl, ha, _⟩ := (h.below hb) j hlt
      have hx := hz (l[j]'hlt) (List.getElem_mem hlt)
      have hbad := badAt_drop l j hall hlt
      cases hn : nm (l[j]'hlt) with
      | true =>
        have hall2 : ∀ i (h : i < l.length), i < j + 1 → nm (l[i]'h) = true := fun i h hi => by
          by_cases e : i = j
          · subst e; exact hn
          · exact hall i h (by omega)
        have hr := fun w => right1_walk (l[j]'hlt) hx w
        rw [hn] at hr
        generalize l[j]'hlt = x at ha hr
        clear hbad hall h
        go_wp2_with (go_at_call 59; (with_reducible refine (hr _).mono ?_); rintro e w2 ⟨rfl, hb2⟩
                     have hb3 := hb.trans (hb2.mono hb.size))
        go_roundw
        case rel => exact ⟨j + 1, by go_num, by omega, hb3, hall2⟩
        case measure => simp [intOf]; omega
      | false =>
        replace hbad := hbad hn
        have hr := fun w => right1_walk (l[j]'hlt) hx w
        rw [hn] at hr
        generalize l[j]'hlt = x at ha hr
        clear hall h hn
        go_wp2_with (go_at_call 59; (with_reducible refine (hr _).mono ?_); rintro e w2 ⟨rfl, hb2⟩
                     have hb3 := hb.trans (hb2.mono hb.size))
        go_returns
        exact ⟨by rw [hbad]; rfl, hb3⟩
    · have hbad := badAt_none l (fun i h => hall i h (by omega))
      clear hall h
      go_wp2
      go_returns
      exact ⟨by rw [hbad]; rfl, hb⟩
set_option maxHeartbeats 1000000 in
theorem contains_walk {w : World} {o : Option Addr} {l : List ByteArray} (h : SRow w o l) (k : Nat) (hl : l.length ≤ 1000000) (hz : ∀ x ∈ l, x.size ≤ 1000000) :
    Calls Tryd.prog 58 #[.slice o l.length k, .func (.func 59) #[] #[]] w fun e w' => e = .returned (.bool (!l.all nm)) ∧ Below w.heap.size w w' := by
  have hi := indexf_walk h k hl hz
  have hb := badAt_all l
  have hq : decide (0 ≤ badAt l) = !l.all nm := by
    rw [Bool.eq_iff_iff, decide_eq_true_eq, hb]
    cases l.all nm <;> simp
  rw [← hq]
  generalize badAt l = b at *
  clear h hb hq
  go_enter Tryd.func58, Tryd.ntmps58
  go_wp2_with (go_at_call 70; (with_reducible refine hi.mono ?_); rintro e w2 ⟨rfl, hb2⟩)
  go_returns
  exact ⟨rfl, hb2⟩
theorem lv_size {s x : ByteArray} (h : x ∈ lv s) : x.size ≤ s.size := by
  have hj : ∀ (l : List (List UInt8)) (y : List UInt8), y ∈ l → y.length ≤ (join l).length := by
    intro l
    induction l with
    | nil => intro y hy; cases hy
    | cons z l ih =>
      intro y hy
      cases l with
      | nil => rw [List.mem_singleton.1 hy]; exact Nat.le_refl _
      | cons u l =>
        rw [join_cons _ _ (by simp), List.length_append, List.length_cons]
        rcases List.mem_cons.1 hy with e | e
        · rw [e]; omega
        · have := ih y e; omega
  unfold lv at h
  obtain ⟨y, hy, rfl⟩ := List.mem_map.1 h
  have := hj _ _ hy
  rw [join_split, Array.length_toList] at this
  exact this
set_option maxHeartbeats 1000000 in
theorem right_walk (s : ByteArray) (hs : s.size ≤ 900000) (w : World) : Calls Tryd.prog 28 #[.string s] w fun e w' => e = .returned (.bool (rightB s)) ∧ Below w.heap.size w w' := by
  have hll := lv_len s
  have hlc := levels_calls s (by omega) w
  have hz : ∀ x ∈ lv s, x.size ≤ 1000000 := fun x hx => by have := lv_size hx; omega
  unfold rightB
  generalize lv s = l at *
  by_cases h8 : l.length ≤ 8
  · have g8 : (l.length : Int) ≤ 8 := by omega
    have e : (decide (l.length ≤ 8) && l.all nm) = l.all nm := by simp [h8]
    rw [e]
    clear e
    have hco := fun (w : World) (o : Option Addr) (k : Nat) (h : SRow w o l) => contains_walk h k (by omega) hz
    generalize l.all nm = b at *
    clear hz
    go_enter Tryd.func28, Tryd.ntmps28
    go_wp2_with (first
      | (go_at_call 57; (with_reducible refine hlc.mono ?_); rintro e w2 ⟨o, k, rfl, hr, hb⟩)
      | (go_at_call 58; (with_reducible refine (hco _ _ _ hr).mono ?_); rintro e w3 ⟨rfl, hb2⟩
         have hb3 := hb.trans (hb2.mono hb.size)))
    go_returns
    exact ⟨by simp, hb3⟩
  · have g8 : ¬ (l.length : Int) ≤ 8 := by omega
    have e : (decide (l.length ≤ 8) && l.all nm) = false := by simp [h8]
    rw [e]
    clear e hz
    go_enter Tryd.func28, Tryd.ntmps28
    go_wp2_with (go_at_call 57; (with_reducible refine hlc.mono ?_); rintro e w2 ⟨o, k, rfl, hr, hb⟩)
    go_returns
    exact ⟨rfl, hb⟩
end Go.Proofs.YtjjimkmbbifbjaaDoor.TW
end
section
namespace Go.Proofs.YtjjimkmbbifbjaaDoor.TW
open Go Go.RowKit Go.Proofs.YtjjimkmbbifbjaaDoor Go.Proofs.YtjjimkmbbifbjaaDoor.TP
theorem toList_beq (x y : ByteArray) : (x.toList == y.toList) = decide (x = y) := by
  rw [Bool.eq_iff_iff, beq_iff_eq, decide_eq_true_eq, Lib.toList_data, Lib.toList_data]
  exact ⟨ba_ext, fun h => by rw [h]⟩
theorem is_one (x : ByteArray) : (x.toList == [43]) = decide (x = TP.one) := by
  have := toList_beq x TP.one
  rwa [show TP.one.toList = [43] from by rw [Lib.toList_data]; rfl] at this
theorem is_rest (x : ByteArray) : (x.toList == [35]) = decide (x = TP.rest) := by
  have := toList_beq x TP.rest
  rwa [show TP.rest.toList = [35] from by rw [Lib.toList_data]; rfl] at this
theorem flt_step {l : List ByteArray} {j : Nat} (hj : j < l.length) : fltL (l.drop j) = ((nm (l[j]'hj) || decide (l[j]'hj = TP.one) || (decide (l[j]'hj = TP.rest) && decide (j + 1 = l.length))) && fltL (l.drop (j + 1))) := by
  rw [List.drop_eq_getElem_cons hj]
  have : (l.drop (j + 1)).isEmpty = decide (j + 1 = l.length) := by
    rw [Bool.eq_iff_iff, List.isEmpty_iff, decide_eq_true_eq, List.drop_eq_nil_iff]
    omega
  simp only [fltL, this]
set_option maxHeartbeats 4000000 in
theorem filter_walk (s : ByteArray) (hs : s.size ≤ 900000) (w : World) : Calls Tryd.prog 29 #[.string s] w fun e w' => e = .returned (.bool (filterB s)) ∧ Below w.heap.size w w' := by
  have hll := lv_len s
  have hlc := levels_calls s (by omega) w
  have hz : ∀ x ∈ lv s, x.size ≤ 1000000 := fun x hx => by have := lv_size hx; omega
  unfold filterB
  generalize lv s = l at *
  by_cases h8 : l.length ≤ 8
  · have g8 : ¬ (8 : Int) < l.length := by omega
    have g8b : ¬ 8 < l.length := by omega
    have e : (decide (l.length ≤ 8) && fltL l) = fltL l := by simp [h8]
    rw [e]
    clear e
    go_enter Tryd.func29, Tryd.ntmps29
    go_wp2_with (go_at_call 57; (with_reducible refine hlc.mono ?_); rintro e w2 ⟨o, k, rfl, hr, hb⟩)
    clear hlc
    go_loopw [14] (fun v14 wr => ∃ j : Nat, v14 = .int .i64 j ∧ j ≤ l.length ∧ Below w.heap.size w wr ∧ Below w2.heap.size w2 wr ∧ fltL l = fltL (l.drop j)) (fun i _ => l.length - (intOf i).toNat)
    case atStart => exact ⟨0, rfl, Nat.zero_le _, hb, Below.refl _ _, rfl⟩
    case round =>
      obtain ⟨j, rfl, hj, hb0, hb1, hfl⟩ := hrel
      by_cases hlt : j < l.length
      · obtain ⟨a, rfl, ha, _⟩ := (hr.below hb1) j hlt
        have hx := hz (l[j]'hlt) (List.getElem_mem hlt)
        have hst := flt_step hlt
        have hnw := fun w => name_walk (l[j]'hlt) hx w
        have ho := is_one (l[j]'hlt)
        have hre := is_rest (l[j]'hlt)
        generalize l[j]'hlt = x at ha hnw ho hre hst
        replace hfl := Lib.hid hfl
        replace hst := Lib.hid hst
        have bj : 0 ≤ (l.length : Int) - 1 := by omega
        clear hr hz hb
        cases hn : nm x with
        | true =>
          rw [hn] at hnw
          clear ho hre
          go_wp2_with (go_at_call 60; (with_reducible refine (hnw _).mono ?_); rintro e w3 ⟨rfl, hb3⟩
                       have k0 := hb0.trans (hb3.mono hb0.size)
                       have k1 := hb1.trans (hb3.mono hb1.size)
                       clear hb3)
          go_roundw
          case rel => exact ⟨j + 1, by go_num, by omega, k0, k1, by rw [hfl.out, hst.out, hn]; simp⟩
          case measure => simp [intOf]; omega
        | false =>
          rw [hn] at hnw
          by_cases h1 : x = TP.one
          · replace ho : (x.toList == [43]) = true := by rw [ho]; simpa using h1
            replace h1 := Lib.hid h1
            clear hre
            go_wp2_with (go_at_call 60; (with_reducible refine (hnw _).mono ?_); rintro e w3 ⟨rfl, hb3⟩
                         have k0 := hb0.trans (hb3.mono hb0.size)
                         have k1 := hb1.trans (hb3.mono hb1.size)
                         clear hb3)
            go_roundw
            case rel => exact ⟨j + 1, by go_num, by omega, k0, k1, by rw [hfl.out, hst.out, hn]; simp [h1.out]⟩
            case measure => simp [intOf]; omega
          · replace ho : (x.toList == [43]) = false := by rw [ho]; simpa using h1
            by_cases h2 : x = TP.rest
            · replace hre : (x.toList == [35]) = true := by rw [hre]; simpa using h2
              replace h2 := Lib.hid h2
              by_cases h3 : j + 1 = l.length
              · have hq : ((j : Int) == (l.length : Int) - 1) = true := by rw [beq_iff_eq]; omega
                replace h3 := Lib.hid h3
                go_wp2_with (go_at_call 60; (with_reducible refine (hnw _).mono ?_); rintro e w3 ⟨rfl, hb3⟩
                             have k0 := hb0.trans (hb3.mono hb0.size)
                             have k1 := hb1.trans (hb3.mono hb1.size)
                             clear hb3)
                go_roundw
                case rel => exact ⟨j + 1, by go_num, by omega, k0, k1, by rw [hfl.out, hst.out, hn]; simp [h2.out, h3.out]⟩
                case measure => simp [intOf]; omega
              · have hq : ((j : Int) == (l.length : Int) - 1) = false := by simp; omega
                go_wp2_with (go_at_call 60; (with_reducible refine (hnw _).mono ?_); rintro e w3 ⟨rfl, hb3⟩
                             have k0 := hb0.trans (hb3.mono hb0.size)
                             clear hb3)
                go_returns
                exact ⟨by rw [hfl.out, hst.out, hn]; rw [h2.out]; simp [h3, nm_rest, one_ne.symm], k0⟩
            · replace hre : (x.toList == [35]) = false := by rw [hre]; simpa using h2
              go_wp2_with (go_at_call 60; (with_reducible refine (hnw _).mono ?_); rintro e w3 ⟨rfl, hb3⟩
                           have k0 := hb0.trans (hb3.mono hb0.size)
                           clear hb3)
              go_returns
              exact ⟨by rw [hfl.out, hst.out, hn]; simp [h1, h2], k0⟩
      · have hf : fltL l = true := by rw [hfl, List.drop_eq_nil_of_le (by omega)]; rfl
        clear hfl hr hz
        go_wp2
        go_returns
        exact ⟨by rw [hf]; rfl, hb0⟩
  · have g8 : (8 : Int) < l.length := by omega
    have g8b : 8 < l.length := by omega
    have e : (decide (l.length ≤ 8) && fltL l) = false := by simp [h8]
    rw [e]
    clear e hz
    go_enter Tryd.func29, Tryd.ntmps29
    go_wp2_with (go_at_call 57; (with_reducible refine hlc.mono ?_); rintro e w2 ⟨o, k, rfl, hr, hb⟩)
    go_returns
    exact ⟨rfl, hb⟩
end Go.Proofs.YtjjimkmbbifbjaaDoor.TW
end
section
namespace Go.Proofs.YtjjimkmbbifbjaaDoor
open Go Go.RowKit Go.Proofs.YtjjimkmbbifbjaaDoor.TP Go.Proofs.YtjjimkmbbifbjaaDoor.TW
def topic_Right.f (s : ByteArray) : Option Bool := if s.size ≤ 900000 then some (rightB s) else none
def topic_Filter.f (s : ByteArray) : Option Bool := if s.size ≤ 900000 then some (filterB s) else none
theorem of_if {α : Type} {p : Prop} [Decidable p] {x y : α} (h : (if p then some x else none) = some y) : p ∧ x = y := by
  split at h
  · exact ⟨‹p›, Option.some.inj h⟩
  · cases h
theorem topic_Right.calls (s : ByteArray) (r : Bool) (w : World) (h : topic_Right.f s = some r) :
    Calls Tryd.prog 28 #[.string s] w fun e w' => e = .returned (.bool r) ∧ Below w.heap.size w w' := by
  obtain ⟨h1, rfl⟩ := of_if h
  exact right_walk s h1 w
theorem topic_Filter.calls (s : ByteArray) (r : Bool) (w : World) (h : topic_Filter.f s = some r) :
    Calls Tryd.prog 29 #[.string s] w fun e w' => e = .returned (.bool r) ∧ Below w.heap.size w w' := by
  obtain ⟨h1, rfl⟩ := of_if h
  exact filter_walk s h1 w
end Go.Proofs.YtjjimkmbbifbjaaDoor
end
