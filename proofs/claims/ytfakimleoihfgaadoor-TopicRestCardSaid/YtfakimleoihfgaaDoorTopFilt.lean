/-
  Chapter 03: the program's Filter and Match.
-/
import Derived.Test.YtfakimleoihfgaaDoorTopName
import Derived.Lib.Hide
namespace Go.Proofs.YtfakimleoihfgaaDoor.TW
open Go Go.RowKit Go.Proofs.YtfakimleoihfgaaDoor Go.Proofs.YtfakimleoihfgaaDoor.TP

theorem toList_beq (x y : ByteArray) : (x.toList == y.toList) = decide (x = y) := by
  rw [Bool.eq_iff_iff, beq_iff_eq, decide_eq_true_eq, Lib.toList_data, Lib.toList_data]
  exact ⟨ba_ext, fun h => by rw [h]⟩
theorem is_one (x : ByteArray) : (x.toList == [43]) = decide (x = TP.one) := by
  have := toList_beq x TP.one
  rwa [show TP.one.toList = [43] from by rw [Lib.toList_data]; rfl] at this
theorem is_rest (x : ByteArray) : (x.toList == [35]) = decide (x = TP.rest) := by
  have := toList_beq x TP.rest
  rwa [show TP.rest.toList = [35] from by rw [Lib.toList_data]; rfl] at this
theorem flt_step {l : List ByteArray} {j : Nat} (hj : j < l.length) : fltL (l.drop j) = ((nm (l[j]'hj) || decide (l[j]'hj = TP.one) || (decide (l[j]'hj = TP.rest) && decide (j + 1 = l.length))) && fltL (l.drop (j + 1))) := by
  rw [List.drop_eq_getElem_cons hj]
  have : (l.drop (j + 1)).isEmpty = decide (j + 1 = l.length) := by
    rw [Bool.eq_iff_iff, List.isEmpty_iff, decide_eq_true_eq, List.drop_eq_nil_iff]
    omega
  simp only [fltL, this]
set_option maxHeartbeats 4000000 in
theorem filter_walk (s : ByteArray) (hs : s.size ≤ 900000) (w : World) : Calls Tryd.prog 13 #[.string s] w fun e w' => e = .returned (.bool (filterB s)) ∧ Below w.heap.size w w' := by
  have hll := lv_len s
  have hlc := levels_calls s (by omega) w
  have hz : ∀ x ∈ lv s, x.size ≤ 1000000 := fun x hx => by have := lv_size hx; omega
  unfold filterB
  generalize lv s = l at *
  by_cases h8 : l.length ≤ 8
  · have g8 : ¬ (8 : Int) < l.length := by omega
    have g8b : ¬ 8 < l.length := by omega
    have e : (decide (l.length ≤ 8) && fltL l) = fltL l := by simp [h8]
    rw [e]
    clear e
    go_enter Tryd.func13, Tryd.ntmps13
    go_wp2_with (go_at_call 16; (with_reducible refine hlc.mono ?_); rintro e w2 ⟨o, k, rfl, hr, hb⟩)
    clear hlc
    go_loopw [14] (fun v14 wr => ∃ j : Nat, v14 = .int .i64 j ∧ j ≤ l.length ∧ Below w.heap.size w wr ∧ Below w2.heap.size w2 wr ∧ fltL l = fltL (l.drop j)) (fun i _ => l.length - (intOf i).toNat)
    case atStart => exact ⟨0, rfl, Nat.zero_le _, hb, Below.refl _ _, rfl⟩
    case round =>
      obtain ⟨j, rfl, hj, hb0, hb1, hfl⟩ := hrel
      by_cases hlt : j < l.length
      · obtain ⟨a, rfl, ha, _⟩ := (hr.below hb1) j hlt
        have hx := hz (l[j]'hlt) (List.getElem_mem hlt)
        have hst := flt_step hlt
        have hnw := fun w => name_walk (l[j]'hlt) hx w
        have ho := is_one (l[j]'hlt)
        have hre := is_rest (l[j]'hlt)
        generalize l[j]'hlt = x at ha hnw ho hre hst
        replace hfl := Lib.hid hfl
        replace hst := Lib.hid hst
        have bj : 0 ≤ (l.length : Int) - 1 := by omega
        clear hr hz hb
        cases hn : nm x with
        | true =>
          rw [hn] at hnw
          clear ho hre
          go_wp2_with (go_at_call 30; (with_reducible refine (hnw _).mono ?_); rintro e w3 ⟨rfl, hb3⟩
                       have k0 := hb0.trans (hb3.mono hb0.size)
                       have k1 := hb1.trans (hb3.mono hb1.size)
                       clear hb3)
          go_roundw
          case rel => exact ⟨j + 1, by go_num, by omega, k0, k1, by rw [hfl.out, hst.out, hn]; simp⟩
          case measure => simp [intOf]; omega
        | false =>
          rw [hn] at hnw
          by_cases h1 : x = TP.one
          · replace ho : (x.toList == [43]) = true := by rw [ho]; simpa using h1
            replace h1 := Lib.hid h1
            clear hre
            go_wp2_with (go_at_call 30; (with_reducible refine (hnw _).mono ?_); rintro e w3 ⟨rfl, hb3⟩
                         have k0 := hb0.trans (hb3.mono hb0.size)
                         have k1 := hb1.trans (hb3.mono hb1.size)
                         clear hb3)
            go_roundw
            case rel => exact ⟨j + 1, by go_num, by omega, k0, k1, by rw [hfl.out, hst.out, hn]; simp [h1.out]⟩
            case measure => simp [intOf]; omega
          · replace ho : (x.toList == [43]) = false := by rw [ho]; simpa using h1
            by_cases h2 : x = TP.rest
            · replace hre : (x.toList == [35]) = true := by rw [hre]; simpa using h2
              replace h2 := Lib.hid h2
              by_cases h3 : j + 1 = l.length
              · have hq : ((j : Int) == (l.length : Int) - 1) = true := by rw [beq_iff_eq]; omega
                replace h3 := Lib.hid h3
                go_wp2_with (go_at_call 30; (with_reducible refine (hnw _).mono ?_); rintro e w3 ⟨rfl, hb3⟩
                             have k0 := hb0.trans (hb3.mono hb0.size)
                             have k1 := hb1.trans (hb3.mono hb1.size)
                             clear hb3)
                go_roundw
                case rel => exact ⟨j + 1, by go_num, by omega, k0, k1, by rw [hfl.out, hst.out, hn]; simp [h2.out, h3.out]⟩
                case measure => simp [intOf]; omega
              · have hq : ((j : Int) == (l.length : Int) - 1) = false := by simp; omega
                go_wp2_with (go_at_call 30; (with_reducible refine (hnw _).mono ?_); rintro e w3 ⟨rfl, hb3⟩
                             have k0 := hb0.trans (hb3.mono hb0.size)
                             clear hb3)
                go_returns
                exact ⟨by rw [hfl.out, hst.out, hn]; rw [h2.out]; simp [h3, nm_rest, one_ne.symm], k0⟩
            · replace hre : (x.toList == [35]) = false := by rw [hre]; simpa using h2
              go_wp2_with (go_at_call 30; (with_reducible refine (hnw _).mono ?_); rintro e w3 ⟨rfl, hb3⟩
                           have k0 := hb0.trans (hb3.mono hb0.size)
                           clear hb3)
              go_returns
              exact ⟨by rw [hfl.out, hst.out, hn]; simp [h1, h2], k0⟩
      · have hf : fltL l = true := by rw [hfl, List.drop_eq_nil_of_le (by omega)]; rfl
        clear hfl hr hz
        go_wp2
        go_returns
        exact ⟨by rw [hf]; rfl, hb0⟩
  · have g8 : (8 : Int) < l.length := by omega
    have g8b : 8 < l.length := by omega
    have e : (decide (l.length ≤ 8) && fltL l) = false := by simp [h8]
    rw [e]
    clear e hz
    go_enter Tryd.func13, Tryd.ntmps13
    go_wp2_with (go_at_call 16; (with_reducible refine hlc.mono ?_); rintro e w2 ⟨o, k, rfl, hr, hb⟩)
    go_returns
    exact ⟨rfl, hb⟩
theorem pm_step {f t : List ByteArray} {j : Nat} (hj : j < f.length) (hr : f[j]'hj ≠ TP.rest) (ht : j < t.length) (hx : f[j]'hj = TP.one ∨ f[j]'hj = t[j]'ht) : pm TP.one TP.rest (f.drop j) (t.drop j) = pm TP.one TP.rest (f.drop (j + 1)) (t.drop (j + 1)) := by
  rw [List.drop_eq_getElem_cons hj, List.drop_eq_getElem_cons ht]
  conv => lhs; unfold pm
  rw [if_neg hr]
  simp only
  rw [if_neg (fun h => by rcases hx with e | e; exact h.1 e; exact h.2 e)]
theorem pm_rest {f t : List ByteArray} {j : Nat} (hj : j < f.length) (hr : f[j]'hj = TP.rest) : pm TP.one TP.rest (f.drop j) (t.drop j) = true := by
  rw [List.drop_eq_getElem_cons hj]
  unfold pm
  rw [if_pos hr]
theorem pm_short {f t : List ByteArray} {j : Nat} (hj : j < f.length) (hr : f[j]'hj ≠ TP.rest) (ht : t.length ≤ j) : pm TP.one TP.rest (f.drop j) (t.drop j) = false := by
  rw [List.drop_eq_getElem_cons hj, List.drop_eq_nil_of_le ht]
  unfold pm
  rw [if_neg hr]
theorem pm_other {f t : List ByteArray} {j : Nat} (hj : j < f.length) (hr : f[j]'hj ≠ TP.rest) (ht : j < t.length) (h1 : f[j]'hj ≠ TP.one) (h2 : f[j]'hj ≠ t[j]'ht) : pm TP.one TP.rest (f.drop j) (t.drop j) = false := by
  rw [List.drop_eq_getElem_cons hj, List.drop_eq_getElem_cons ht]
  unfold pm
  rw [if_neg hr]
  simp only
  rw [if_pos ⟨h1, h2⟩]
theorem pm_end {f t : List ByteArray} {j : Nat} (hj : f.length ≤ j) (hjt : j ≤ t.length) (hjf : j ≤ f.length) : pm TP.one TP.rest (f.drop j) (t.drop j) = decide (f.length = t.length) := by
  rw [List.drop_eq_nil_of_le hj]
  unfold pm
  rw [Bool.eq_iff_iff, List.isEmpty_iff, decide_eq_true_eq, List.drop_eq_nil_iff]
  omega
set_option maxHeartbeats 4000000 in
theorem match_walk (s t : ByteArray) (hs : s.size ≤ 900000) (ht : t.size ≤ 900000) (w : World) : Calls Tryd.prog 21 #[.string s, .string t] w fun e w' => e = .returned (.bool (matchB s t)) ∧ Below w.heap.size w w' := by
  have hf := filter_walk s hs w
  have hr := fun w => right_walk t ht w
  unfold matchB
  cases e1 : filterB s with
  | false =>
    rw [e1] at hf
    go_enter Tryd.func21, Tryd.ntmps21
    go_wp2_with (go_at_call 13; (with_reducible refine hf.mono ?_); rintro e w2 ⟨rfl, hb⟩)
    go_returns
    exact ⟨rfl, hb⟩
  | true =>
    rw [e1] at hf
    cases e2 : rightB t with
    | false =>
      rw [e2] at hr
      go_enter Tryd.func21, Tryd.ntmps21
      go_wp2_with (first
        | (go_at_call 13; (with_reducible refine hf.mono ?_); rintro e w2 ⟨rfl, hb⟩)
        | (go_at_call 11; (with_reducible refine (hr _).mono ?_); rintro e w3 ⟨rfl, hb2⟩
           have hb3 := hb.trans (hb2.mono hb.size)))
      go_returns
      exact ⟨rfl, hb3⟩
    | true =>
      rw [e2] at hr
      have hl1 := fun w => levels_calls s (by omega) w
      have hl2 := fun w => levels_calls t (by omega) w
      have hn1 := lv_len s
      have hn2 := lv_len t
      simp only [Bool.true_and]
      generalize lv s = f at *
      generalize lv t = g at *
      go_enter Tryd.func21, Tryd.ntmps21
      go_wp2_with (first
        | (go_at_call 13; (with_reducible refine hf.mono ?_); rintro e w2 ⟨rfl, hb⟩)
        | (go_at_call 11; (with_reducible refine (hr _).mono ?_); rintro e w3 ⟨rfl, hb2⟩
           have hb3 := hb.trans (hb2.mono hb.size)
           clear hb hb2)
        | (go_at_call 16; (with_reducible refine (hl1 _).mono ?_); rintro e w4 ⟨o1, k1, rfl, hr1, hb⟩
           have hb4 := hb3.trans (hb.mono hb3.size)
           clear hb hl1)
        | (go_at_call 16; (with_reducible refine (hl2 _).mono ?_); rintro e w5 ⟨o2, k2, rfl, hr2, hb⟩
           have hb5 := hb4.trans (hb.mono hb4.size)
           have hr1 := hr1.below hb
           clear hb hl2))
      clear hf hr
      go_loopw [23] (fun v23 wr => ∃ j : Nat, v23 = .int .i64 j ∧ j ≤ f.length ∧ j ≤ g.length ∧ w5 = wr ∧ pm TP.one TP.rest f g = pm TP.one TP.rest (f.drop j) (g.drop j)) (fun i _ => f.length - (intOf i).toNat)
      case atStart => exact ⟨0, rfl, Nat.zero_le _, Nat.zero_le _, rfl, rfl⟩
      case round =>
        obtain ⟨j, rfl, hj, hjg, rfl, hpm⟩ := hrel
        replace hpm := Lib.hid hpm
        by_cases hlt : j < f.length
        · obtain ⟨a, rfl, ha, _⟩ := hr1 j hlt
          have ho := is_one (f[j]'hlt)
          have hre := is_rest (f[j]'hlt)
          by_cases h1 : f[j]'hlt = TP.rest
          · have hq := Lib.hid (pm_rest (t := g) hlt h1)
            replace hre : ((f[j]'hlt).toList == [35]) = true := by rw [hre]; simpa using h1
            clear h1 ho
            generalize f[j]'hlt = x at ha hre
            clear hr1 hr2
            go_wp2
            go_returns
            exact ⟨by rw [hpm.out, hq.out]; rfl, hb5⟩
          · replace hre : ((f[j]'hlt).toList == [35]) = false := by rw [hre]; simpa using h1
            by_cases h2 : j < g.length
            · obtain ⟨b, rfl, hc, _⟩ := hr2 j h2
              have g2 : ((j : Int) == g.length) = false := by simp; omega
              have g3 : (j : Int) < g.length := by omega
              by_cases h3 : f[j]'hlt = TP.one
              · have hq := Lib.hid (pm_step hlt h1 h2 (.inl h3))
                replace ho : ((f[j]'hlt).toList == [43]) = true := by rw [ho]; simpa using h3
                clear h1 h3
                generalize f[j]'hlt = x at ha hre ho
                go_wp2
                go_roundw
                case rel => exact ⟨j + 1, by go_num, by omega, by omega, trivial, by rw [hpm.out, hq.out]⟩
                case measure => simp [intOf]; omega
              · replace ho : ((f[j]'hlt).toList == [43]) = false := by rw [ho]; simpa using h3
                by_cases h4 : f[j]'hlt = g[j]'h2
                · have hq := Lib.hid (pm_step hlt h1 h2 (.inr h4))
                  have hxy : ((f[j]'hlt).toList == (g[j]'h2).toList) = true := by rw [toList_beq]; simpa using h4
                  clear h1 h3 h4
                  generalize f[j]'hlt = x at ha hre ho hxy
                  generalize g[j]'h2 = y at hc hxy
                  go_wp2
                  go_roundw
                  case rel => exact ⟨j + 1, by go_num, by omega, by omega, trivial, by rw [hpm.out, hq.out]⟩
                  case measure => simp [intOf]; omega
                · have hq := Lib.hid (pm_other hlt h1 h2 h3 h4)
                  have hxy : ((f[j]'hlt).toList == (g[j]'h2).toList) = false := by rw [toList_beq]; simpa using h4
                  clear h1 h3 h4
                  generalize f[j]'hlt = x at ha hre ho hxy
                  generalize g[j]'h2 = y at hc hxy
                  clear hr1 hr2
                  go_wp2
                  go_returns
                  exact ⟨by rw [hpm.out, hq.out]; rfl, hb5⟩
            · have hjl : ((j : Int) == g.length) = true := by rw [beq_iff_eq]; omega
              have hq := Lib.hid (pm_short hlt h1 (by omega : g.length ≤ j))
              clear h1 ho
              generalize f[j]'hlt = x at ha hre
              clear hr1 hr2
              go_wp2
              go_returns
              exact ⟨by rw [hpm.out, hq.out]; rfl, hb5⟩
        · have hq := pm_end (f := f) (t := g) (j := j) (by omega) hjg hj
          have hfl : j = f.length := by omega
          by_cases h5 : f.length = g.length
          · have g5 : ((f.length : Int) == g.length) = true := by rw [beq_iff_eq]; omega
            replace hq := Lib.hid (hq.trans (by simpa using h5 : decide (f.length = g.length) = true))
            clear h5 hr1 hr2 hfl
            go_wp2
            go_returns
            exact ⟨by rw [hpm.out, hq.out]; rfl, hb5⟩
          · have g5 : ((f.length : Int) == g.length) = false := by simp; omega
            replace hq := Lib.hid (hq.trans (by simpa using h5 : decide (f.length = g.length) = false))
            clear h5 hr1 hr2 hfl
            go_wp2
            go_returns
            exact ⟨by rw [hpm.out, hq.out]; rfl, hb5⟩
end Go.Proofs.YtfakimleoihfgaaDoor.TW
