-- Printed by this session's changed copy of the kit's printer (wip/tools/mkprint.py; some functions are given by hand). Lean checks it.
import Derived.Test.YtfakimleoihfgaaDoorPr0
import Derived.Test.YtfakimleoihfgaaDoorPr1
namespace Go.Proofs.YtfakimleoihfgaaDoor.Pr
open Go.RowKit Go.Proofs.YtfakimleoihfgaaDoorW.PrintWords Go.Proofs.YtfakimleoihfgaaDoorW.PrintLast Go.Proofs.YtfakimleoihfgaaDoorW.PrintMore
attribute [local go_sem] max2_int min2_int max_two min_two max_three min_three max_four min_four   -- for this text's walks alone
set_option linter.unusedVariables false
set_option linter.unusedSimpArgs false

/-! ### rivuletref03_Row: function 35 -/
def rivuletref03_Row.l0 : Nat → Int → List ByteArray → Option (List ByteArray × Bool)
  | 0, _, _ => none
  | k + 1, x1, x8 => if (x8.length : Int) < x1 then (if x8.length < 8796093022208 then (rivuletref03_Row.l0 k x1 (x8 ++ [(⟨#[43]⟩ : ByteArray)])) else (none)) else (some (x8, ((x8.length : Int) == x1)))
def rivuletref03_Row.f (k : Nat) (a0 : ByteArray) (a1 : Int) : Option (List ByteArray × Bool) := (rivuletref03_Levels.f k a0).bind fun t149 => (if 0 ≤ (wrap64 ((t149.length : Int) - 1)) then (if (wrap64 ((t149.length : Int) - 1)) < (t149.length : Int) then (if (rdOf ByteArray.empty t149 (wrap64 ((t149.length : Int) - 1))).toList = ([35] : List UInt8) then ((some (([] : List ByteArray) : List ByteArray)).bind fun y153 => (if (wrap64 ((t149.length : Int) - 1)) ≤ (t149.length : Int) then ((some (t149.take ((wrap64 ((t149.length : Int) - 1)) : Int).toNat : List ByteArray)).bind fun y156 => (if y153.length + y156.length < 8796093022208 then (rivuletref03_Row.l0 k a1 (y153 ++ y156)) else (none))) else (none))) else (some (t149, ((t149.length : Int) == a1)))) else (none)) else (none))
theorem rivuletref03_Row.mono_l : ∀ k, (∀ y0 y1, LeO (rivuletref03_Row.l0 k y0 y1) (rivuletref03_Row.l0 (k + 1) y0 y1))
  | 0 => fun _ _ r h => by simp [rivuletref03_Row.l0] at h
  | k + 1 => by
    have ih0 := rivuletref03_Row.mono_l k
    · intro y0 y1
      unfold rivuletref03_Row.l0
      repeat' first
      | (with_reducible exact ih0 _ _)
      | (with_reducible exact rivuletref03_Levels.mono _ _)
      | (with_reducible exact LeO.refl _)
      | (with_reducible exact LeO.none _)
      | (with_reducible refine LeO.ite ?_ ?_)
      | (with_reducible refine LeO.bind ?_ (fun _ => ?_))
      | exact ih0 _ _
      | exact rivuletref03_Levels.mono _ _
      | exact LeO.none _
      | refine LeO.ite ?_ ?_
      | refine LeO.bind ?_ (fun _ => ?_)
theorem rivuletref03_Row.mono : ∀ a0 a1 k, LeO (rivuletref03_Row.f k a0 a1) (rivuletref03_Row.f (k + 1) a0 a1) := by
  intro a0 a1 k
  have ih0 := rivuletref03_Row.mono_l k
  unfold rivuletref03_Row.f
  repeat' first
      | (with_reducible exact ih0 _ _)
      | (with_reducible exact rivuletref03_Levels.mono _ _)
      | (with_reducible exact LeO.refl _)
      | (with_reducible exact LeO.none _)
      | (with_reducible refine LeO.ite ?_ ?_)
      | (with_reducible refine LeO.bind ?_ (fun _ => ?_))
      | exact ih0 _ _
      | exact rivuletref03_Levels.mono _ _
      | exact LeO.none _
      | refine LeO.ite ?_ ?_
      | refine LeO.bind ?_ (fun _ => ?_)
set_option maxHeartbeats 8000000 in
set_option maxRecDepth 100000 in
theorem rivuletref03_Row.calls (k : Nat) (a0 : ByteArray) (a1 : Int) (r1 : List ByteArray) (r2 : Bool) (w : World) (h : rivuletref03_Row.f k a0 a1 = some (r1, r2)) :
    Calls Tryd.prog 35 #[.string a0, .int .i64 a1] w fun e w' => ∃ v0_ : Value, e = .returned (.tuple #[v0_, .bool r2]) ∧ Kd.R Kd.string 9 w' w.heap.size (fun _ => True) v0_ r1 ∧ Below w.heap.size w w' := by
  have HB := Aside0.mk (Below.refl w.heap.size w)
  have H : ((rivuletref03_Levels.f k a0).bind fun t149 => (if 0 ≤ (wrap64 ((t149.length : Int) - 1)) then (if (wrap64 ((t149.length : Int) - 1)) < (t149.length : Int) then (if (rdOf ByteArray.empty t149 (wrap64 ((t149.length : Int) - 1))).toList = ([35] : List UInt8) then ((some (([] : List ByteArray) : List ByteArray)).bind fun y153 => (if (wrap64 ((t149.length : Int) - 1)) ≤ (t149.length : Int) then ((some (t149.take ((wrap64 ((t149.length : Int) - 1)) : Int).toNat : List ByteArray)).bind fun y156 => (if y153.length + y156.length < 8796093022208 then (rivuletref03_Row.l0 k a1 (y153 ++ y156)) else (none))) else (none))) else (some (t149, ((t149.length : Int) == a1)))) else (none)) else (none))) = some (r1, r2) := h
  clear h
  replace H := Option.bind_eq_some_iff.mp H
  obtain ⟨t149, A30, H⟩ := H
  replace H : (if 0 ≤ (wrap64 ((t149.length : Int) - 1)) then (if (wrap64 ((t149.length : Int) - 1)) < (t149.length : Int) then (if (rdOf ByteArray.empty t149 (wrap64 ((t149.length : Int) - 1))).toList = ([35] : List UInt8) then ((some (([] : List ByteArray) : List ByteArray)).bind fun y153 => (if (wrap64 ((t149.length : Int) - 1)) ≤ (t149.length : Int) then ((some (t149.take ((wrap64 ((t149.length : Int) - 1)) : Int).toNat : List ByteArray)).bind fun y156 => (if y153.length + y156.length < 8796093022208 then (rivuletref03_Row.l0 k a1 (y153 ++ y156)) else (none))) else (none))) else (some (t149, ((t149.length : Int) == a1)))) else (none)) else (none)) = some (r1, r2) := H
  have A3 := Aside0.mk A30
  clear A30
  obtain ⟨ji4, hji4⟩ : ∃ j_ : Int, (wrap64 ((t149.length : Int) - 1)) = j_ := ⟨_, rfl⟩
  replace H : (if 0 ≤ (ji4) then (if (ji4) < (t149.length : Int) then (if (rdOf ByteArray.empty t149 (ji4)).toList = ([35] : List UInt8) then ((some (([] : List ByteArray) : List ByteArray)).bind fun y153 => (if (ji4) ≤ (t149.length : Int) then ((some (t149.take ((ji4) : Int).toNat : List ByteArray)).bind fun y156 => (if y153.length + y156.length < 8796093022208 then (rivuletref03_Row.l0 k a1 (y153 ++ y156)) else (none))) else (none))) else (some (t149, ((t149.length : Int) == a1)))) else (none)) else (none)) = some (r1, r2) := by first | (rw [hji4] at H; exact H) | (simp only [hji4] at H ⊢; exact H)
  (try rw [hji4] at A3)
  have hji4w : (IntKind.i64.wrap ((t149.length : Int) - 1)) = ji4 := (i64_w _).trans hji4
  by_cases c5 : 0 ≤ (ji4)
  · rw [if_pos c5] at H
    have c5b0 : decide (0 ≤ (ji4)) = true := decide_eq_true c5
    clear c5
    by_cases c6 : (ji4) < (t149.length : Int)
    · rw [if_pos c6] at H
      have c6b0 : decide ((ji4) < (t149.length : Int)) = true := decide_eq_true c6
      clear c6
      by_cases c7 : (rdOf ByteArray.empty t149 (ji4)).toList = ([35] : List UInt8)
      · rw [if_pos c7] at H
        have c7b0 : ((rdOf ByteArray.empty t149 (ji4)).toList == ([35] : List UInt8)) = true := beq_iff_eq.mpr c7
        have c7b1 : ((rdOf ByteArray.empty t149 (ji4)).toList != ([35] : List UInt8)) = false := bne_eq_false_iff_eq.mpr c7
        clear c7
        obtain ⟨y153, hy153⟩ : ∃ y_ : List ByteArray, y_ = (([] : List ByteArray)) := ⟨_, rfl⟩
        replace H : (if (ji4) ≤ (t149.length : Int) then ((some (t149.take ((ji4) : Int).toNat : List ByteArray)).bind fun y156 => (if y153.length + y156.length < 8796093022208 then (rivuletref03_Row.l0 k a1 (y153 ++ y156)) else (none))) else (none)) = some (r1, r2) := by first | (rw [hy153]; with_reducible exact H) | (have H2_ := (Option.bind_some _ _).symm.trans H; rw [hy153]; with_reducible exact H2_) | (have H2_ := (Option.bind_some _ _).symm.trans H; with_reducible exact H2_) | with_reducible exact H | (rw [hy153]; exact H) | exact H
        have Ny153 := Aside0.mk hy153
        clear hy153
        have c8b0 := eq_true (of_decide_eq_true (by first | (with_reducible assumption) | assumption) : 0 ≤ (ji4))
        by_cases c9 : (ji4) ≤ (t149.length : Int)
        · rw [if_pos c9] at H
          have c9b0 := eq_true c9
          have c9b1 : decide ((ji4) ≤ (t149.length : Int)) = true := decide_eq_true c9
          clear c9
          obtain ⟨y156, hy156⟩ : ∃ y_ : List ByteArray, y_ = (t149.take ((ji4) : Int).toNat) := ⟨_, rfl⟩
          replace H : (if y153.length + y156.length < 8796093022208 then (rivuletref03_Row.l0 k a1 (y153 ++ y156)) else (none)) = some (r1, r2) := by first | (rw [hy156]; with_reducible exact H) | (have H2_ := (Option.bind_some _ _).symm.trans H; rw [hy156]; with_reducible exact H2_) | (have H2_ := (Option.bind_some _ _).symm.trans H; with_reducible exact H2_) | with_reducible exact H | (rw [hy156]; exact H) | exact H
          have Ny156 := Aside0.mk hy156
          clear hy156
          by_cases c10 : y153.length + y156.length < 8796093022208
          · rw [if_pos c10] at H
            have LMc10 := Aside0.mk c10
            clear c10
            obtain ⟨y160, hy160⟩ : ∃ y_ : List ByteArray, y_ = (y153 ++ y156) := ⟨_, rfl⟩
            replace H : (rivuletref03_Row.l0 k a1 y160) = some (r1, r2) := by first | (rw [hy160]; with_reducible exact H) | (have H2_ := (Option.bind_some _ _).symm.trans H; rw [hy160]; with_reducible exact H2_) | (have H2_ := (Option.bind_some _ _).symm.trans H; with_reducible exact H2_) | with_reducible exact H | (rw [hy160]; exact H) | exact H
            have Ny160 := Aside0.mk hy160
            clear hy160
            have H' := Aside0.mk H
            clear H
            go_enter Tryd.func35, Tryd.ntmps35
            go_wp2_with (first | ((with_reducible refine gate_callee (f := 17) rfl ?_); refine goesL_ (some 10) rfl rfl Tryd.func17 (by kernel_rfl) rfl #[.string a0] rfl (by (try simp only [List.map_toArray, List.map_cons, List.map_nil]); first | done | rfl | (simp only [List.length_drop, List.length_take]; rfl)) ?_; (with_reducible refine (rivuletref03_Levels.calls k a0 t149 _ A3.out).mono ?_); rintro e w11 ⟨v150, rfl, ho0, hb⟩; refine ⟨_, rfl, ?_⟩; have n0_ := Aside0.mk (Kd.R_lower ho0 (below_size (by repeat (first | (with_reducible first | exact HB.out | apply below_alloc | apply pw_below_drewN | apply below_drew1) | exact HB.out)))); have n1_ := Aside0.mk (below_step (by repeat (first | (with_reducible first | exact HB.out | apply below_alloc | apply pw_below_drewN | apply below_drew1) | exact HB.out)) hb); clear HB; have HO151 := n0_; have HB := n1_; clear n0_ n1_; (try clear hb); (try clear hb2); (try clear hk); (try clear hi); (try clear ho0); obtain ⟨Ao12, co12, eo12⟩ := Kd.R_slice HO151.out; subst eo12; have p152 : 0 ≤ ((ji4) : Int) := of_decide_eq_true (by first | (with_reducible assumption) | assumption); have q152 : (ji4) < (t149.length : Int) := of_decide_eq_true (by first | (with_reducible assumption) | assumption); obtain ⟨ad152, e152, hx152_0⟩ := Kd.at_string (Kd.R_reads' HO151.out).2.2 (ji4) p152 q152; cases e152; replace p152 := eq_true p152; replace q152 := eq_true q152) | ((with_reducible refine gate_dst (N := 23) rfl ?_); refine Kd.R_lit Kd.string _ 9 ?hg (N := 23) ?hd (xs := ([] : List ByteArray)) (inner := []) (ok := fun _ => True) (okp := fun _ => True) ?hr ?hp (fun _ hk => hk) trivial (Below.refl _ _) (Nat.le_refl _) (by simp) ?_; (case hd => rfl); (case hg => rfl); (case hr => first | (go_simp; done) | (go_simp; rfl)); (case hp => exact (Reps.none _ _)); intro v154 w13 ho14 hb hg_ hnew_; clear hg_ hnew_; (first | rw [← Ny153.out] at ho14 | (simp only [Int.reduceToNat] at ho14; rw [← Ny153.out] at ho14)); have n0_ := Aside0.mk (Kd.R_elder' (by (with_reducible repeat (first | apply Kd.R_alloc | apply Kd.R_drewN | apply Kd.R_drew)); exact HO151.out) (Kd.R_base ho14) hb); have n1_ := Aside0.mk (Kd.R_lower (Kd.R_new' ho14 (Kd.R_lt (by (with_reducible repeat (first | apply Kd.R_alloc | apply Kd.R_drewN | apply Kd.R_drew)); exact HO151.out))) (below_size (by repeat (first | (with_reducible first | exact HB.out | apply below_alloc | apply pw_below_drewN | apply below_drew1) | exact HB.out)))); have n2_ := Aside0.mk (below_step (by repeat (first | (with_reducible first | exact HB.out | apply below_alloc | apply pw_below_drewN | apply below_drew1) | exact HB.out)) hb); clear HO151; clear HB; have HO151 := n0_; have HO155 := n1_; have HB := n2_; clear n0_ n1_ n2_; clear hb ho14; have q15 : ((ji4) : Int) ≤ ((t149.length : Int) : Int) := of_decide_eq_true (by first | (with_reducible assumption) | assumption); obtain ⟨i015, hi015, _, hsz15, _⟩ := info_parts info9; have hroom15 : t149.length ≤ co12 := (Kd.R_reads' HO151.out).2.1; have hC15 : Kd.C Kd.string _ (some ad152) t149.length t149 := (Kd.R_reads' HO151.out).2.2; have hcut15 := cut_to (P := Tryd.prog) 24 9 .i64 Tryd.underlying24 hi015 (some ad152) t149.length co12 (ji4) (of_decide_eq_true (by first | (with_reducible assumption) | assumption)) q15 hroom15; have hr15 := Kd.C_take (m := ((ji4) : Int).toNat) hC15 (by omega); have hy15 : y156.length = ((ji4) : Int).toNat := (by rw [Ny156.out, List.length_take]; omega); rw [← Ny156.out] at hr15; rw [← hy15] at hcut15; have HR159 := Aside0.mk hr15; have HC159 := Aside0.mk (show y156.length ≤ co12 from by omega); clear hr15 hC15 hroom15 hi015 hsz15; have KY15 := Aside0.mk hy15; clear hy15; have KL15 := Aside0.mk (show ((ji4) : Int).toNat ≤ t149.length from by omega); replace q15 := eq_true q15) | ((with_reducible refine gate_builtin (b := .append) (xs := #[.tmp 23, .tmp 27]) rfl ?_); at_builtin; refine Kd.R_append_rows Kd.string (w0 := w) w.heap.size rfl (.tmp 23) (.tmp 27) 24 9 (.string ⟨#[]⟩) 16 rfl Tryd.underlying24 info9 rfl (by decide) (by omega) v154 y153 y156 _ _ _ (fun k_ => some k_ ≠ (.slice (some ad152) t149.length co12 : Value).ownBlock) (fun _ => False) rfl rfl ?aO ?aR (fun _ _ h => h) (fun _ h => h.elim) ?aF ?aB ?aS ?aL ?_; (case aR => repeat (first | exact (by repeat (first | (with_reducible exact HR159.out) | (with_reducible refine Kd.C_alloc ?_ _) | (with_reducible refine Kd.C_drewN ?_ _) | (with_reducible refine Kd.C_drew ?_) | exact HR159.out)) | (with_reducible refine Kd.C_alloc ?_ _) | (with_reducible refine Kd.C_drewN ?_ _) | (with_reducible refine Kd.C_drew ?_))); (case aB => exact (by repeat (first | (with_reducible first | exact HB.out | apply below_alloc | apply pw_below_drewN | apply below_drew1) | exact HB.out))); (case aF => exact (fun k_ hk => Kd.fresh' (Kd.R_lt (by (with_reducible repeat (first | apply Kd.R_alloc | apply Kd.R_drewN | apply Kd.R_drew)); exact HO151.out)) k_ hk)); (case aO => exact (by (with_reducible repeat (first | apply Kd.R_alloc | apply Kd.R_drewN | apply Kd.R_drew)); exact Kd.R_mono HO155.out (fun _ hk => hk.2))); (case aS => exact (below_size (by repeat (first | (with_reducible first | exact HB.out | apply below_alloc | apply pw_below_drewN | apply below_drew1) | exact HB.out)))); (case aL => have := LMc10.out; omega); intro v161 w16 ho hb hg hat; rw [← Ny160.out] at ho; have n0_ := Aside0.mk (Kd.R_after (ok := (fun _ => True)) (by (with_reducible repeat (first | apply Kd.R_alloc | apply Kd.R_drewN | apply Kd.R_drew)); exact HO151.out) hg hat); have n1_ := Aside0.mk (hb); have n2_ := Aside0.mk ((show Kd.C Kd.string w16 (some ad152) y156.length y156 from by rw [Ny156.out]; exact Kd.C_take (m := ((ji4) : Int).toNat) ((Kd.R_reads' (Kd.R_after (ok := (fun _ => True)) (by (with_reducible repeat (first | apply Kd.R_alloc | apply Kd.R_drewN | apply Kd.R_drew)); exact HO151.out) hg hat)).2.2) KL15.out)); have n3_ := Aside0.mk (ho); clear HO151; clear HB; clear HR159; clear HO155; have HO151 := n0_; have HB := n1_; have HR159 := n2_; have HO162 := n3_; clear n0_ n1_ n2_ n3_; clear ho hb hg hat))
            go_loopg [8] k (fun kq v8 w' => ∃ (x8_1 : List ByteArray), Aside0 (rivuletref03_Row.l0 kq a1 x8_1 = some (r1, r2)) ∧ Aside0 (kq ≤ k) ∧ Aside0 (Kd.R Kd.string 9 w' w.heap.size (fun _ => True) v8 x8_1) ∧ Aside0 (Below w.heap.size w w'))
            case atStart => exact ⟨(y160), H', ⟨Nat.le_refl _⟩, ⟨by (with_reducible repeat (first | apply Kd.R_alloc | apply Kd.R_drewN | apply Kd.R_drew)); exact Kd.R_mono HO162.out (fun _ hk => trivial)⟩, ⟨by repeat (first | (with_reducible first | exact HB.out | apply below_alloc | apply pw_below_drewN | apply below_drew1) | exact HB.out)⟩⟩
            case round =>
              clear H'
              try clear c1
              try clear p1
              try clear q1
              try clear hx1
              try clear p2
              try clear c3
              try clear c5
              try clear c5b0
              try clear c6
              try clear c6b0
              try clear p6
              try clear c7
              try clear c7b0
              try clear c7b1
              try clear c8
              try clear c8b0
              try clear c9
              try clear c9b0
              try clear c9b1
              try clear c10
              try clear p15
              try clear q15
              try clear hx15
              try clear hx152_0
              try clear p152
              try clear q15
              try clear q152
              obtain ⟨x8_1, HA, HK1, HO_8, HB⟩ := hrel
              cases gk with
              | zero => exact absurd HA.out (by simp [rivuletref03_Row.l0])
              | succ k1 =>
                have H := HA.out
                clear HA
                simp only [rivuletref03_Row.l0] at H
                by_cases c17 : (x8_1.length : Int) < a1
                · rw [if_pos c17] at H
                  have c17b0 : decide ((x8_1.length : Int) < a1) = true := decide_eq_true c17
                  clear c17
                  by_cases c18 : x8_1.length < 8796093022208
                  · rw [if_pos c18] at H
                    have LMc18 := Aside0.mk c18
                    clear c18
                    obtain ⟨y163, hy163⟩ : ∃ y_ : List ByteArray, y_ = (x8_1 ++ [(⟨#[43]⟩ : ByteArray)]) := ⟨_, rfl⟩
                    replace H : (rivuletref03_Row.l0 k1 a1 y163) = some (r1, r2) := by first | (rw [hy163]; with_reducible exact H) | (have H2_ := (Option.bind_some _ _).symm.trans H; rw [hy163]; with_reducible exact H2_) | (have H2_ := (Option.bind_some _ _).symm.trans H; with_reducible exact H2_) | with_reducible exact H | (rw [hy163]; exact H) | exact H
                    have Ny163 := Aside0.mk hy163
                    clear hy163
                    have H' := Aside0.mk H
                    clear H
                    obtain ⟨Ao19, co19, eo19⟩ := Kd.R_slice HO_8.out
                    subst eo19
                    go_wp2_with (first | ((with_reducible refine gate_builtin (b := .append) (xs := #[.tmp 33, .tmp 34]) rfl ?_); at_builtin; refine Kd.R_append Kd.string (w0 := w) w.heap.size rfl (.tmp 33) (.tmp 34) 24 9 (.string ⟨#[]⟩) 16 rfl Tryd.underlying24 info9 rfl (by decide) (by omega) (.slice Ao19 x8_1.length co19) x8_1 (⟨#[43]⟩ : ByteArray) [.string (⟨#[43]⟩ : ByteArray)] (fun _ => True) (fun _ => False) rfl rfl ?aP (fun _ hk => hk.elim) ?aF ?aO ?aB ?aS ?aL ?_; (case aP => exact rfl); (case aB => exact (by repeat (first | (with_reducible first | exact HB.out | apply below_alloc | apply pw_below_drewN | apply below_drew1) | exact HB.out))); (case aF => exact (fun _ _ => trivial)); (case aO => exact (by (with_reducible repeat (first | apply Kd.R_alloc | apply Kd.R_drewN | apply Kd.R_drew)); exact HO_8.out)); (case aS => exact (below_size (by repeat (first | (with_reducible first | exact HB.out | apply below_alloc | apply pw_below_drewN | apply below_drew1) | exact HB.out)))); (case aL => have := LMc18.out; omega); intro v164 w20 ho hb hg hat; rw [← Ny163.out] at ho; have n0_ := Aside0.mk (hb); have n1_ := Aside0.mk (ho); clear HB; clear HO_8; have HB := n0_; have HO165 := n1_; clear n0_ n1_; clear ho hb hg hat))
                    go_roundg k1
                    case measure => have := HK1.out; omega
                    case rel => exact ⟨(y163), H', ⟨by have := HK1.out; omega⟩, ⟨by (with_reducible repeat (first | apply Kd.R_alloc | apply Kd.R_drewN | apply Kd.R_drew)); exact HO165.out⟩, ⟨by repeat (first | (with_reducible first | exact HB.out | apply below_alloc | apply pw_below_drewN | apply below_drew1) | exact HB.out)⟩⟩
                  · rw [if_neg c18] at H
                    exact absurd H (by simp)
                · rw [if_neg c17] at H
                  have c17b0 : decide ((x8_1.length : Int) < a1) = false := decide_eq_false c17
                  clear c17
                  simp only [Option.some.injEq, Prod.mk.injEq] at H
                  obtain ⟨rfl, rfl⟩ := H
                  obtain ⟨Ao21, co21, eo21⟩ := Kd.R_slice HO_8.out
                  subst eo21
                  go_wp2
                  go_ret2
                  exact ⟨_, by first | rfl | (simp [errW_none, errW_some] <;> rfl) | (simp only [← hji4]; first | rfl | (simp [errW_none, errW_some] <;> rfl)) | (simp [*, errW_none, errW_some] <;> rfl), by (with_reducible repeat (first | apply Kd.R_alloc | apply Kd.R_drewN | apply Kd.R_drew)); exact HO_8.out, by repeat (first | (with_reducible first | exact HB.out | apply below_alloc | apply pw_below_drewN | apply below_drew1) | exact HB.out)⟩
          · rw [if_neg c10] at H
            exact absurd H (by simp)
        · rw [if_neg c9] at H
          exact absurd H (by simp)
      · rw [if_neg c7] at H
        have c7b0 : ((rdOf ByteArray.empty t149 (ji4)).toList == ([35] : List UInt8)) = false := beq_eq_false_iff_ne.mpr c7
        have c7b1 : ((rdOf ByteArray.empty t149 (ji4)).toList != ([35] : List UInt8)) = true := bne_iff_ne.mpr c7
        simp only [Option.some.injEq, Prod.mk.injEq] at H
        obtain ⟨rfl, rfl⟩ := H
        go_enter Tryd.func35, Tryd.ntmps35
        go_wp2_with (first | ((with_reducible refine gate_callee (f := 17) rfl ?_); refine goesL_ (some 10) rfl rfl Tryd.func17 (by kernel_rfl) rfl #[.string a0] rfl (by (try simp only [List.map_toArray, List.map_cons, List.map_nil]); first | done | rfl | (simp only [List.length_drop, List.length_take]; rfl)) ?_; (with_reducible refine (rivuletref03_Levels.calls k a0 t149 _ A3.out).mono ?_); rintro e w22 ⟨v150, rfl, ho0, hb⟩; refine ⟨_, rfl, ?_⟩; have n0_ := Aside0.mk (Kd.R_lower ho0 (below_size (by repeat (first | (with_reducible first | exact HB.out | apply below_alloc | apply pw_below_drewN | apply below_drew1) | exact HB.out)))); have n1_ := Aside0.mk (below_step (by repeat (first | (with_reducible first | exact HB.out | apply below_alloc | apply pw_below_drewN | apply below_drew1) | exact HB.out)) hb); clear HB; have HO151 := n0_; have HB := n1_; clear n0_ n1_; (try clear hb); (try clear hb2); (try clear hk); (try clear hi); (try clear ho0); obtain ⟨Ao23, co23, eo23⟩ := Kd.R_slice HO151.out; subst eo23; have p152 : 0 ≤ ((ji4) : Int) := of_decide_eq_true (by first | (with_reducible assumption) | assumption); have q152 : (ji4) < (t149.length : Int) := of_decide_eq_true (by first | (with_reducible assumption) | assumption); obtain ⟨ad152, e152, hx152_0⟩ := Kd.at_string (Kd.R_reads' HO151.out).2.2 (ji4) p152 q152; cases e152; replace p152 := eq_true p152; replace q152 := eq_true q152))
        go_ret2
        exact ⟨_, by first | rfl | (simp [errW_none, errW_some] <;> rfl) | (simp only [← hji4]; first | rfl | (simp [errW_none, errW_some] <;> rfl)) | (simp [*, errW_none, errW_some] <;> rfl), by (with_reducible repeat (first | apply Kd.R_alloc | apply Kd.R_drewN | apply Kd.R_drew)); exact HO151.out, by repeat (first | (with_reducible first | exact HB.out | apply below_alloc | apply pw_below_drewN | apply below_drew1) | exact HB.out)⟩
    · rw [if_neg c6] at H
      exact absurd H (by simp)
  · rw [if_neg c5] at H
    exact absurd H (by simp)

/-! ### rivuletref03_Match: function 22 -/
mutual
def rivuletref03_Match.j0 : Nat → ByteArray → ByteArray → Bool → Option (Bool)
  | 0, _, _, _ => none
  | k + 1, x0, x1, x16 => if x16 = true then (some false) else ((rivuletref03_Levels.f k x1).bind fun t168 => ((rivuletref03_Row.f k x0 (t168.length : Int)).bind fun bt171 => (rivuletref03_Match.l0 k t168 bt171.1 bt171.2 0)))
def rivuletref03_Match.l0 : Nat → List ByteArray → List ByteArray → Bool → Int → Option (Bool)
  | 0, _, _, _, _ => none
  | k + 1, x5, x6, x7, x8 => if x8 < (x5.length : Int) then (if x7 = true then (if 0 ≤ x8 then (if x8 < (x6.length : Int) then (if (rdOf ByteArray.empty x6 x8).toList = ([43] : List UInt8) then (rivuletref03_Match.l0 k x5 x6 true (wrap64 (x8 + 1))) else (rivuletref03_Match.l0 k x5 x6 ((rdOf ByteArray.empty x6 x8).toList == (rdOf ByteArray.empty x5 x8).toList) (wrap64 (x8 + 1)))) else (none)) else (none)) else (some x7)) else (some x7)
end
def rivuletref03_Match.f (k : Nat) (a0 : ByteArray) (a1 : ByteArray) : Option (Bool) := (rivuletref03_Filter.f k a0).bind fun t166 => (if t166 = true then ((rivuletref03_Right.f k a1).bind fun t167 => (rivuletref03_Match.j0 k a0 a1 (!t167))) else (rivuletref03_Match.j0 k a0 a1 true))
theorem rivuletref03_Match.mono_l : ∀ k, (∀ y0 y1 y2, LeO (rivuletref03_Match.j0 k y0 y1 y2) (rivuletref03_Match.j0 (k + 1) y0 y1 y2)) ∧ (∀ y0 y1 y2 y3, LeO (rivuletref03_Match.l0 k y0 y1 y2 y3) (rivuletref03_Match.l0 (k + 1) y0 y1 y2 y3))
  | 0 => ⟨fun _ _ _ r h => by simp [rivuletref03_Match.j0] at h, fun _ _ _ _ r h => by simp [rivuletref03_Match.l0] at h⟩
  | k + 1 => by
    obtain ⟨ih0, ih1⟩ := rivuletref03_Match.mono_l k
    refine ⟨?_, ?_⟩
    · intro y0 y1 y2
      unfold rivuletref03_Match.j0
      repeat' first
      | (with_reducible exact ih0 _ _ _)
      | (with_reducible exact ih1 _ _ _ _)
      | (with_reducible exact rivuletref03_Filter.mono _ _)
      | (with_reducible exact rivuletref03_Levels.mono _ _)
      | (with_reducible exact rivuletref03_Right.mono _ _)
      | (with_reducible exact rivuletref03_Row.mono _ _ _)
      | (with_reducible exact LeO.refl _)
      | (with_reducible exact LeO.none _)
      | (with_reducible refine LeO.ite ?_ ?_)
      | (with_reducible refine LeO.bind ?_ (fun _ => ?_))
      | exact ih0 _ _ _
      | exact ih1 _ _ _ _
      | exact rivuletref03_Filter.mono _ _
      | exact rivuletref03_Levels.mono _ _
      | exact rivuletref03_Right.mono _ _
      | exact rivuletref03_Row.mono _ _ _
      | exact LeO.none _
      | refine LeO.ite ?_ ?_
      | refine LeO.bind ?_ (fun _ => ?_)
    · intro y0 y1 y2 y3
      unfold rivuletref03_Match.l0
      repeat' first
      | (with_reducible exact ih0 _ _ _)
      | (with_reducible exact ih1 _ _ _ _)
      | (with_reducible exact rivuletref03_Filter.mono _ _)
      | (with_reducible exact rivuletref03_Levels.mono _ _)
      | (with_reducible exact rivuletref03_Right.mono _ _)
      | (with_reducible exact rivuletref03_Row.mono _ _ _)
      | (with_reducible exact LeO.refl _)
      | (with_reducible exact LeO.none _)
      | (with_reducible refine LeO.ite ?_ ?_)
      | (with_reducible refine LeO.bind ?_ (fun _ => ?_))
      | exact ih0 _ _ _
      | exact ih1 _ _ _ _
      | exact rivuletref03_Filter.mono _ _
      | exact rivuletref03_Levels.mono _ _
      | exact rivuletref03_Right.mono _ _
      | exact rivuletref03_Row.mono _ _ _
      | exact LeO.none _
      | refine LeO.ite ?_ ?_
      | refine LeO.bind ?_ (fun _ => ?_)
theorem rivuletref03_Match.mono : ∀ a0 a1 k, LeO (rivuletref03_Match.f k a0 a1) (rivuletref03_Match.f (k + 1) a0 a1) := by
  intro a0 a1 k
  obtain ⟨ih0, ih1⟩ := rivuletref03_Match.mono_l k
  unfold rivuletref03_Match.f
  repeat' first
      | (with_reducible exact ih0 _ _ _)
      | (with_reducible exact ih1 _ _ _ _)
      | (with_reducible exact rivuletref03_Filter.mono _ _)
      | (with_reducible exact rivuletref03_Levels.mono _ _)
      | (with_reducible exact rivuletref03_Right.mono _ _)
      | (with_reducible exact rivuletref03_Row.mono _ _ _)
      | (with_reducible exact LeO.refl _)
      | (with_reducible exact LeO.none _)
      | (with_reducible refine LeO.ite ?_ ?_)
      | (with_reducible refine LeO.bind ?_ (fun _ => ?_))
      | exact ih0 _ _ _
      | exact ih1 _ _ _ _
      | exact rivuletref03_Filter.mono _ _
      | exact rivuletref03_Levels.mono _ _
      | exact rivuletref03_Right.mono _ _
      | exact rivuletref03_Row.mono _ _ _
      | exact LeO.none _
      | refine LeO.ite ?_ ?_
      | refine LeO.bind ?_ (fun _ => ?_)
set_option maxHeartbeats 8000000 in
set_option maxRecDepth 100000 in
theorem rivuletref03_Match.calls (k : Nat) (a0 : ByteArray) (a1 : ByteArray) (r : Bool) (w : World) (h : rivuletref03_Match.f k a0 a1 = some r) :
    Calls Tryd.prog 22 #[.string a0, .string a1] w fun e w' => e = .returned (.bool r) ∧ Below w.heap.size w w' := by
  have HB := Aside0.mk (Below.refl w.heap.size w)
  have H : ((rivuletref03_Filter.f k a0).bind fun t166 => (if t166 = true then ((rivuletref03_Right.f k a1).bind fun t167 => (rivuletref03_Match.j0 k a0 a1 (!t167))) else (rivuletref03_Match.j0 k a0 a1 true))) = some r := h
  clear h
  have HC3 := Aside0.mk H
  clear H
  go_enter Tryd.func22, Tryd.ntmps22
  go_upto_region 1 with (fail)
  repeat (go_quiet (fail); go_upto_region 1 with (fail))
  go_cut [16] (fun v16 wc => ∃ (kq : Nat) (x16_2 : Bool), v16 = .bool x16_2 ∧ Aside0 (rivuletref03_Match.j0 kq a0 a1 x16_2 = some r) ∧ Aside0 (kq ≤ k) ∧ Aside0 (Below w.heap.size w wc))
  case first =>
    have H := HC3.out
    clear HC3
    replace H := Option.bind_eq_some_iff.mp H
    obtain ⟨t166, A40, H⟩ := H
    replace H : (if t166 = true then ((rivuletref03_Right.f k a1).bind fun t167 => (rivuletref03_Match.j0 k a0 a1 (!t167))) else (rivuletref03_Match.j0 k a0 a1 true)) = some r := H
    have A4 := Aside0.mk A40
    clear A40
    by_cases c5 : t166 = true
    · subst c5
      have H1 : ((rivuletref03_Right.f k a1).bind fun t167 => (rivuletref03_Match.j0 k a0 a1 (!t167))) = some r := by rw [if_pos rfl] at H; exact H
      clear H
      have H := H1
      clear H1
      replace H := Option.bind_eq_some_iff.mp H
      obtain ⟨t167, A60, H⟩ := H
      replace H : (rivuletref03_Match.j0 k a0 a1 (!t167)) = some r := H
      have A6 := Aside0.mk A60
      clear A60
      have H' := Aside0.mk H
      clear H
      go_wp2_with (first | (go_at_call 14; (with_reducible refine (rivuletref03_Filter.calls k a0 true _ A4.out).mono ?_); rintro e w7 ⟨rfl, hb⟩; have n0_ := Aside0.mk (below_step (by repeat (first | (with_reducible first | exact HB.out | apply below_alloc | apply pw_below_drewN | apply below_drew1) | exact HB.out)) hb); clear HB; have HB := n0_; clear n0_; (try clear hb); (try clear hb2); (try clear hk); (try clear hi)) | (go_at_call 12; (with_reducible refine (rivuletref03_Right.calls k a1 t167 _ A6.out).mono ?_); rintro e w8 ⟨rfl, hb⟩; have n0_ := Aside0.mk (below_step (by repeat (first | (with_reducible first | exact HB.out | apply below_alloc | apply pw_below_drewN | apply below_drew1) | exact HB.out)) hb); clear HB; have HB := n0_; clear n0_; (try clear hb); (try clear hb2); (try clear hk); (try clear hi)))
      repeat (go_quiet (first | (go_at_call 14; (with_reducible refine (rivuletref03_Filter.calls k a0 true _ A4.out).mono ?_); rintro e w7 ⟨rfl, hb⟩; have n0_ := Aside0.mk (below_step (by repeat (first | (with_reducible first | exact HB.out | apply below_alloc | apply pw_below_drewN | apply below_drew1) | exact HB.out)) hb); clear HB; have HB := n0_; clear n0_; (try clear hb); (try clear hb2); (try clear hk); (try clear hi)) | (go_at_call 12; (with_reducible refine (rivuletref03_Right.calls k a1 t167 _ A6.out).mono ?_); rintro e w8 ⟨rfl, hb⟩; have n0_ := Aside0.mk (below_step (by repeat (first | (with_reducible first | exact HB.out | apply below_alloc | apply pw_below_drewN | apply below_drew1) | exact HB.out)) hb); clear HB; have HB := n0_; clear n0_; (try clear hb); (try clear hb2); (try clear hk); (try clear hi))); try go_wp2_with (first | (go_at_call 14; (with_reducible refine (rivuletref03_Filter.calls k a0 true _ A4.out).mono ?_); rintro e w7 ⟨rfl, hb⟩; have n0_ := Aside0.mk (below_step (by repeat (first | (with_reducible first | exact HB.out | apply below_alloc | apply pw_below_drewN | apply below_drew1) | exact HB.out)) hb); clear HB; have HB := n0_; clear n0_; (try clear hb); (try clear hb2); (try clear hk); (try clear hi)) | (go_at_call 12; (with_reducible refine (rivuletref03_Right.calls k a1 t167 _ A6.out).mono ?_); rintro e w8 ⟨rfl, hb⟩; have n0_ := Aside0.mk (below_step (by repeat (first | (with_reducible first | exact HB.out | apply below_alloc | apply pw_below_drewN | apply below_drew1) | exact HB.out)) hb); clear HB; have HB := n0_; clear n0_; (try clear hb); (try clear hb2); (try clear hk); (try clear hi))))
      go_meet
      case rel => exact ⟨_, (!t167), (by first | rfl | (simp; done) | (simp [*]; done)), H', ⟨by first | omega | exact Nat.le_refl _⟩, ⟨by repeat (first | (with_reducible first | exact HB.out | apply below_alloc | apply pw_below_drewN | apply below_drew1) | exact HB.out)⟩⟩
    · replace c5 := Bool.eq_false_iff.mpr c5
      subst c5
      have H1 : (rivuletref03_Match.j0 k a0 a1 true) = some r := by rw [if_neg (show ¬ (false = true) by decide)] at H; exact H
      clear H
      have H := H1
      clear H1
      have H' := Aside0.mk H
      clear H
      go_wp2_with (first | (go_at_call 14; (with_reducible refine (rivuletref03_Filter.calls k a0 false _ A4.out).mono ?_); rintro e w9 ⟨rfl, hb⟩; have n0_ := Aside0.mk (below_step (by repeat (first | (with_reducible first | exact HB.out | apply below_alloc | apply pw_below_drewN | apply below_drew1) | exact HB.out)) hb); clear HB; have HB := n0_; clear n0_; (try clear hb); (try clear hb2); (try clear hk); (try clear hi)))
      repeat (go_quiet (first | (go_at_call 14; (with_reducible refine (rivuletref03_Filter.calls k a0 false _ A4.out).mono ?_); rintro e w9 ⟨rfl, hb⟩; have n0_ := Aside0.mk (below_step (by repeat (first | (with_reducible first | exact HB.out | apply below_alloc | apply pw_below_drewN | apply below_drew1) | exact HB.out)) hb); clear HB; have HB := n0_; clear n0_; (try clear hb); (try clear hb2); (try clear hk); (try clear hi))); try go_wp2_with (first | (go_at_call 14; (with_reducible refine (rivuletref03_Filter.calls k a0 false _ A4.out).mono ?_); rintro e w9 ⟨rfl, hb⟩; have n0_ := Aside0.mk (below_step (by repeat (first | (with_reducible first | exact HB.out | apply below_alloc | apply pw_below_drewN | apply below_drew1) | exact HB.out)) hb); clear HB; have HB := n0_; clear n0_; (try clear hb); (try clear hb2); (try clear hk); (try clear hi))))
      go_meet
      case rel => exact ⟨_, (true), (by first | rfl | (simp; done) | (simp [*]; done)), H', ⟨by first | omega | exact Nat.le_refl _⟩, ⟨by repeat (first | (with_reducible first | exact HB.out | apply below_alloc | apply pw_below_drewN | apply below_drew1) | exact HB.out)⟩⟩
  case rest =>
    clear HC3
    try clear c2
    try clear p2
    try clear c5
    obtain ⟨kq, x16_2, rfl, HA, HJ2, HB⟩ := hcut
    cases kq with
    | zero => exact absurd HA.out (by simp [rivuletref03_Match.j0])
    | succ kj2 =>
      have H := HA.out
      clear HA
      simp only [rivuletref03_Match.j0] at H
      by_cases c10 : x16_2 = true
      · subst c10
        have H1 : (some false) = some r := by rw [if_pos rfl] at H; exact H
        clear H
        have H := H1
        clear H1
        obtain rfl := Option.some.inj H
        go_wp2
        repeat (go_quiet (fail); try go_wp2)
        go_ret
        exact ⟨by first | rfl | (simp [errW_none, errW_some] <;> rfl) | (simp [*, errW_none, errW_some] <;> rfl), by repeat (first | (with_reducible first | exact HB.out | apply below_alloc | apply pw_below_drewN | apply below_drew1) | exact HB.out)⟩
      · replace c10 := Bool.eq_false_iff.mpr c10
        subst c10
        have H1 : ((rivuletref03_Levels.f kj2 a1).bind fun t168 => ((rivuletref03_Row.f kj2 a0 (t168.length : Int)).bind fun bt171 => (rivuletref03_Match.l0 kj2 t168 bt171.1 bt171.2 0))) = some r := by rw [if_neg (show ¬ (false = true) by decide)] at H; exact H
        clear H
        have H := H1
        clear H1
        replace H := Option.bind_eq_some_iff.mp H
        obtain ⟨t168, A110, H⟩ := H
        replace H : ((rivuletref03_Row.f kj2 a0 (t168.length : Int)).bind fun bt171 => (rivuletref03_Match.l0 kj2 t168 bt171.1 bt171.2 0)) = some r := H
        have A11 := Aside0.mk A110
        clear A110
        replace H := Option.bind_eq_some_iff.mp H
        obtain ⟨⟨t171, t172⟩, A120, H⟩ := H
        replace H : (rivuletref03_Match.l0 kj2 t168 t171 t172 0) = some r := H
        have A12 := Aside0.mk A120
        clear A120
        have H' := Aside0.mk H
        clear H
        go_wp2_with (first | (go_at_call 17; (with_reducible refine (rivuletref03_Levels.calls kj2 a1 t168 _ A11.out).mono ?_); rintro e w13 ⟨v169, rfl, ho0, hb⟩; have n0_ := Aside0.mk (Kd.R_lower ho0 (below_size (by repeat (first | (with_reducible first | exact HB.out | apply below_alloc | apply pw_below_drewN | apply below_drew1) | exact HB.out)))); have n1_ := Aside0.mk (below_step (by repeat (first | (with_reducible first | exact HB.out | apply below_alloc | apply pw_below_drewN | apply below_drew1) | exact HB.out)) hb); clear HB; have HO170 := n0_; have HB := n1_; clear n0_ n1_; (try clear hb); (try clear hb2); (try clear hk); (try clear hi); (try clear ho0); obtain ⟨Ao14, co14, eo14⟩ := Kd.R_slice HO170.out; subst eo14) | (go_at_call 35; (with_reducible refine (rivuletref03_Row.calls kj2 a0 (t168.length : Int) t171 t172 _ A12.out).mono ?_); rintro e w15 ⟨v173, rfl, ho0, hb⟩; have n0_ := Aside0.mk (Kd.R_elder' (by (with_reducible repeat (first | apply Kd.R_alloc | apply Kd.R_drewN | apply Kd.R_drew)); exact HO170.out) (Kd.R_base ho0) hb); have n1_ := Aside0.mk (Kd.R_lower (Kd.R_new' ho0 (Kd.R_lt (by (with_reducible repeat (first | apply Kd.R_alloc | apply Kd.R_drewN | apply Kd.R_drew)); exact HO170.out))) (below_size (by repeat (first | (with_reducible first | exact HB.out | apply below_alloc | apply pw_below_drewN | apply below_drew1) | exact HB.out)))); have n2_ := Aside0.mk (below_step (by repeat (first | (with_reducible first | exact HB.out | apply below_alloc | apply pw_below_drewN | apply below_drew1) | exact HB.out)) hb); clear HO170; clear HB; have HO170 := n0_; have HO174 := n1_; have HB := n2_; clear n0_ n1_ n2_; (try clear hb); (try clear hb2); (try clear hk); (try clear hi); (try clear ho0)))
        repeat (go_quiet (first | (go_at_call 17; (with_reducible refine (rivuletref03_Levels.calls kj2 a1 t168 _ A11.out).mono ?_); rintro e w13 ⟨v169, rfl, ho0, hb⟩; have n0_ := Aside0.mk (Kd.R_lower ho0 (below_size (by repeat (first | (with_reducible first | exact HB.out | apply below_alloc | apply pw_below_drewN | apply below_drew1) | exact HB.out)))); have n1_ := Aside0.mk (below_step (by repeat (first | (with_reducible first | exact HB.out | apply below_alloc | apply pw_below_drewN | apply below_drew1) | exact HB.out)) hb); clear HB; have HO170 := n0_; have HB := n1_; clear n0_ n1_; (try clear hb); (try clear hb2); (try clear hk); (try clear hi); (try clear ho0); obtain ⟨Ao14, co14, eo14⟩ := Kd.R_slice HO170.out; subst eo14) | (go_at_call 35; (with_reducible refine (rivuletref03_Row.calls kj2 a0 (t168.length : Int) t171 t172 _ A12.out).mono ?_); rintro e w15 ⟨v173, rfl, ho0, hb⟩; have n0_ := Aside0.mk (Kd.R_elder' (by (with_reducible repeat (first | apply Kd.R_alloc | apply Kd.R_drewN | apply Kd.R_drew)); exact HO170.out) (Kd.R_base ho0) hb); have n1_ := Aside0.mk (Kd.R_lower (Kd.R_new' ho0 (Kd.R_lt (by (with_reducible repeat (first | apply Kd.R_alloc | apply Kd.R_drewN | apply Kd.R_drew)); exact HO170.out))) (below_size (by repeat (first | (with_reducible first | exact HB.out | apply below_alloc | apply pw_below_drewN | apply below_drew1) | exact HB.out)))); have n2_ := Aside0.mk (below_step (by repeat (first | (with_reducible first | exact HB.out | apply below_alloc | apply pw_below_drewN | apply below_drew1) | exact HB.out)) hb); clear HO170; clear HB; have HO170 := n0_; have HO174 := n1_; have HB := n2_; clear n0_ n1_ n2_; (try clear hb); (try clear hb2); (try clear hk); (try clear hi); (try clear ho0))); try go_wp2_with (first | (go_at_call 17; (with_reducible refine (rivuletref03_Levels.calls kj2 a1 t168 _ A11.out).mono ?_); rintro e w13 ⟨v169, rfl, ho0, hb⟩; have n0_ := Aside0.mk (Kd.R_lower ho0 (below_size (by repeat (first | (with_reducible first | exact HB.out | apply below_alloc | apply pw_below_drewN | apply below_drew1) | exact HB.out)))); have n1_ := Aside0.mk (below_step (by repeat (first | (with_reducible first | exact HB.out | apply below_alloc | apply pw_below_drewN | apply below_drew1) | exact HB.out)) hb); clear HB; have HO170 := n0_; have HB := n1_; clear n0_ n1_; (try clear hb); (try clear hb2); (try clear hk); (try clear hi); (try clear ho0); obtain ⟨Ao14, co14, eo14⟩ := Kd.R_slice HO170.out; subst eo14) | (go_at_call 35; (with_reducible refine (rivuletref03_Row.calls kj2 a0 (t168.length : Int) t171 t172 _ A12.out).mono ?_); rintro e w15 ⟨v173, rfl, ho0, hb⟩; have n0_ := Aside0.mk (Kd.R_elder' (by (with_reducible repeat (first | apply Kd.R_alloc | apply Kd.R_drewN | apply Kd.R_drew)); exact HO170.out) (Kd.R_base ho0) hb); have n1_ := Aside0.mk (Kd.R_lower (Kd.R_new' ho0 (Kd.R_lt (by (with_reducible repeat (first | apply Kd.R_alloc | apply Kd.R_drewN | apply Kd.R_drew)); exact HO170.out))) (below_size (by repeat (first | (with_reducible first | exact HB.out | apply below_alloc | apply pw_below_drewN | apply below_drew1) | exact HB.out)))); have n2_ := Aside0.mk (below_step (by repeat (first | (with_reducible first | exact HB.out | apply below_alloc | apply pw_below_drewN | apply below_drew1) | exact HB.out)) hb); clear HO170; clear HB; have HO170 := n0_; have HO174 := n1_; have HB := n2_; clear n0_ n1_ n2_; (try clear hb); (try clear hb2); (try clear hk); (try clear hi); (try clear ho0))))
        go_loopg [7, 8] kj2 (fun kq v7 v8 w' => ∃ (x7_2 : Bool) (x8_2 : Int), v7 = .bool x7_2 ∧ v8 = .int .i64 x8_2 ∧ Aside0 (rivuletref03_Match.l0 kq t168 t171 x7_2 x8_2 = some r) ∧ Aside0 (kq ≤ kj2) ∧ Aside0 (Kd.R Kd.string 9 w' w.heap.size (fun k_ => some k_ ≠ (v173 : Value).ownBlock) (.slice Ao14 t168.length co14) t168) ∧ Aside0 (Kd.R Kd.string 9 w' w.heap.size (fun k_ => some k_ ≠ ((.slice Ao14 t168.length co14) : Value).ownBlock) v173 t171) ∧ Aside0 (Below w.heap.size w w'))
        case atStart => exact ⟨(t172), (0), (by first | rfl | (simp; done) | (simp [*]; done)), (by first | rfl | (simp; done) | (simp [*]; done)), H', ⟨Nat.le_refl _⟩, ⟨by (with_reducible repeat (first | apply Kd.R_alloc | apply Kd.R_drewN | apply Kd.R_drew)); exact Kd.R_mono HO170.out (fun _ hk => hk.2)⟩, ⟨by (with_reducible repeat (first | apply Kd.R_alloc | apply Kd.R_drewN | apply Kd.R_drew)); exact Kd.R_mono HO174.out (fun _ hk => hk.2)⟩, ⟨by repeat (first | (with_reducible first | exact HB.out | apply below_alloc | apply pw_below_drewN | apply below_drew1) | exact HB.out)⟩⟩
        case round =>
          clear H'
          try clear c1
          try clear c2
          try clear p2
          try clear c5
          try clear c10
          try clear p2
          obtain ⟨x7_2, x8_2, rfl, rfl, HA, HK2, HO_5, HO_6, HB⟩ := hrel
          cases gk with
          | zero => exact absurd HA.out (by simp [rivuletref03_Match.l0])
          | succ k2 =>
            have H := HA.out
            clear HA
            simp only [rivuletref03_Match.l0] at H
            by_cases c16 : x8_2 < (t168.length : Int)
            · rw [if_pos c16] at H
              have c16b0 : decide (x8_2 < (t168.length : Int)) = true := decide_eq_true c16
              clear c16
              by_cases c17 : x7_2 = true
              · subst c17
                have H1 : (if 0 ≤ x8_2 then (if x8_2 < (t171.length : Int) then (if (rdOf ByteArray.empty t171 x8_2).toList = ([43] : List UInt8) then (rivuletref03_Match.l0 k2 t168 t171 true (wrap64 (x8_2 + 1))) else (rivuletref03_Match.l0 k2 t168 t171 ((rdOf ByteArray.empty t171 x8_2).toList == (rdOf ByteArray.empty t168 x8_2).toList) (wrap64 (x8_2 + 1)))) else (none)) else (none)) = some r := by rw [if_pos rfl] at H; exact H
                clear H
                have H := H1
                clear H1
                by_cases c18 : 0 ≤ x8_2
                · rw [if_pos c18] at H
                  have c18b0 : decide (0 ≤ x8_2) = true := decide_eq_true c18
                  clear c18
                  by_cases c19 : x8_2 < (t171.length : Int)
                  · rw [if_pos c19] at H
                    have c19b0 : decide (x8_2 < (t171.length : Int)) = true := decide_eq_true c19
                    clear c19
                    by_cases c20 : (rdOf ByteArray.empty t171 x8_2).toList = ([43] : List UInt8)
                    · rw [if_pos c20] at H
                      have c20b0 : ((rdOf ByteArray.empty t171 x8_2).toList == ([43] : List UInt8)) = true := beq_iff_eq.mpr c20
                      have c20b1 : ((rdOf ByteArray.empty t171 x8_2).toList != ([43] : List UInt8)) = false := bne_eq_false_iff_eq.mpr c20
                      clear c20
                      have H' := Aside0.mk H
                      clear H
                      obtain ⟨Ao21, co21, eo21⟩ := Kd.R_slice HO_6.out
                      subst eo21
                      have p175 : 0 ≤ (x8_2 : Int) := of_decide_eq_true (by first | (with_reducible assumption) | assumption)
                      have q175 : x8_2 < (t171.length : Int) := of_decide_eq_true (by first | (with_reducible assumption) | assumption)
                      obtain ⟨ad175, e175, hx175_0⟩ := Kd.at_string (Kd.R_reads' HO_6.out).2.2 x8_2 p175 q175
                      cases e175
                      replace p175 := eq_true p175
                      replace q175 := eq_true q175
                      go_wp2
                      repeat (go_quiet (fail); try go_wp2)
                      go_roundg k2
                      case measure => have := HJ2.out; have := HK2.out; omega
                      case rel => exact ⟨(true), (wrap64 (x8_2 + 1)), (by first | rfl | (simp; done) | (simp [*]; done)), (by first | rfl | (simp; done) | (simp [*]; done)), H', ⟨by have := HJ2.out; have := HK2.out; omega⟩, ⟨by (with_reducible repeat (first | apply Kd.R_alloc | apply Kd.R_drewN | apply Kd.R_drew)); exact HO_5.out⟩, ⟨by (with_reducible repeat (first | apply Kd.R_alloc | apply Kd.R_drewN | apply Kd.R_drew)); exact HO_6.out⟩, ⟨by repeat (first | (with_reducible first | exact HB.out | apply below_alloc | apply pw_below_drewN | apply below_drew1) | exact HB.out)⟩⟩
                    · rw [if_neg c20] at H
                      have c20b0 : ((rdOf ByteArray.empty t171 x8_2).toList == ([43] : List UInt8)) = false := beq_eq_false_iff_ne.mpr c20
                      have c20b1 : ((rdOf ByteArray.empty t171 x8_2).toList != ([43] : List UInt8)) = true := bne_iff_ne.mpr c20
                      have H' := Aside0.mk H
                      clear H
                      obtain ⟨Ao22, co22, eo22⟩ := Kd.R_slice HO_6.out
                      subst eo22
                      have p175 : 0 ≤ (x8_2 : Int) := of_decide_eq_true (by first | (with_reducible assumption) | assumption)
                      have q175 : x8_2 < (t171.length : Int) := of_decide_eq_true (by first | (with_reducible assumption) | assumption)
                      obtain ⟨ad175, e175, hx175_0⟩ := Kd.at_string (Kd.R_reads' HO_6.out).2.2 x8_2 p175 q175
                      cases e175
                      replace p175 := eq_true p175
                      replace q175 := eq_true q175
                      have p176 : 0 ≤ (x8_2 : Int) := of_decide_eq_true (by first | (with_reducible assumption) | assumption)
                      have q176 : x8_2 < (t171.length : Int) := of_decide_eq_true (by first | (with_reducible assumption) | assumption)
                      obtain ⟨ad176, e176, hx176_0⟩ := Kd.at_string (Kd.R_reads' HO_6.out).2.2 x8_2 p176 q176
                      obtain rfl : ad175 = ad176 := (by injection e176)
                      replace p176 := eq_true p176
                      replace q176 := eq_true q176
                      have p177 : 0 ≤ (x8_2 : Int) := of_decide_eq_true (by first | (with_reducible assumption) | assumption)
                      have q177 : x8_2 < (t168.length : Int) := of_decide_eq_true (by first | (with_reducible assumption) | assumption)
                      obtain ⟨ad177, e177, hx177_0⟩ := Kd.at_string (Kd.R_reads' HO_5.out).2.2 x8_2 p177 q177
                      cases e177
                      replace p177 := eq_true p177
                      replace q177 := eq_true q177
                      go_wp2
                      repeat (go_quiet (fail); try go_wp2)
                      go_roundg k2
                      case measure => have := HJ2.out; have := HK2.out; omega
                      case rel => exact ⟨(((rdOf ByteArray.empty t171 x8_2).toList == (rdOf ByteArray.empty t168 x8_2).toList)), (wrap64 (x8_2 + 1)), (by first | rfl | (simp; done) | (simp [*]; done)), (by first | rfl | (simp; done) | (simp [*]; done)), H', ⟨by have := HJ2.out; have := HK2.out; omega⟩, ⟨by (with_reducible repeat (first | apply Kd.R_alloc | apply Kd.R_drewN | apply Kd.R_drew)); exact HO_5.out⟩, ⟨by (with_reducible repeat (first | apply Kd.R_alloc | apply Kd.R_drewN | apply Kd.R_drew)); exact HO_6.out⟩, ⟨by repeat (first | (with_reducible first | exact HB.out | apply below_alloc | apply pw_below_drewN | apply below_drew1) | exact HB.out)⟩⟩
                  · rw [if_neg c19] at H
                    exact absurd H (by simp)
                · rw [if_neg c18] at H
                  exact absurd H (by simp)
              · replace c17 := Bool.eq_false_iff.mpr c17
                subst c17
                have H1 : (some false) = some r := by rw [if_neg (show ¬ (false = true) by decide)] at H; exact H
                clear H
                have H := H1
                clear H1
                obtain rfl := Option.some.inj H
                go_wp2
                repeat (go_quiet (fail); try go_wp2)
                go_ret
                exact ⟨by first | rfl | (simp [errW_none, errW_some] <;> rfl) | (simp [*, errW_none, errW_some] <;> rfl), by repeat (first | (with_reducible first | exact HB.out | apply below_alloc | apply pw_below_drewN | apply below_drew1) | exact HB.out)⟩
            · rw [if_neg c16] at H
              have c16b0 : decide (x8_2 < (t168.length : Int)) = false := decide_eq_false c16
              clear c16
              obtain rfl := Option.some.inj H
              go_wp2
              repeat (go_quiet (fail); try go_wp2)
              go_ret
              exact ⟨by first | rfl | (simp [errW_none, errW_some] <;> rfl) | (simp [*, errW_none, errW_some] <;> rfl), by repeat (first | (with_reducible first | exact HB.out | apply below_alloc | apply pw_below_drewN | apply below_drew1) | exact HB.out)⟩

/-! ### rivuletref03_Covers: function 24 -/
mutual
def rivuletref03_Covers.j0 : Nat → ByteArray → ByteArray → Bool → Option (Bool)
  | 0, _, _, _ => none
  | k + 1, x0, x1, x18 => if x18 = true then (some false) else (rivuletref03_Covers.l0 k x0 x1 1)
def rivuletref03_Covers.l0 : Nat → ByteArray → ByteArray → Int → Option (Bool)
  | 0, _, _, _ => none
  | k + 1, x0, x1, x5 => if x5 ≤ 8 then ((rivuletref03_Row.f k x1 x5).bind fun bt180 => ((rivuletref03_Row.f k x0 x5).bind fun bt184 => (rivuletref03_Covers.l1 k x0 x1 x5 bt180.1 bt180.2 bt184.1 bt184.2 0))) else (some true)
def rivuletref03_Covers.l1 : Nat → ByteArray → ByteArray → Int → List ByteArray → Bool → List ByteArray → Bool → Int → Option (Bool)
  | 0, _, _, _, _, _, _, _, _ => none
  | k + 1, x0, x1, x5, x6, x7, x8, x9, x10 => if x10 < x5 then (if x7 = true then (if x9 = true then (if 0 ≤ x10 then (if x10 < (x8.length : Int) then (if (rdOf ByteArray.empty x8 x10).toList = ([43] : List UInt8) then (rivuletref03_Covers.l1 k x0 x1 x5 x6 x7 x8 true (wrap64 (x10 + 1))) else (if x10 < (x6.length : Int) then (rivuletref03_Covers.l1 k x0 x1 x5 x6 x7 x8 ((rdOf ByteArray.empty x8 x10).toList == (rdOf ByteArray.empty x6 x10).toList) (wrap64 (x10 + 1))) else (none))) else (none)) else (none)) else (some false)) else (rivuletref03_Covers.l0 k x0 x1 (wrap64 (x5 + 1)))) else (if x7 = true then (if x9 = true then (rivuletref03_Covers.l0 k x0 x1 (wrap64 (x5 + 1))) else (some false)) else (rivuletref03_Covers.l0 k x0 x1 (wrap64 (x5 + 1))))
end
def rivuletref03_Covers.f (k : Nat) (a0 : ByteArray) (a1 : ByteArray) : Option (Bool) := (rivuletref03_Filter.f k a0).bind fun t178 => (if t178 = true then ((rivuletref03_Filter.f k a1).bind fun t179 => (rivuletref03_Covers.j0 k a0 a1 (!t179))) else (rivuletref03_Covers.j0 k a0 a1 true))
theorem rivuletref03_Covers.mono_l : ∀ k, (∀ y0 y1 y2, LeO (rivuletref03_Covers.j0 k y0 y1 y2) (rivuletref03_Covers.j0 (k + 1) y0 y1 y2)) ∧ (∀ y0 y1 y2, LeO (rivuletref03_Covers.l0 k y0 y1 y2) (rivuletref03_Covers.l0 (k + 1) y0 y1 y2)) ∧ (∀ y0 y1 y2 y3 y4 y5 y6 y7, LeO (rivuletref03_Covers.l1 k y0 y1 y2 y3 y4 y5 y6 y7) (rivuletref03_Covers.l1 (k + 1) y0 y1 y2 y3 y4 y5 y6 y7))
  | 0 => ⟨fun _ _ _ r h => by simp [rivuletref03_Covers.j0] at h, fun _ _ _ r h => by simp [rivuletref03_Covers.l0] at h, fun _ _ _ _ _ _ _ _ r h => by simp [rivuletref03_Covers.l1] at h⟩
  | k + 1 => by
    obtain ⟨ih0, ih1, ih2⟩ := rivuletref03_Covers.mono_l k
    refine ⟨?_, ?_, ?_⟩
    · intro y0 y1 y2
      unfold rivuletref03_Covers.j0
      repeat' first
      | (with_reducible exact ih0 _ _ _)
      | (with_reducible exact ih1 _ _ _)
      | (with_reducible exact ih2 _ _ _ _ _ _ _ _)
      | (with_reducible exact rivuletref03_Filter.mono _ _)
      | (with_reducible exact rivuletref03_Row.mono _ _ _)
      | (with_reducible exact LeO.refl _)
      | (with_reducible exact LeO.none _)
      | (with_reducible refine LeO.ite ?_ ?_)
      | (with_reducible refine LeO.bind ?_ (fun _ => ?_))
      | exact ih0 _ _ _
      | exact ih1 _ _ _
      | exact ih2 _ _ _ _ _ _ _ _
      | exact rivuletref03_Filter.mono _ _
      | exact rivuletref03_Row.mono _ _ _
      | exact LeO.none _
      | refine LeO.ite ?_ ?_
      | refine LeO.bind ?_ (fun _ => ?_)
    · intro y0 y1 y2
      unfold rivuletref03_Covers.l0
      repeat' first
      | (with_reducible exact ih0 _ _ _)
      | (with_reducible exact ih1 _ _ _)
      | (with_reducible exact ih2 _ _ _ _ _ _ _ _)
      | (with_reducible exact rivuletref03_Filter.mono _ _)
      | (with_reducible exact rivuletref03_Row.mono _ _ _)
      | (with_reducible exact LeO.refl _)
      | (with_reducible exact LeO.none _)
      | (with_reducible refine LeO.ite ?_ ?_)
      | (with_reducible refine LeO.bind ?_ (fun _ => ?_))
      | exact ih0 _ _ _
      | exact ih1 _ _ _
      | exact ih2 _ _ _ _ _ _ _ _
      | exact rivuletref03_Filter.mono _ _
      | exact rivuletref03_Row.mono _ _ _
      | exact LeO.none _
      | refine LeO.ite ?_ ?_
      | refine LeO.bind ?_ (fun _ => ?_)
    · intro y0 y1 y2 y3 y4 y5 y6 y7
      unfold rivuletref03_Covers.l1
      repeat' first
      | (with_reducible exact ih0 _ _ _)
      | (with_reducible exact ih1 _ _ _)
      | (with_reducible exact ih2 _ _ _ _ _ _ _ _)
      | (with_reducible exact rivuletref03_Filter.mono _ _)
      | (with_reducible exact rivuletref03_Row.mono _ _ _)
      | (with_reducible exact LeO.refl _)
      | (with_reducible exact LeO.none _)
      | (with_reducible refine LeO.ite ?_ ?_)
      | (with_reducible refine LeO.bind ?_ (fun _ => ?_))
      | exact ih0 _ _ _
      | exact ih1 _ _ _
      | exact ih2 _ _ _ _ _ _ _ _
      | exact rivuletref03_Filter.mono _ _
      | exact rivuletref03_Row.mono _ _ _
      | exact LeO.none _
      | refine LeO.ite ?_ ?_
      | refine LeO.bind ?_ (fun _ => ?_)
theorem rivuletref03_Covers.mono : ∀ a0 a1 k, LeO (rivuletref03_Covers.f k a0 a1) (rivuletref03_Covers.f (k + 1) a0 a1) := by
  intro a0 a1 k
  obtain ⟨ih0, ih1, ih2⟩ := rivuletref03_Covers.mono_l k
  unfold rivuletref03_Covers.f
  repeat' first
      | (with_reducible exact ih0 _ _ _)
      | (with_reducible exact ih1 _ _ _)
      | (with_reducible exact ih2 _ _ _ _ _ _ _ _)
      | (with_reducible exact rivuletref03_Filter.mono _ _)
      | (with_reducible exact rivuletref03_Row.mono _ _ _)
      | (with_reducible exact LeO.refl _)
      | (with_reducible exact LeO.none _)
      | (with_reducible refine LeO.ite ?_ ?_)
      | (with_reducible refine LeO.bind ?_ (fun _ => ?_))
      | exact ih0 _ _ _
      | exact ih1 _ _ _
      | exact ih2 _ _ _ _ _ _ _ _
      | exact rivuletref03_Filter.mono _ _
      | exact rivuletref03_Row.mono _ _ _
      | exact LeO.none _
      | refine LeO.ite ?_ ?_
      | refine LeO.bind ?_ (fun _ => ?_)
set_option maxHeartbeats 8000000 in
set_option maxRecDepth 100000 in
theorem rivuletref03_Covers.calls (k : Nat) (a0 : ByteArray) (a1 : ByteArray) (r : Bool) (w : World) (h : rivuletref03_Covers.f k a0 a1 = some r) :
    Calls Tryd.prog 24 #[.string a0, .string a1] w fun e w' => e = .returned (.bool r) ∧ Below w.heap.size w w' := by
  have HB := Aside0.mk (Below.refl w.heap.size w)
  have H : ((rivuletref03_Filter.f k a0).bind fun t178 => (if t178 = true then ((rivuletref03_Filter.f k a1).bind fun t179 => (rivuletref03_Covers.j0 k a0 a1 (!t179))) else (rivuletref03_Covers.j0 k a0 a1 true))) = some r := h
  clear h
  have HC3 := Aside0.mk H
  clear H
  go_enter Tryd.func24, Tryd.ntmps24
  go_upto_region 1 with (fail)
  repeat (go_quiet (fail); go_upto_region 1 with (fail))
  go_cut [18] (fun v18 wc => ∃ (kq : Nat) (x18_2 : Bool), v18 = .bool x18_2 ∧ Aside0 (rivuletref03_Covers.j0 kq a0 a1 x18_2 = some r) ∧ Aside0 (kq ≤ k) ∧ Aside0 (Below w.heap.size w wc))
  case first =>
    have H := HC3.out
    clear HC3
    replace H := Option.bind_eq_some_iff.mp H
    obtain ⟨t178, A40, H⟩ := H
    replace H : (if t178 = true then ((rivuletref03_Filter.f k a1).bind fun t179 => (rivuletref03_Covers.j0 k a0 a1 (!t179))) else (rivuletref03_Covers.j0 k a0 a1 true)) = some r := H
    have A4 := Aside0.mk A40
    clear A40
    by_cases c5 : t178 = true
    · subst c5
      have H1 : ((rivuletref03_Filter.f k a1).bind fun t179 => (rivuletref03_Covers.j0 k a0 a1 (!t179))) = some r := by rw [if_pos rfl] at H; exact H
      clear H
      have H := H1
      clear H1
      replace H := Option.bind_eq_some_iff.mp H
      obtain ⟨t179, A60, H⟩ := H
      replace H : (rivuletref03_Covers.j0 k a0 a1 (!t179)) = some r := H
      have A6 := Aside0.mk A60
      clear A60
      have H' := Aside0.mk H
      clear H
      go_wp2_with (first | (go_at_call 14; (with_reducible refine (rivuletref03_Filter.calls k a0 true _ A4.out).mono ?_); rintro e w7 ⟨rfl, hb⟩; have n0_ := Aside0.mk (below_step (by repeat (first | (with_reducible first | exact HB.out | apply below_alloc | apply pw_below_drewN | apply below_drew1) | exact HB.out)) hb); clear HB; have HB := n0_; clear n0_; (try clear hb); (try clear hb2); (try clear hk); (try clear hi)) | (go_at_call 14; (with_reducible refine (rivuletref03_Filter.calls k a1 t179 _ A6.out).mono ?_); rintro e w8 ⟨rfl, hb⟩; have n0_ := Aside0.mk (below_step (by repeat (first | (with_reducible first | exact HB.out | apply below_alloc | apply pw_below_drewN | apply below_drew1) | exact HB.out)) hb); clear HB; have HB := n0_; clear n0_; (try clear hb); (try clear hb2); (try clear hk); (try clear hi)))
      repeat (go_quiet (first | (go_at_call 14; (with_reducible refine (rivuletref03_Filter.calls k a0 true _ A4.out).mono ?_); rintro e w7 ⟨rfl, hb⟩; have n0_ := Aside0.mk (below_step (by repeat (first | (with_reducible first | exact HB.out | apply below_alloc | apply pw_below_drewN | apply below_drew1) | exact HB.out)) hb); clear HB; have HB := n0_; clear n0_; (try clear hb); (try clear hb2); (try clear hk); (try clear hi)) | (go_at_call 14; (with_reducible refine (rivuletref03_Filter.calls k a1 t179 _ A6.out).mono ?_); rintro e w8 ⟨rfl, hb⟩; have n0_ := Aside0.mk (below_step (by repeat (first | (with_reducible first | exact HB.out | apply below_alloc | apply pw_below_drewN | apply below_drew1) | exact HB.out)) hb); clear HB; have HB := n0_; clear n0_; (try clear hb); (try clear hb2); (try clear hk); (try clear hi))); try go_wp2_with (first | (go_at_call 14; (with_reducible refine (rivuletref03_Filter.calls k a0 true _ A4.out).mono ?_); rintro e w7 ⟨rfl, hb⟩; have n0_ := Aside0.mk (below_step (by repeat (first | (with_reducible first | exact HB.out | apply below_alloc | apply pw_below_drewN | apply below_drew1) | exact HB.out)) hb); clear HB; have HB := n0_; clear n0_; (try clear hb); (try clear hb2); (try clear hk); (try clear hi)) | (go_at_call 14; (with_reducible refine (rivuletref03_Filter.calls k a1 t179 _ A6.out).mono ?_); rintro e w8 ⟨rfl, hb⟩; have n0_ := Aside0.mk (below_step (by repeat (first | (with_reducible first | exact HB.out | apply below_alloc | apply pw_below_drewN | apply below_drew1) | exact HB.out)) hb); clear HB; have HB := n0_; clear n0_; (try clear hb); (try clear hb2); (try clear hk); (try clear hi))))
      go_meet
      case rel => exact ⟨_, (!t179), (by first | rfl | (simp; done) | (simp [*]; done)), H', ⟨by first | omega | exact Nat.le_refl _⟩, ⟨by repeat (first | (with_reducible first | exact HB.out | apply below_alloc | apply pw_below_drewN | apply below_drew1) | exact HB.out)⟩⟩
    · replace c5 := Bool.eq_false_iff.mpr c5
      subst c5
      have H1 : (rivuletref03_Covers.j0 k a0 a1 true) = some r := by rw [if_neg (show ¬ (false = true) by decide)] at H; exact H
      clear H
      have H := H1
      clear H1
      have H' := Aside0.mk H
      clear H
      go_wp2_with (first | (go_at_call 14; (with_reducible refine (rivuletref03_Filter.calls k a0 false _ A4.out).mono ?_); rintro e w9 ⟨rfl, hb⟩; have n0_ := Aside0.mk (below_step (by repeat (first | (with_reducible first | exact HB.out | apply below_alloc | apply pw_below_drewN | apply below_drew1) | exact HB.out)) hb); clear HB; have HB := n0_; clear n0_; (try clear hb); (try clear hb2); (try clear hk); (try clear hi)))
      repeat (go_quiet (first | (go_at_call 14; (with_reducible refine (rivuletref03_Filter.calls k a0 false _ A4.out).mono ?_); rintro e w9 ⟨rfl, hb⟩; have n0_ := Aside0.mk (below_step (by repeat (first | (with_reducible first | exact HB.out | apply below_alloc | apply pw_below_drewN | apply below_drew1) | exact HB.out)) hb); clear HB; have HB := n0_; clear n0_; (try clear hb); (try clear hb2); (try clear hk); (try clear hi))); try go_wp2_with (first | (go_at_call 14; (with_reducible refine (rivuletref03_Filter.calls k a0 false _ A4.out).mono ?_); rintro e w9 ⟨rfl, hb⟩; have n0_ := Aside0.mk (below_step (by repeat (first | (with_reducible first | exact HB.out | apply below_alloc | apply pw_below_drewN | apply below_drew1) | exact HB.out)) hb); clear HB; have HB := n0_; clear n0_; (try clear hb); (try clear hb2); (try clear hk); (try clear hi))))
      go_meet
      case rel => exact ⟨_, (true), (by first | rfl | (simp; done) | (simp [*]; done)), H', ⟨by first | omega | exact Nat.le_refl _⟩, ⟨by repeat (first | (with_reducible first | exact HB.out | apply below_alloc | apply pw_below_drewN | apply below_drew1) | exact HB.out)⟩⟩
  case rest =>
    clear HC3
    try clear c2
    try clear p2
    try clear c5
    obtain ⟨kq, x18_2, rfl, HA, HJ2, HB⟩ := hcut
    cases kq with
    | zero => exact absurd HA.out (by simp [rivuletref03_Covers.j0])
    | succ kj2 =>
      have H := HA.out
      clear HA
      simp only [rivuletref03_Covers.j0] at H
      by_cases c10 : x18_2 = true
      · subst c10
        have H1 : (some false) = some r := by rw [if_pos rfl] at H; exact H
        clear H
        have H := H1
        clear H1
        obtain rfl := Option.some.inj H
        go_wp2
        repeat (go_quiet (fail); try go_wp2)
        go_ret
        exact ⟨by first | rfl | (simp [errW_none, errW_some] <;> rfl) | (simp [*, errW_none, errW_some] <;> rfl), by repeat (first | (with_reducible first | exact HB.out | apply below_alloc | apply pw_below_drewN | apply below_drew1) | exact HB.out)⟩
      · replace c10 := Bool.eq_false_iff.mpr c10
        subst c10
        have H1 : (rivuletref03_Covers.l0 kj2 a0 a1 1) = some r := by rw [if_neg (show ¬ (false = true) by decide)] at H; exact H
        clear H
        have H := H1
        clear H1
        have H' := Aside0.mk H
        clear H
        go_wp2
        repeat (go_quiet (fail); try go_wp2)
        go_loopg [5] kj2 (fun kq v5 w' => ∃ (x5_2 : Int), v5 = .int .i64 x5_2 ∧ Aside0 (rivuletref03_Covers.l0 kq a0 a1 x5_2 = some r) ∧ Aside0 (kq ≤ kj2) ∧ Aside0 (Below w.heap.size w w'))
        case atStart => exact ⟨(1), (by first | rfl | (simp; done) | (simp [*]; done)), H', ⟨Nat.le_refl _⟩, ⟨by repeat (first | (with_reducible first | exact HB.out | apply below_alloc | apply pw_below_drewN | apply below_drew1) | exact HB.out)⟩⟩
        case round =>
          clear H'
          try clear c1
          try clear c2
          try clear p2
          try clear c5
          try clear c10
          try clear p2
          obtain ⟨x5_2, rfl, HA, HK2, HB⟩ := hrel
          cases gk with
          | zero => exact absurd HA.out (by simp [rivuletref03_Covers.l0])
          | succ k2 =>
            have H := HA.out
            clear HA
            simp only [rivuletref03_Covers.l0] at H
            by_cases c11 : x5_2 ≤ 8
            · rw [if_pos c11] at H
              have c11b0 : decide (x5_2 ≤ 8) = true := decide_eq_true c11
              clear c11
              replace H := Option.bind_eq_some_iff.mp H
              obtain ⟨⟨t180, t181⟩, A120, H⟩ := H
              replace H : ((rivuletref03_Row.f k2 a0 x5_2).bind fun bt184 => (rivuletref03_Covers.l1 k2 a0 a1 x5_2 t180 t181 bt184.1 bt184.2 0)) = some r := H
              have A12 := Aside0.mk A120
              clear A120
              replace H := Option.bind_eq_some_iff.mp H
              obtain ⟨⟨t184, t185⟩, A130, H⟩ := H
              replace H : (rivuletref03_Covers.l1 k2 a0 a1 x5_2 t180 t181 t184 t185 0) = some r := H
              have A13 := Aside0.mk A130
              clear A130
              have H' := Aside0.mk H
              clear H
              go_wp2_with (first | (go_at_call 35; (with_reducible refine (rivuletref03_Row.calls k2 a1 x5_2 t180 t181 _ A12.out).mono ?_); rintro e w14 ⟨v182, rfl, ho0, hb⟩; have n0_ := Aside0.mk (Kd.R_lower ho0 (below_size (by repeat (first | (with_reducible first | exact HB.out | apply below_alloc | apply pw_below_drewN | apply below_drew1) | exact HB.out)))); have n1_ := Aside0.mk (below_step (by repeat (first | (with_reducible first | exact HB.out | apply below_alloc | apply pw_below_drewN | apply below_drew1) | exact HB.out)) hb); clear HB; have HO183 := n0_; have HB := n1_; clear n0_ n1_; (try clear hb); (try clear hb2); (try clear hk); (try clear hi); (try clear ho0)) | (go_at_call 35; (with_reducible refine (rivuletref03_Row.calls k2 a0 x5_2 t184 t185 _ A13.out).mono ?_); rintro e w15 ⟨v186, rfl, ho0, hb⟩; have n0_ := Aside0.mk (Kd.R_elder' (by (with_reducible repeat (first | apply Kd.R_alloc | apply Kd.R_drewN | apply Kd.R_drew)); exact HO183.out) (Kd.R_base ho0) hb); have n1_ := Aside0.mk (Kd.R_lower (Kd.R_new' ho0 (Kd.R_lt (by (with_reducible repeat (first | apply Kd.R_alloc | apply Kd.R_drewN | apply Kd.R_drew)); exact HO183.out))) (below_size (by repeat (first | (with_reducible first | exact HB.out | apply below_alloc | apply pw_below_drewN | apply below_drew1) | exact HB.out)))); have n2_ := Aside0.mk (below_step (by repeat (first | (with_reducible first | exact HB.out | apply below_alloc | apply pw_below_drewN | apply below_drew1) | exact HB.out)) hb); clear HO183; clear HB; have HO183 := n0_; have HO187 := n1_; have HB := n2_; clear n0_ n1_ n2_; (try clear hb); (try clear hb2); (try clear hk); (try clear hi); (try clear ho0)))
              repeat (go_quiet (first | (go_at_call 35; (with_reducible refine (rivuletref03_Row.calls k2 a1 x5_2 t180 t181 _ A12.out).mono ?_); rintro e w14 ⟨v182, rfl, ho0, hb⟩; have n0_ := Aside0.mk (Kd.R_lower ho0 (below_size (by repeat (first | (with_reducible first | exact HB.out | apply below_alloc | apply pw_below_drewN | apply below_drew1) | exact HB.out)))); have n1_ := Aside0.mk (below_step (by repeat (first | (with_reducible first | exact HB.out | apply below_alloc | apply pw_below_drewN | apply below_drew1) | exact HB.out)) hb); clear HB; have HO183 := n0_; have HB := n1_; clear n0_ n1_; (try clear hb); (try clear hb2); (try clear hk); (try clear hi); (try clear ho0)) | (go_at_call 35; (with_reducible refine (rivuletref03_Row.calls k2 a0 x5_2 t184 t185 _ A13.out).mono ?_); rintro e w15 ⟨v186, rfl, ho0, hb⟩; have n0_ := Aside0.mk (Kd.R_elder' (by (with_reducible repeat (first | apply Kd.R_alloc | apply Kd.R_drewN | apply Kd.R_drew)); exact HO183.out) (Kd.R_base ho0) hb); have n1_ := Aside0.mk (Kd.R_lower (Kd.R_new' ho0 (Kd.R_lt (by (with_reducible repeat (first | apply Kd.R_alloc | apply Kd.R_drewN | apply Kd.R_drew)); exact HO183.out))) (below_size (by repeat (first | (with_reducible first | exact HB.out | apply below_alloc | apply pw_below_drewN | apply below_drew1) | exact HB.out)))); have n2_ := Aside0.mk (below_step (by repeat (first | (with_reducible first | exact HB.out | apply below_alloc | apply pw_below_drewN | apply below_drew1) | exact HB.out)) hb); clear HO183; clear HB; have HO183 := n0_; have HO187 := n1_; have HB := n2_; clear n0_ n1_ n2_; (try clear hb); (try clear hb2); (try clear hk); (try clear hi); (try clear ho0))); try go_wp2_with (first | (go_at_call 35; (with_reducible refine (rivuletref03_Row.calls k2 a1 x5_2 t180 t181 _ A12.out).mono ?_); rintro e w14 ⟨v182, rfl, ho0, hb⟩; have n0_ := Aside0.mk (Kd.R_lower ho0 (below_size (by repeat (first | (with_reducible first | exact HB.out | apply below_alloc | apply pw_below_drewN | apply below_drew1) | exact HB.out)))); have n1_ := Aside0.mk (below_step (by repeat (first | (with_reducible first | exact HB.out | apply below_alloc | apply pw_below_drewN | apply below_drew1) | exact HB.out)) hb); clear HB; have HO183 := n0_; have HB := n1_; clear n0_ n1_; (try clear hb); (try clear hb2); (try clear hk); (try clear hi); (try clear ho0)) | (go_at_call 35; (with_reducible refine (rivuletref03_Row.calls k2 a0 x5_2 t184 t185 _ A13.out).mono ?_); rintro e w15 ⟨v186, rfl, ho0, hb⟩; have n0_ := Aside0.mk (Kd.R_elder' (by (with_reducible repeat (first | apply Kd.R_alloc | apply Kd.R_drewN | apply Kd.R_drew)); exact HO183.out) (Kd.R_base ho0) hb); have n1_ := Aside0.mk (Kd.R_lower (Kd.R_new' ho0 (Kd.R_lt (by (with_reducible repeat (first | apply Kd.R_alloc | apply Kd.R_drewN | apply Kd.R_drew)); exact HO183.out))) (below_size (by repeat (first | (with_reducible first | exact HB.out | apply below_alloc | apply pw_below_drewN | apply below_drew1) | exact HB.out)))); have n2_ := Aside0.mk (below_step (by repeat (first | (with_reducible first | exact HB.out | apply below_alloc | apply pw_below_drewN | apply below_drew1) | exact HB.out)) hb); clear HO183; clear HB; have HO183 := n0_; have HO187 := n1_; have HB := n2_; clear n0_ n1_ n2_; (try clear hb); (try clear hb2); (try clear hk); (try clear hi); (try clear ho0))))
              go_loopg [9, 10] k2 (fun kq v9 v10 w' => ∃ (x9_3 : Bool) (x10_3 : Int), v9 = .bool x9_3 ∧ v10 = .int .i64 x10_3 ∧ Aside0 (rivuletref03_Covers.l1 kq a0 a1 x5_2 t180 t181 t184 x9_3 x10_3 = some r) ∧ Aside0 (kq ≤ k2) ∧ Aside0 (Kd.R Kd.string 9 w' w.heap.size (fun k_ => some k_ ≠ (v186 : Value).ownBlock) v182 t180) ∧ Aside0 (Kd.R Kd.string 9 w' w.heap.size (fun k_ => some k_ ≠ (v182 : Value).ownBlock) v186 t184) ∧ Aside0 (Below w.heap.size w w'))
              case atStart => exact ⟨(t185), (0), (by first | rfl | (simp; done) | (simp [*]; done)), (by first | rfl | (simp; done) | (simp [*]; done)), H', ⟨Nat.le_refl _⟩, ⟨by (with_reducible repeat (first | apply Kd.R_alloc | apply Kd.R_drewN | apply Kd.R_drew)); exact Kd.R_mono HO183.out (fun _ hk => hk.2)⟩, ⟨by (with_reducible repeat (first | apply Kd.R_alloc | apply Kd.R_drewN | apply Kd.R_drew)); exact Kd.R_mono HO187.out (fun _ hk => hk.2)⟩, ⟨by repeat (first | (with_reducible first | exact HB.out | apply below_alloc | apply pw_below_drewN | apply below_drew1) | exact HB.out)⟩⟩
              case round =>
                clear H'
                try clear c1
                try clear c2
                try clear p2
                try clear c5
                try clear c10
                try clear c11
                try clear c11b0
                try clear p2
                obtain ⟨x9_3, x10_3, rfl, rfl, HA, HK3, HO_6, HO_8, HB⟩ := hrel
                cases gk with
                | zero => exact absurd HA.out (by simp [rivuletref03_Covers.l1])
                | succ k3 =>
                  have H := HA.out
                  clear HA
                  simp only [rivuletref03_Covers.l1] at H
                  by_cases c16 : x10_3 < x5_2
                  · rw [if_pos c16] at H
                    have c16b0 : decide (x10_3 < x5_2) = true := decide_eq_true c16
                    clear c16
                    by_cases c17 : t181 = true
                    · subst c17
                      have H1 : (if x9_3 = true then (if 0 ≤ x10_3 then (if x10_3 < (t184.length : Int) then (if (rdOf ByteArray.empty t184 x10_3).toList = ([43] : List UInt8) then (rivuletref03_Covers.l1 k3 a0 a1 x5_2 t180 true t184 true (wrap64 (x10_3 + 1))) else (if x10_3 < (t180.length : Int) then (rivuletref03_Covers.l1 k3 a0 a1 x5_2 t180 true t184 ((rdOf ByteArray.empty t184 x10_3).toList == (rdOf ByteArray.empty t180 x10_3).toList) (wrap64 (x10_3 + 1))) else (none))) else (none)) else (none)) else (some false)) = some r := by rw [if_pos rfl] at H; exact H
                      clear H
                      have H := H1
                      clear H1
                      by_cases c18 : x9_3 = true
                      · subst c18
                        have H1 : (if 0 ≤ x10_3 then (if x10_3 < (t184.length : Int) then (if (rdOf ByteArray.empty t184 x10_3).toList = ([43] : List UInt8) then (rivuletref03_Covers.l1 k3 a0 a1 x5_2 t180 true t184 true (wrap64 (x10_3 + 1))) else (if x10_3 < (t180.length : Int) then (rivuletref03_Covers.l1 k3 a0 a1 x5_2 t180 true t184 ((rdOf ByteArray.empty t184 x10_3).toList == (rdOf ByteArray.empty t180 x10_3).toList) (wrap64 (x10_3 + 1))) else (none))) else (none)) else (none)) = some r := by rw [if_pos rfl] at H; exact H
                        clear H
                        have H := H1
                        clear H1
                        by_cases c19 : 0 ≤ x10_3
                        · rw [if_pos c19] at H
                          have c19b0 : decide (0 ≤ x10_3) = true := decide_eq_true c19
                          clear c19
                          by_cases c20 : x10_3 < (t184.length : Int)
                          · rw [if_pos c20] at H
                            have c20b0 : decide (x10_3 < (t184.length : Int)) = true := decide_eq_true c20
                            clear c20
                            by_cases c21 : (rdOf ByteArray.empty t184 x10_3).toList = ([43] : List UInt8)
                            · rw [if_pos c21] at H
                              have c21b0 : ((rdOf ByteArray.empty t184 x10_3).toList == ([43] : List UInt8)) = true := beq_iff_eq.mpr c21
                              have c21b1 : ((rdOf ByteArray.empty t184 x10_3).toList != ([43] : List UInt8)) = false := bne_eq_false_iff_eq.mpr c21
                              clear c21
                              have H' := Aside0.mk H
                              clear H
                              obtain ⟨Ao22, co22, eo22⟩ := Kd.R_slice HO_8.out
                              subst eo22
                              have p188 : 0 ≤ (x10_3 : Int) := of_decide_eq_true (by first | (with_reducible assumption) | assumption)
                              have q188 : x10_3 < (t184.length : Int) := of_decide_eq_true (by first | (with_reducible assumption) | assumption)
                              obtain ⟨ad188, e188, hx188_0⟩ := Kd.at_string (Kd.R_reads' HO_8.out).2.2 x10_3 p188 q188
                              cases e188
                              replace p188 := eq_true p188
                              replace q188 := eq_true q188
                              go_wp2
                              repeat (go_quiet (fail); try go_wp2)
                              go_roundg k3
                              case measure => have := HJ2.out; have := HK2.out; have := HK3.out; omega
                              case rel => exact ⟨(true), (wrap64 (x10_3 + 1)), (by first | rfl | (simp; done) | (simp [*]; done)), (by first | rfl | (simp; done) | (simp [*]; done)), H', ⟨by have := HJ2.out; have := HK2.out; have := HK3.out; omega⟩, ⟨by (with_reducible repeat (first | apply Kd.R_alloc | apply Kd.R_drewN | apply Kd.R_drew)); exact HO_6.out⟩, ⟨by (with_reducible repeat (first | apply Kd.R_alloc | apply Kd.R_drewN | apply Kd.R_drew)); exact HO_8.out⟩, ⟨by repeat (first | (with_reducible first | exact HB.out | apply below_alloc | apply pw_below_drewN | apply below_drew1) | exact HB.out)⟩⟩
                            · rw [if_neg c21] at H
                              have c21b0 : ((rdOf ByteArray.empty t184 x10_3).toList == ([43] : List UInt8)) = false := beq_eq_false_iff_ne.mpr c21
                              have c21b1 : ((rdOf ByteArray.empty t184 x10_3).toList != ([43] : List UInt8)) = true := bne_iff_ne.mpr c21
                              by_cases c23 : x10_3 < (t180.length : Int)
                              · rw [if_pos c23] at H
                                have c23b0 : decide (x10_3 < (t180.length : Int)) = true := decide_eq_true c23
                                clear c23
                                have H' := Aside0.mk H
                                clear H
                                obtain ⟨Ao24, co24, eo24⟩ := Kd.R_slice HO_8.out
                                subst eo24
                                have p188 : 0 ≤ (x10_3 : Int) := of_decide_eq_true (by first | (with_reducible assumption) | assumption)
                                have q188 : x10_3 < (t184.length : Int) := of_decide_eq_true (by first | (with_reducible assumption) | assumption)
                                obtain ⟨ad188, e188, hx188_0⟩ := Kd.at_string (Kd.R_reads' HO_8.out).2.2 x10_3 p188 q188
                                cases e188
                                replace p188 := eq_true p188
                                replace q188 := eq_true q188
                                have p189 : 0 ≤ (x10_3 : Int) := of_decide_eq_true (by first | (with_reducible assumption) | assumption)
                                have q189 : x10_3 < (t184.length : Int) := of_decide_eq_true (by first | (with_reducible assumption) | assumption)
                                obtain ⟨ad189, e189, hx189_0⟩ := Kd.at_string (Kd.R_reads' HO_8.out).2.2 x10_3 p189 q189
                                obtain rfl : ad188 = ad189 := (by injection e189)
                                replace p189 := eq_true p189
                                replace q189 := eq_true q189
                                obtain ⟨Ao25, co25, eo25⟩ := Kd.R_slice HO_6.out
                                subst eo25
                                have p190 : 0 ≤ (x10_3 : Int) := of_decide_eq_true (by first | (with_reducible assumption) | assumption)
                                have q190 : x10_3 < (t180.length : Int) := of_decide_eq_true (by first | (with_reducible assumption) | assumption)
                                obtain ⟨ad190, e190, hx190_0⟩ := Kd.at_string (Kd.R_reads' HO_6.out).2.2 x10_3 p190 q190
                                cases e190
                                replace p190 := eq_true p190
                                replace q190 := eq_true q190
                                go_wp2
                                repeat (go_quiet (fail); try go_wp2)
                                go_roundg k3
                                case measure => have := HJ2.out; have := HK2.out; have := HK3.out; omega
                                case rel => exact ⟨(((rdOf ByteArray.empty t184 x10_3).toList == (rdOf ByteArray.empty t180 x10_3).toList)), (wrap64 (x10_3 + 1)), (by first | rfl | (simp; done) | (simp [*]; done)), (by first | rfl | (simp; done) | (simp [*]; done)), H', ⟨by have := HJ2.out; have := HK2.out; have := HK3.out; omega⟩, ⟨by (with_reducible repeat (first | apply Kd.R_alloc | apply Kd.R_drewN | apply Kd.R_drew)); exact HO_6.out⟩, ⟨by (with_reducible repeat (first | apply Kd.R_alloc | apply Kd.R_drewN | apply Kd.R_drew)); exact HO_8.out⟩, ⟨by repeat (first | (with_reducible first | exact HB.out | apply below_alloc | apply pw_below_drewN | apply below_drew1) | exact HB.out)⟩⟩
                              · rw [if_neg c23] at H
                                exact absurd H (by simp)
                          · rw [if_neg c20] at H
                            exact absurd H (by simp)
                        · rw [if_neg c19] at H
                          exact absurd H (by simp)
                      · replace c18 := Bool.eq_false_iff.mpr c18
                        subst c18
                        have H1 : (some false) = some r := by rw [if_neg (show ¬ (false = true) by decide)] at H; exact H
                        clear H
                        have H := H1
                        clear H1
                        obtain rfl := Option.some.inj H
                        go_wp2
                        repeat (go_quiet (fail); try go_wp2)
                        go_ret
                        exact ⟨by first | rfl | (simp [errW_none, errW_some] <;> rfl) | (simp [*, errW_none, errW_some] <;> rfl), by repeat (first | (with_reducible first | exact HB.out | apply below_alloc | apply pw_below_drewN | apply below_drew1) | exact HB.out)⟩
                    · replace c17 := Bool.eq_false_iff.mpr c17
                      subst c17
                      have H1 : (rivuletref03_Covers.l0 k3 a0 a1 (wrap64 (x5_2 + 1))) = some r := by rw [if_neg (show ¬ (false = true) by decide)] at H; exact H
                      clear H
                      have H := H1
                      clear H1
                      have H' := Aside0.mk H
                      clear H
                      go_wp2
                      repeat (go_quiet (fail); try go_wp2)
                      go_roundg k3
                      case measure => have := HJ2.out; have := HK2.out; have := HK3.out; omega
                      case rel => exact ⟨(wrap64 (x5_2 + 1)), (by first | rfl | (simp; done) | (simp [*]; done)), H', ⟨by have := HJ2.out; have := HK2.out; have := HK3.out; omega⟩, ⟨by repeat (first | (with_reducible first | exact HB.out | apply below_alloc | apply pw_below_drewN | apply below_drew1) | exact HB.out)⟩⟩
                  · rw [if_neg c16] at H
                    have c16b0 : decide (x10_3 < x5_2) = false := decide_eq_false c16
                    clear c16
                    by_cases c26 : t181 = true
                    · subst c26
                      have H1 : (if x9_3 = true then (rivuletref03_Covers.l0 k3 a0 a1 (wrap64 (x5_2 + 1))) else (some false)) = some r := by rw [if_pos rfl] at H; exact H
                      clear H
                      have H := H1
                      clear H1
                      by_cases c27 : x9_3 = true
                      · subst c27
                        have H1 : (rivuletref03_Covers.l0 k3 a0 a1 (wrap64 (x5_2 + 1))) = some r := by rw [if_pos rfl] at H; exact H
                        clear H
                        have H := H1
                        clear H1
                        have H' := Aside0.mk H
                        clear H
                        go_wp2
                        repeat (go_quiet (fail); try go_wp2)
                        go_roundg k3
                        case measure => have := HJ2.out; have := HK2.out; have := HK3.out; omega
                        case rel => exact ⟨(wrap64 (x5_2 + 1)), (by first | rfl | (simp; done) | (simp [*]; done)), H', ⟨by have := HJ2.out; have := HK2.out; have := HK3.out; omega⟩, ⟨by repeat (first | (with_reducible first | exact HB.out | apply below_alloc | apply pw_below_drewN | apply below_drew1) | exact HB.out)⟩⟩
                      · replace c27 := Bool.eq_false_iff.mpr c27
                        subst c27
                        have H1 : (some false) = some r := by rw [if_neg (show ¬ (false = true) by decide)] at H; exact H
                        clear H
                        have H := H1
                        clear H1
                        obtain rfl := Option.some.inj H
                        go_wp2
                        repeat (go_quiet (fail); try go_wp2)
                        go_ret
                        exact ⟨by first | rfl | (simp [errW_none, errW_some] <;> rfl) | (simp [*, errW_none, errW_some] <;> rfl), by repeat (first | (with_reducible first | exact HB.out | apply below_alloc | apply pw_below_drewN | apply below_drew1) | exact HB.out)⟩
                    · replace c26 := Bool.eq_false_iff.mpr c26
                      subst c26
                      have H1 : (rivuletref03_Covers.l0 k3 a0 a1 (wrap64 (x5_2 + 1))) = some r := by rw [if_neg (show ¬ (false = true) by decide)] at H; exact H
                      clear H
                      have H := H1
                      clear H1
                      have H' := Aside0.mk H
                      clear H
                      go_wp2
                      repeat (go_quiet (fail); try go_wp2)
                      go_roundg k3
                      case measure => have := HJ2.out; have := HK2.out; have := HK3.out; omega
                      case rel => exact ⟨(wrap64 (x5_2 + 1)), (by first | rfl | (simp; done) | (simp [*]; done)), H', ⟨by have := HJ2.out; have := HK2.out; have := HK3.out; omega⟩, ⟨by repeat (first | (with_reducible first | exact HB.out | apply below_alloc | apply pw_below_drewN | apply below_drew1) | exact HB.out)⟩⟩
            · rw [if_neg c11] at H
              have c11b0 : decide (x5_2 ≤ 8) = false := decide_eq_false c11
              clear c11
              obtain rfl := Option.some.inj H
              go_wp2
              repeat (go_quiet (fail); try go_wp2)
              go_ret
              exact ⟨by first | rfl | (simp [errW_none, errW_some] <;> rfl) | (simp [*, errW_none, errW_some] <;> rfl), by repeat (first | (with_reducible first | exact HB.out | apply below_alloc | apply pw_below_drewN | apply below_drew1) | exact HB.out)⟩

end Go.Proofs.YtfakimleoihfgaaDoor.Pr
