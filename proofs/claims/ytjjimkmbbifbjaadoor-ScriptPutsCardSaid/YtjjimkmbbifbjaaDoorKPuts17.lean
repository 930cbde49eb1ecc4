import Derived.Test.YtjjimkmbbifbjaaDoorKPuts13
section
namespace Go.Proofs.YtjjimkmbbifbjaaDoor.Pv
open Go.RowKit Go.Proofs.YtjjimkmbbifbjaaDoorW.PrintWords Go.Proofs.YtjjimkmbbifbjaaDoorW.PrintLast Go.Proofs.YtjjimkmbbifbjaaDoorW.PrintMore
attribute [local go_sem] max2_int min2_int max_two min_two max_three min_three max_four min_four
set_option linter.unusedVariables false
set_option linter.unusedSimpArgs false
def rivuletref03_Levels.l0 : Nat → ByteArray → List ByteArray → Int → Int → Option (List ByteArray)
 | 0, _, _, _, _ => none
 | k + 1, x0, x3, x4, x5 => if x5 < (x0.size : Int) then (if 0 ≤ x5 then (if (bt x0 x5) = 47 then (if 0 ≤ x4 then (if x4 ≤ x5 then (if x5 ≤ (x0.size : Int) then (if x3.length < 8796093022208 then (rivuletref03_Levels.l0 k x0 (x3 ++ [x0.extract (x4 : Int).toNat (x5 : Int).toNat]) (wrap64 (x5 + 1)) (wrap64 (x5 + 1))) else (none)) else (none)) else (none)) else (none)) else (rivuletref03_Levels.l0 k x0 x3 x4 (wrap64 (x5 + 1)))) else (none)) else (if 0 ≤ x4 then (if x4 ≤ (x0.size : Int) then (if x3.length < 8796093022208 then (some (x3 ++ [x0.extract (x4 : Int).toNat x0.size])) else (none)) else (none)) else (none))
def rivuletref03_Levels.f (k : Nat) (a0 : ByteArray) : Option (List ByteArray) := rivuletref03_Levels.l0 k a0 (([] : List ByteArray)) 0 0
set_option maxHeartbeats 8000000 in
set_option maxRecDepth 100000 in
theorem rivuletref03_Levels.calls (k : Nat) (a0 : ByteArray) (r : List ByteArray) (w : World) (h : rivuletref03_Levels.f k a0 = some r) :
  Calls Tryd.prog 61 #[.string a0] w fun e w' => ∃ v0_ : Value, e = .returned (v0_) ∧ Kd.R Kd.string 9 w' w.heap.size (fun _ => True) v0_ r ∧ Below w.heap.size w w' := by
 have HB := Aside0.mk (Below.refl w.heap.size w)
 have H : (rivuletref03_Levels.l0 k a0 (([] : List ByteArray)) 0 0) = some r := h
 clear h
 obtain ⟨y145, hy145⟩ : ∃ y_ : List ByteArray, y_ = (([] : List ByteArray)) := ⟨_, rfl⟩
 replace H : (rivuletref03_Levels.l0 k a0 y145 0 0) = some r := by first | (rw [hy145]; with_reducible exact H) | (have H2_ := (Option.bind_some _ _).symm.trans H; rw [hy145]; with_reducible exact H2_) | (have H2_ := (Option.bind_some _ _).symm.trans H; with_reducible exact H2_) | with_reducible exact H | (rw [hy145]; exact H) | exact H
 have Ny145 := Aside0.mk hy145
 clear hy145
 have H' := Aside0.mk H
 clear H
 go_enter Tryd.func61, Tryd.ntmps61
 go_wp2_with (first | ((with_reducible refine gate_dst (N := 6) rfl ?_); refine Kd.R_lit Kd.string _ 9 ?hg (N := 6) ?hd (xs := ([] : List ByteArray)) (inner := []) (ok := fun _ => True) (okp := fun _ => True) ?hr ?hp (fun _ hk => hk) trivial (Below.refl _ _) (Nat.le_refl _) (by simp) ?_; (case hd => rfl); (case hg => rfl); (case hr => first | (go_simp; done) | (go_simp; rfl)); (case hp => exact (Reps.none _ _)); intro v146 w2 ho3 hb hg_ hnew_; clear hg_ hnew_; (first | rw [← Ny145.out] at ho3 | (simp only [Int.reduceToNat] at ho3; rw [← Ny145.out] at ho3)); have n0_ := Aside0.mk (Kd.R_lower ho3 (below_size (by repeat (first | (with_reducible first | exact HB.out | apply below_alloc | apply pw_below_drewN | apply below_drew1) | exact HB.out)))); have n1_ := Aside0.mk (below_step (by repeat (first | (with_reducible first | exact HB.out | apply below_alloc | apply pw_below_drewN | apply below_drew1) | exact HB.out)) hb); clear HB; have HO147 := n0_; have HB := n1_; clear n0_ n1_; clear hb ho3))
 go_loopg [3, 4, 5] k (fun kq v3 v4 v5 w' => ∃ (x3_1 : List ByteArray) (x4_1 : Int) (x5_1 : Int), v4 = .int .i64 x4_1 ∧ v5 = .int .i64 x5_1 ∧ Aside0 (rivuletref03_Levels.l0 kq a0 x3_1 x4_1 x5_1 = some r) ∧ Aside0 (kq ≤ k) ∧ Aside0 (Kd.R Kd.string 9 w' w.heap.size (fun _ => True) v3 x3_1) ∧ Aside0 (Below w.heap.size w w'))
 case atStart => exact ⟨(y145), (0), (0), (by first | rfl | (simp; done) | (simp [*]; done)), (by first | rfl | (simp; done) | (simp [*]; done)), H', ⟨Nat.le_refl _⟩, ⟨by (with_reducible repeat (first | apply Kd.R_alloc | apply Kd.R_drewN | apply Kd.R_drew)); exact HO147.out⟩, ⟨by repeat (first | (with_reducible first | exact HB.out | apply below_alloc | apply pw_below_drewN | apply below_drew1) | exact HB.out)⟩⟩
 case round =>
  clear H'
  try clear p2
  obtain ⟨x3_1, x4_1, x5_1, rfl, rfl, HA, HK1, HO_3, HB⟩ := hrel
  cases gk with
  | zero => exact absurd HA.out (by simp [rivuletref03_Levels.l0])
  | succ k1 =>
   have H := HA.out
   clear HA
   simp only [rivuletref03_Levels.l0] at H
   by_cases c4 : x5_1 < (a0.size : Int)
   ·rw [if_pos c4] at H
    have c4b0 : decide (x5_1 < (a0.size : Int)) = true := decide_eq_true c4
    clear c4
    by_cases c5 : 0 ≤ x5_1
    ·rw [if_pos c5] at H
     have c5b0 : decide (0 ≤ x5_1) = true := decide_eq_true c5
     clear c5
     by_cases c7 : (bt a0 x5_1) = 47
     ·rw [if_pos c7] at H
      have c7b0 : ((bt a0 x5_1) == 47) = true := beq_iff_eq.mpr c7
      have c7b1 : ((bt a0 x5_1) != 47) = false := bne_eq_false_iff_eq.mpr c7
      clear c7
      by_cases c8 : 0 ≤ x4_1
      ·rw [if_pos c8] at H
       have c8b0 := eq_true c8
       have c8b1 : decide (0 ≤ x4_1) = true := decide_eq_true c8
       clear c8
       by_cases c9 : x4_1 ≤ x5_1
       ·rw [if_pos c9] at H
        have c9b0 := eq_true c9
        have c9b1 : decide (x4_1 ≤ x5_1) = true := decide_eq_true c9
        clear c9
        by_cases c10 : x5_1 ≤ (a0.size : Int)
        ·rw [if_pos c10] at H
         have c10b0 := eq_true c10
         have c10b1 : decide (x5_1 ≤ (a0.size : Int)) = true := decide_eq_true c10
         clear c10
         by_cases c11 : x3_1.length < 8796093022208
         ·rw [if_pos c11] at H
          have LMc11 := Aside0.mk c11
          clear c11
          obtain ⟨y148, hy148⟩ : ∃ y_ : List ByteArray, y_ = (x3_1 ++ [a0.extract (x4_1 : Int).toNat (x5_1 : Int).toNat]) := ⟨_, rfl⟩
          replace H : (rivuletref03_Levels.l0 k1 a0 y148 (wrap64 (x5_1 + 1)) (wrap64 (x5_1 + 1))) = some r := by first | (rw [hy148]; with_reducible exact H) | (have H2_ := (Option.bind_some _ _).symm.trans H; rw [hy148]; with_reducible exact H2_) | (have H2_ := (Option.bind_some _ _).symm.trans H; with_reducible exact H2_) | with_reducible exact H | (rw [hy148]; exact H) | exact H
          have Ny148 := Aside0.mk hy148
          clear hy148
          have H' := Aside0.mk H
          clear H
          have p6 : 0 ≤ (x5_1 : Int) := of_decide_eq_true (by first | (with_reducible assumption) | assumption)
          have q6 : x5_1 < (a0.size : Int) := of_decide_eq_true (by first | (with_reducible assumption) | assumption)
          have hx6 := bt_at a0 x5_1
          replace p6 := eq_true p6
          replace q6 := eq_true q6
          go_wp2_with (first | ((with_reducible refine gate_builtin (b := .append) (xs := #[.tmp 17, .tmp 22]) rfl ?_); at_builtin; refine Kd.R_append Kd.string (w0 := w) w.heap.size rfl (.tmp 17) (.tmp 22) 57 9 (.string ⟨#[]⟩) 16 rfl Tryd.underlying57 info9 rfl (by decide) (by omega) u3 x3_1 (a0.extract (x4_1 : Int).toNat (x5_1 : Int).toNat) [.string (a0.extract (x4_1 : Int).toNat (x5_1 : Int).toNat)] (fun _ => True) (fun _ => False) rfl rfl ?aP (fun _ hk => hk.elim) ?aF ?aO ?aB ?aS ?aL ?_; (case aP => exact rfl); (case aB => exact (by repeat (first | (with_reducible first | exact HB.out | apply below_alloc | apply pw_below_drewN | apply below_drew1) | exact HB.out))); (case aF => exact (fun _ _ => trivial)); (case aO => exact (by (with_reducible repeat (first | apply Kd.R_alloc | apply Kd.R_drewN | apply Kd.R_drew)); exact HO_3.out)); (case aS => exact (below_size (by repeat (first | (with_reducible first | exact HB.out | apply below_alloc | apply pw_below_drewN | apply below_drew1) | exact HB.out)))); (case aL => have := LMc11.out; omega); intro v149 w12 ho hb hg hat; rw [← Ny148.out] at ho; have n0_ := Aside0.mk (hb); have n1_ := Aside0.mk (ho); clear HB; clear HO_3; have HB := n0_; have HO150 := n1_; clear n0_ n1_; clear ho hb hg hat))
          go_roundg k1
          case measure => have := HK1.out; omega
          case rel => exact ⟨(y148), (wrap64 (x5_1 + 1)), (wrap64 (x5_1 + 1)), (by first | rfl | (simp; done) | (simp [*]; done)), (by first | rfl | (simp; done) | (simp [*]; done)), H', ⟨by have := HK1.out; omega⟩, ⟨by (with_reducible repeat (first | apply Kd.R_alloc | apply Kd.R_drewN | apply Kd.R_drew)); exact HO150.out⟩, ⟨by repeat (first | (with_reducible first | exact HB.out | apply below_alloc | apply pw_below_drewN | apply below_drew1) | exact HB.out)⟩⟩
         ·rw [if_neg c11] at H
          exact absurd H (by simp)
        ·rw [if_neg c10] at H
         exact absurd H (by simp)
       ·rw [if_neg c9] at H
        exact absurd H (by simp)
      ·rw [if_neg c8] at H
       exact absurd H (by simp)
     ·rw [if_neg c7] at H
      have c7b0 : ((bt a0 x5_1) == 47) = false := beq_eq_false_iff_ne.mpr c7
      have c7b1 : ((bt a0 x5_1) != 47) = true := bne_iff_ne.mpr c7
      have H' := Aside0.mk H
      clear H
      have p6 : 0 ≤ (x5_1 : Int) := of_decide_eq_true (by first | (with_reducible assumption) | assumption)
      have q6 : x5_1 < (a0.size : Int) := of_decide_eq_true (by first | (with_reducible assumption) | assumption)
      have hx6 := bt_at a0 x5_1
      replace p6 := eq_true p6
      replace q6 := eq_true q6
      go_wp2
      go_roundg k1
      case measure => have := HK1.out; omega
      case rel => exact ⟨(x3_1), (x4_1), (wrap64 (x5_1 + 1)), (by first | rfl | (simp; done) | (simp [*]; done)), (by first | rfl | (simp; done) | (simp [*]; done)), H', ⟨by have := HK1.out; omega⟩, ⟨by (with_reducible repeat (first | apply Kd.R_alloc | apply Kd.R_drewN | apply Kd.R_drew)); exact HO_3.out⟩, ⟨by repeat (first | (with_reducible first | exact HB.out | apply below_alloc | apply pw_below_drewN | apply below_drew1) | exact HB.out)⟩⟩
    ·rw [if_neg c5] at H
     exact absurd H (by simp)
   ·rw [if_neg c4] at H
    have c4b0 : decide (x5_1 < (a0.size : Int)) = false := decide_eq_false c4
    clear c4
    by_cases c13 : 0 ≤ x4_1
    ·rw [if_pos c13] at H
     have c13b0 := eq_true c13
     have c13b1 : decide (0 ≤ x4_1) = true := decide_eq_true c13
     clear c13
     by_cases c14 : x4_1 ≤ (a0.size : Int)
     ·rw [if_pos c14] at H
      have c14b0 := eq_true c14
      have c14b1 : decide (x4_1 ≤ (a0.size : Int)) = true := decide_eq_true c14
      clear c14
      by_cases c15 : x3_1.length < 8796093022208
      ·rw [if_pos c15] at H
       have LMc15 := Aside0.mk c15
       clear c15
       obtain ⟨y151, hy151⟩ : ∃ y_ : List ByteArray, y_ = (x3_1 ++ [a0.extract (x4_1 : Int).toNat a0.size]) := ⟨_, rfl⟩
       replace H : (some y151) = some r := by first | (rw [hy151]; with_reducible exact H) | (have H2_ := (Option.bind_some _ _).symm.trans H; rw [hy151]; with_reducible exact H2_) | (have H2_ := (Option.bind_some _ _).symm.trans H; with_reducible exact H2_) | with_reducible exact H | (rw [hy151]; exact H) | exact H
       have Ny151 := Aside0.mk hy151
       clear hy151
       obtain rfl := Option.some.inj H
       go_wp2_with (first | ((with_reducible refine gate_builtin (b := .append) (xs := #[.tmp 26, .tmp 30]) rfl ?_); at_builtin; refine Kd.R_append Kd.string (w0 := w) w.heap.size rfl (.tmp 26) (.tmp 30) 57 9 (.string ⟨#[]⟩) 16 rfl Tryd.underlying57 info9 rfl (by decide) (by omega) u3 x3_1 (a0.extract (x4_1 : Int).toNat a0.size) [.string (a0.extract (x4_1 : Int).toNat a0.size)] (fun _ => True) (fun _ => False) rfl rfl ?aP (fun _ hk => hk.elim) ?aF ?aO ?aB ?aS ?aL ?_; (case aP => exact rfl); (case aB => exact (by repeat (first | (with_reducible first | exact HB.out | apply below_alloc | apply pw_below_drewN | apply below_drew1) | exact HB.out))); (case aF => exact (fun _ _ => trivial)); (case aO => exact (by (with_reducible repeat (first | apply Kd.R_alloc | apply Kd.R_drewN | apply Kd.R_drew)); exact HO_3.out)); (case aS => exact (below_size (by repeat (first | (with_reducible first | exact HB.out | apply below_alloc | apply pw_below_drewN | apply below_drew1) | exact HB.out)))); (case aL => have := LMc15.out; omega); intro v152 w16 ho hb hg hat; rw [← Ny151.out] at ho; have n0_ := Aside0.mk (hb); have n1_ := Aside0.mk (ho); clear HB; clear HO_3; have HB := n0_; have HO153 := n1_; clear n0_ n1_; clear ho hb hg hat))
       go_ret
       exact ⟨_, by first | rfl | (simp [errW_none, errW_some] <;> rfl) | (simp [*, errW_none, errW_some] <;> rfl), by (with_reducible repeat (first | apply Kd.R_alloc | apply Kd.R_drewN | apply Kd.R_drew)); exact HO153.out, by repeat (first | (with_reducible first | exact HB.out | apply below_alloc | apply pw_below_drewN | apply below_drew1) | exact HB.out)⟩
      ·rw [if_neg c15] at H
       exact absurd H (by simp)
     ·rw [if_neg c14] at H
      exact absurd H (by simp)
    ·rw [if_neg c13] at H
     exact absurd H (by simp)
def rivuletref03_Name.l0 : Nat → ByteArray → Int → Option (Bool)
 | 0, _, _ => none
 | k + 1, x0, x3 => if x3 < (x0.size : Int) then (if 0 ≤ x3 then (if (bt x0 x3) ≥ 97 then (if (bt x0 x3) ≤ 122 then (rivuletref03_Name.l0 k x0 (wrap64 (x3 + 1))) else (if (bt x0 x3) ≥ 48 then (if (bt x0 x3) ≤ 57 then (rivuletref03_Name.l0 k x0 (wrap64 (x3 + 1))) else (if (bt x0 x3) = 45 then (rivuletref03_Name.l0 k x0 (wrap64 (x3 + 1))) else (if ((bt x0 x3) = 95) then (rivuletref03_Name.l0 k x0 (wrap64 (x3 + 1))) else (some false)))) else (if (bt x0 x3) = 45 then (rivuletref03_Name.l0 k x0 (wrap64 (x3 + 1))) else (if ((bt x0 x3) = 95) then (rivuletref03_Name.l0 k x0 (wrap64 (x3 + 1))) else (some false))))) else (if (bt x0 x3) ≥ 48 then (if (bt x0 x3) ≤ 57 then (rivuletref03_Name.l0 k x0 (wrap64 (x3 + 1))) else (if (bt x0 x3) = 45 then (rivuletref03_Name.l0 k x0 (wrap64 (x3 + 1))) else (if ((bt x0 x3) = 95) then (rivuletref03_Name.l0 k x0 (wrap64 (x3 + 1))) else (some false)))) else (if (bt x0 x3) = 45 then (rivuletref03_Name.l0 k x0 (wrap64 (x3 + 1))) else (if ((bt x0 x3) = 95) then (rivuletref03_Name.l0 k x0 (wrap64 (x3 + 1))) else (some false))))) else (none)) else (if (x0.size : Int) ≥ 1 then (some (decide ((x0.size : Int) ≤ 16))) else (some false))
def rivuletref03_Name.f (k : Nat) (a0 : ByteArray) : Option (Bool) := rivuletref03_Name.l0 k a0 0
set_option maxHeartbeats 8000000 in
set_option maxRecDepth 100000 in
theorem rivuletref03_Name.calls (k : Nat) (a0 : ByteArray) (r : Bool) (w : World) (h : rivuletref03_Name.f k a0 = some r) :
  Calls Tryd.prog 62 #[.string a0] w fun e w' => e = .returned (.bool r) ∧ Drawn0 w w' := by
 have H : (rivuletref03_Name.l0 k a0 0) = some r := h
 clear h
 have H' := Aside0.mk H
 clear H
 go_enter Tryd.func62, Tryd.ntmps62
 go_wp2
 go_loopg [3] k (fun kq v3 w' => ∃ (x3_1 : Int), v3 = .int .i64 x3_1 ∧ Aside0 (rivuletref03_Name.l0 kq a0 x3_1 = some r) ∧ Aside0 (kq ≤ k) ∧ Drawn0 w w')
 case atStart => exact ⟨(0), (by first | rfl | (simp; done) | (simp [*]; done)), H', ⟨Nat.le_refl _⟩, by repeat (first | exact Drawn0.refl _ | apply Drawn0.step)⟩
 case round =>
  clear H'
  obtain ⟨x3_1, rfl, HA, HK1, ⟨m1, rfl⟩⟩ := hrel
  cases gk with
  | zero => exact absurd HA.out (by simp [rivuletref03_Name.l0])
  | succ k1 =>
   have H := HA.out
   clear HA
   simp only [rivuletref03_Name.l0] at H
   by_cases c2 : x3_1 < (a0.size : Int)
   ·rw [if_pos c2] at H
    have c2b0 : decide (x3_1 < (a0.size : Int)) = true := decide_eq_true c2
    clear c2
    by_cases c3 : 0 ≤ x3_1
    ·rw [if_pos c3] at H
     have c3b0 : decide (0 ≤ x3_1) = true := decide_eq_true c3
     clear c3
     by_cases c5 : (bt a0 x3_1) ≥ 97
     ·rw [if_pos c5] at H
      have c5b0 : decide (97 ≤ (bt a0 x3_1)) = true := decide_eq_true c5
      clear c5
      by_cases c6 : (bt a0 x3_1) ≤ 122
      ·rw [if_pos c6] at H
       have c6b0 : decide ((bt a0 x3_1) ≤ 122) = true := decide_eq_true c6
       clear c6
       have H' := Aside0.mk H
       clear H
       have p4 : 0 ≤ (x3_1 : Int) := of_decide_eq_true (by first | (with_reducible assumption) | assumption)
       have q4 : x3_1 < (a0.size : Int) := of_decide_eq_true (by first | (with_reducible assumption) | assumption)
       have hx4 := bt_at a0 x3_1
       replace p4 := eq_true p4
       replace q4 := eq_true q4
       go_wp2
       go_roundg k1
       case measure => have := HK1.out; omega
       case rel => exact ⟨(wrap64 (x3_1 + 1)), (by first | rfl | (simp; done) | (simp [*]; done)), H', ⟨by have := HK1.out; omega⟩, by repeat (first | exact Drawn0.refl _ | apply Drawn0.step)⟩
      ·rw [if_neg c6] at H
       have c6b0 : decide ((bt a0 x3_1) ≤ 122) = false := decide_eq_false c6
       clear c6
       by_cases c7 : (bt a0 x3_1) ≥ 48
       ·rw [if_pos c7] at H
        have c7b0 : decide (48 ≤ (bt a0 x3_1)) = true := decide_eq_true c7
        clear c7
        by_cases c8 : (bt a0 x3_1) ≤ 57
        ·rw [if_pos c8] at H
         have c8b0 : decide ((bt a0 x3_1) ≤ 57) = true := decide_eq_true c8
         clear c8
         have H' := Aside0.mk H
         clear H
         have p4 : 0 ≤ (x3_1 : Int) := of_decide_eq_true (by first | (with_reducible assumption) | assumption)
         have q4 : x3_1 < (a0.size : Int) := of_decide_eq_true (by first | (with_reducible assumption) | assumption)
         have hx4 := bt_at a0 x3_1
         replace p4 := eq_true p4
         replace q4 := eq_true q4
         go_wp2
         go_roundg k1
         case measure => have := HK1.out; omega
         case rel => exact ⟨(wrap64 (x3_1 + 1)), (by first | rfl | (simp; done) | (simp [*]; done)), H', ⟨by have := HK1.out; omega⟩, by repeat (first | exact Drawn0.refl _ | apply Drawn0.step)⟩
        ·rw [if_neg c8] at H
         have c8b0 : decide ((bt a0 x3_1) ≤ 57) = false := decide_eq_false c8
         clear c8
         by_cases c9 : (bt a0 x3_1) = 45
         ·rw [if_pos c9] at H
          have c9b0 : ((bt a0 x3_1) == 45) = true := beq_iff_eq.mpr c9
          have c9b1 : ((bt a0 x3_1) != 45) = false := bne_eq_false_iff_eq.mpr c9
          clear c9
          have H' := Aside0.mk H
          clear H
          have p4 : 0 ≤ (x3_1 : Int) := of_decide_eq_true (by first | (with_reducible assumption) | assumption)
          have q4 : x3_1 < (a0.size : Int) := of_decide_eq_true (by first | (with_reducible assumption) | assumption)
          have hx4 := bt_at a0 x3_1
          replace p4 := eq_true p4
          replace q4 := eq_true q4
          go_wp2
          go_roundg k1
          case measure => have := HK1.out; omega
          case rel => exact ⟨(wrap64 (x3_1 + 1)), (by first | rfl | (simp; done) | (simp [*]; done)), H', ⟨by have := HK1.out; omega⟩, by repeat (first | exact Drawn0.refl _ | apply Drawn0.step)⟩
         ·rw [if_neg c9] at H
          have c9b0 : ((bt a0 x3_1) == 45) = false := beq_eq_false_iff_ne.mpr c9
          have c9b1 : ((bt a0 x3_1) != 45) = true := bne_iff_ne.mpr c9
          by_cases c10 : ((bt a0 x3_1) = 95)
          ·rw [if_pos c10] at H
           have c10b0 : ((bt a0 x3_1) == 95) = true := beq_iff_eq.mpr c10
           have c10b1 : ((bt a0 x3_1) != 95) = false := bne_eq_false_iff_eq.mpr c10
           clear c10
           have H' := Aside0.mk H
           clear H
           have p4 : 0 ≤ (x3_1 : Int) := of_decide_eq_true (by first | (with_reducible assumption) | assumption)
           have q4 : x3_1 < (a0.size : Int) := of_decide_eq_true (by first | (with_reducible assumption) | assumption)
           have hx4 := bt_at a0 x3_1
           replace p4 := eq_true p4
           replace q4 := eq_true q4
           go_wp2
           go_roundg k1
           case measure => have := HK1.out; omega
           case rel => exact ⟨(wrap64 (x3_1 + 1)), (by first | rfl | (simp; done) | (simp [*]; done)), H', ⟨by have := HK1.out; omega⟩, by repeat (first | exact Drawn0.refl _ | apply Drawn0.step)⟩
          ·rw [if_neg c10] at H
           have c10b0 : ((bt a0 x3_1) == 95) = false := beq_eq_false_iff_ne.mpr c10
           have c10b1 : ((bt a0 x3_1) != 95) = true := bne_iff_ne.mpr c10
           obtain rfl := Option.some.inj H
           have p4 : 0 ≤ (x3_1 : Int) := of_decide_eq_true (by first | (with_reducible assumption) | assumption)
           have q4 : x3_1 < (a0.size : Int) := of_decide_eq_true (by first | (with_reducible assumption) | assumption)
           have hx4 := bt_at a0 x3_1
           replace p4 := eq_true p4
           replace q4 := eq_true q4
           go_wp2
           go_ret
           exact ⟨by first | rfl | (simp; done) | (simp [*]; done), by repeat (first | exact Drawn0.refl _ | apply Drawn0.step)⟩
       ·rw [if_neg c7] at H
        have c7b0 : decide (48 ≤ (bt a0 x3_1)) = false := decide_eq_false c7
        clear c7
        by_cases c11 : (bt a0 x3_1) = 45
        ·rw [if_pos c11] at H
         have c11b0 : ((bt a0 x3_1) == 45) = true := beq_iff_eq.mpr c11
         have c11b1 : ((bt a0 x3_1) != 45) = false := bne_eq_false_iff_eq.mpr c11
         clear c11
         have H' := Aside0.mk H
         clear H
         have p4 : 0 ≤ (x3_1 : Int) := of_decide_eq_true (by first | (with_reducible assumption) | assumption)
         have q4 : x3_1 < (a0.size : Int) := of_decide_eq_true (by first | (with_reducible assumption) | assumption)
         have hx4 := bt_at a0 x3_1
         replace p4 := eq_true p4
         replace q4 := eq_true q4
         go_wp2
         go_roundg k1
         case measure => have := HK1.out; omega
         case rel => exact ⟨(wrap64 (x3_1 + 1)), (by first | rfl | (simp; done) | (simp [*]; done)), H', ⟨by have := HK1.out; omega⟩, by repeat (first | exact Drawn0.refl _ | apply Drawn0.step)⟩
        ·rw [if_neg c11] at H
         have c11b0 : ((bt a0 x3_1) == 45) = false := beq_eq_false_iff_ne.mpr c11
         have c11b1 : ((bt a0 x3_1) != 45) = true := bne_iff_ne.mpr c11
         by_cases c12 : ((bt a0 x3_1) = 95)
         ·rw [if_pos c12] at H
          have c12b0 : ((bt a0 x3_1) == 95) = true := beq_iff_eq.mpr c12
          have c12b1 : ((bt a0 x3_1) != 95) = false := bne_eq_false_iff_eq.mpr c12
          clear c12
          have H' := Aside0.mk H
          clear H
          have p4 : 0 ≤ (x3_1 : Int) := of_decide_eq_true (by first | (with_reducible assumption) | assumption)
          have q4 : x3_1 < (a0.size : Int) := of_decide_eq_true (by first | (with_reducible assumption) | assumption)
          have hx4 := bt_at a0 x3_1
          replace p4 := eq_true p4
          replace q4 := eq_true q4
          go_wp2
          go_roundg k1
          case measure => have := HK1.out; omega
          case rel => exact ⟨(wrap64 (x3_1 + 1)), (by first | rfl | (simp; done) | (simp [*]; done)), H', ⟨by have := HK1.out; omega⟩, by repeat (first | exact Drawn0.refl _ | apply Drawn0.step)⟩
         ·rw [if_neg c12] at H
          have c12b0 : ((bt a0 x3_1) == 95) = false := beq_eq_false_iff_ne.mpr c12
          have c12b1 : ((bt a0 x3_1) != 95) = true := bne_iff_ne.mpr c12
          obtain rfl := Option.some.inj H
          have p4 : 0 ≤ (x3_1 : Int) := of_decide_eq_true (by first | (with_reducible assumption) | assumption)
          have q4 : x3_1 < (a0.size : Int) := of_decide_eq_true (by first | (with_reducible assumption) | assumption)
          have hx4 := bt_at a0 x3_1
          replace p4 := eq_true p4
          replace q4 := eq_true q4
          go_wp2
          go_ret
          exact ⟨by first | rfl | (simp; done) | (simp [*]; done), by repeat (first | exact Drawn0.refl _ | apply Drawn0.step)⟩
     ·rw [if_neg c5] at H
      have c5b0 : decide (97 ≤ (bt a0 x3_1)) = false := decide_eq_false c5
      clear c5
      by_cases c13 : (bt a0 x3_1) ≥ 48
      ·rw [if_pos c13] at H
       have c13b0 : decide (48 ≤ (bt a0 x3_1)) = true := decide_eq_true c13
       clear c13
       by_cases c14 : (bt a0 x3_1) ≤ 57
       ·rw [if_pos c14] at H
        have c14b0 : decide ((bt a0 x3_1) ≤ 57) = true := decide_eq_true c14
        clear c14
        have H' := Aside0.mk H
        clear H
        have p4 : 0 ≤ (x3_1 : Int) := of_decide_eq_true (by first | (with_reducible assumption) | assumption)
        have q4 : x3_1 < (a0.size : Int) := of_decide_eq_true (by first | (with_reducible assumption) | assumption)
        have hx4 := bt_at a0 x3_1
        replace p4 := eq_true p4
        replace q4 := eq_true q4
        go_wp2
        go_roundg k1
        case measure => have := HK1.out; omega
        case rel => exact ⟨(wrap64 (x3_1 + 1)), (by first | rfl | (simp; done) | (simp [*]; done)), H', ⟨by have := HK1.out; omega⟩, by repeat (first | exact Drawn0.refl _ | apply Drawn0.step)⟩
       ·rw [if_neg c14] at H
        have c14b0 : decide ((bt a0 x3_1) ≤ 57) = false := decide_eq_false c14
        clear c14
        by_cases c15 : (bt a0 x3_1) = 45
        ·rw [if_pos c15] at H
         have c15b0 : ((bt a0 x3_1) == 45) = true := beq_iff_eq.mpr c15
         have c15b1 : ((bt a0 x3_1) != 45) = false := bne_eq_false_iff_eq.mpr c15
         clear c15
         have H' := Aside0.mk H
         clear H
         have p4 : 0 ≤ (x3_1 : Int) := of_decide_eq_true (by first | (with_reducible assumption) | assumption)
         have q4 : x3_1 < (a0.size : Int) := of_decide_eq_true (by first | (with_reducible assumption) | assumption)
         have hx4 := bt_at a0 x3_1
         replace p4 := eq_true p4
         replace q4 := eq_true q4
         go_wp2
         go_roundg k1
         case measure => have := HK1.out; omega
         case rel => exact ⟨(wrap64 (x3_1 + 1)), (by first | rfl | (simp; done) | (simp [*]; done)), H', ⟨by have := HK1.out; omega⟩, by repeat (first | exact Drawn0.refl _ | apply Drawn0.step)⟩
        ·rw [if_neg c15] at H
         have c15b0 : ((bt a0 x3_1) == 45) = false := beq_eq_false_iff_ne.mpr c15
         have c15b1 : ((bt a0 x3_1) != 45) = true := bne_iff_ne.mpr c15
         by_cases c16 : ((bt a0 x3_1) = 95)
         ·rw [if_pos c16] at H
          have c16b0 : ((bt a0 x3_1) == 95) = true := beq_iff_eq.mpr c16
          have c16b1 : ((bt a0 x3_1) != 95) = false := bne_eq_false_iff_eq.mpr c16
          clear c16
          have H' := Aside0.mk H
          clear H
          have p4 : 0 ≤ (x3_1 : Int) := of_decide_eq_true (by first | (with_reducible assumption) | assumption)
          have q4 : x3_1 < (a0.size : Int) := of_decide_eq_true (by first | (with_reducible assumption) | assumption)
          have hx4 := bt_at a0 x3_1
          replace p4 := eq_true p4
          replace q4 := eq_true q4
          go_wp2
          go_roundg k1
          case measure => have := HK1.out; omega
          case rel => exact ⟨(wrap64 (x3_1 + 1)), (by first | rfl | (simp; done) | (simp [*]; done)), H', ⟨by have := HK1.out; omega⟩, by repeat (first | exact Drawn0.refl _ | apply Drawn0.step)⟩
         ·rw [if_neg c16] at H
          have c16b0 : ((bt a0 x3_1) == 95) = false := beq_eq_false_iff_ne.mpr c16
          have c16b1 : ((bt a0 x3_1) != 95) = true := bne_iff_ne.mpr c16
          obtain rfl := Option.some.inj H
          have p4 : 0 ≤ (x3_1 : Int) := of_decide_eq_true (by first | (with_reducible assumption) | assumption)
          have q4 : x3_1 < (a0.size : Int) := of_decide_eq_true (by first | (with_reducible assumption) | assumption)
          have hx4 := bt_at a0 x3_1
          replace p4 := eq_true p4
          replace q4 := eq_true q4
          go_wp2
          go_ret
          exact ⟨by first | rfl | (simp; done) | (simp [*]; done), by repeat (first | exact Drawn0.refl _ | apply Drawn0.step)⟩
      ·rw [if_neg c13] at H
       have c13b0 : decide (48 ≤ (bt a0 x3_1)) = false := decide_eq_false c13
       clear c13
       by_cases c17 : (bt a0 x3_1) = 45
       ·rw [if_pos c17] at H
        have c17b0 : ((bt a0 x3_1) == 45) = true := beq_iff_eq.mpr c17
        have c17b1 : ((bt a0 x3_1) != 45) = false := bne_eq_false_iff_eq.mpr c17
        clear c17
        have H' := Aside0.mk H
        clear H
        have p4 : 0 ≤ (x3_1 : Int) := of_decide_eq_true (by first | (with_reducible assumption) | assumption)
        have q4 : x3_1 < (a0.size : Int) := of_decide_eq_true (by first | (with_reducible assumption) | assumption)
        have hx4 := bt_at a0 x3_1
        replace p4 := eq_true p4
        replace q4 := eq_true q4
        go_wp2
        go_roundg k1
        case measure => have := HK1.out; omega
        case rel => exact ⟨(wrap64 (x3_1 + 1)), (by first | rfl | (simp; done) | (simp [*]; done)), H', ⟨by have := HK1.out; omega⟩, by repeat (first | exact Drawn0.refl _ | apply Drawn0.step)⟩
       ·rw [if_neg c17] at H
        have c17b0 : ((bt a0 x3_1) == 45) = false := beq_eq_false_iff_ne.mpr c17
        have c17b1 : ((bt a0 x3_1) != 45) = true := bne_iff_ne.mpr c17
        by_cases c18 : ((bt a0 x3_1) = 95)
        ·rw [if_pos c18] at H
         have c18b0 : ((bt a0 x3_1) == 95) = true := beq_iff_eq.mpr c18
         have c18b1 : ((bt a0 x3_1) != 95) = false := bne_eq_false_iff_eq.mpr c18
         clear c18
         have H' := Aside0.mk H
         clear H
         have p4 : 0 ≤ (x3_1 : Int) := of_decide_eq_true (by first | (with_reducible assumption) | assumption)
         have q4 : x3_1 < (a0.size : Int) := of_decide_eq_true (by first | (with_reducible assumption) | assumption)
         have hx4 := bt_at a0 x3_1
         replace p4 := eq_true p4
         replace q4 := eq_true q4
         go_wp2
         go_roundg k1
         case measure => have := HK1.out; omega
         case rel => exact ⟨(wrap64 (x3_1 + 1)), (by first | rfl | (simp; done) | (simp [*]; done)), H', ⟨by have := HK1.out; omega⟩, by repeat (first | exact Drawn0.refl _ | apply Drawn0.step)⟩
        ·rw [if_neg c18] at H
         have c18b0 : ((bt a0 x3_1) == 95) = false := beq_eq_false_iff_ne.mpr c18
         have c18b1 : ((bt a0 x3_1) != 95) = true := bne_iff_ne.mpr c18
         obtain rfl := Option.some.inj H
         have p4 : 0 ≤ (x3_1 : Int) := of_decide_eq_true (by first | (with_reducible assumption) | assumption)
         have q4 : x3_1 < (a0.size : Int) := of_decide_eq_true (by first | (with_reducible assumption) | assumption)
         have hx4 := bt_at a0 x3_1
         replace p4 := eq_true p4
         replace q4 := eq_true q4
         go_wp2
         go_ret
         exact ⟨by first | rfl | (simp; done) | (simp [*]; done), by repeat (first | exact Drawn0.refl _ | apply Drawn0.step)⟩
    ·rw [if_neg c3] at H
     exact absurd H (by simp)
   ·rw [if_neg c2] at H
    have c2b0 : decide (x3_1 < (a0.size : Int)) = false := decide_eq_false c2
    clear c2
    by_cases c19 : (a0.size : Int) ≥ 1
    ·rw [if_pos c19] at H
     have c19b0 : decide (1 ≤ (a0.size : Int)) = true := decide_eq_true c19
     have c19b1 : decide (1 ≤ a0.size) = true := decide_eq_true (by omega)
     clear c19
     obtain rfl := Option.some.inj H
     go_wp2
     go_ret
     exact ⟨by first | rfl | (simp; done) | (simp [*]; done), by repeat (first | exact Drawn0.refl _ | apply Drawn0.step)⟩
    ·rw [if_neg c19] at H
     have c19b0 : decide (1 ≤ (a0.size : Int)) = false := decide_eq_false c19
     have c19b1 : decide (1 ≤ a0.size) = false := decide_eq_false (by omega)
     clear c19
     obtain rfl := Option.some.inj H
     go_wp2
     go_ret
     exact ⟨by first | rfl | (simp; done) | (simp [*]; done), by repeat (first | exact Drawn0.refl _ | apply Drawn0.step)⟩
end Go.Proofs.YtjjimkmbbifbjaaDoor.Pv
end
section
namespace Go.Proofs.YtjjimkmbbifbjaaDoor.Pv
open Go.RowKit Go.Proofs.YtjjimkmbbifbjaaDoorW.PrintWords Go.Proofs.YtjjimkmbbifbjaaDoorW.PrintLast Go.Proofs.YtjjimkmbbifbjaaDoorW.PrintMore
attribute [local go_sem] max2_int min2_int max_two min_two max_three min_three max_four min_four
set_option linter.unusedVariables false
set_option linter.unusedSimpArgs false
def rivuletref03_Right.l0 : Nat → List ByteArray → Int → Option (Bool)
 | 0, _, _ => none
 | k + 1, x3, x4 => if x4 < (x3.length : Int) then (if 0 ≤ x4 then ((rivuletref03_Name.f k (rdOf ByteArray.empty x3 x4)).bind fun t158 => (if t158 = true then (rivuletref03_Right.l0 k x3 (wrap64 (x4 + 1))) else (some false))) else (none)) else (some (decide ((x3.length : Int) ≤ 8)))
def rivuletref03_Right.f (k : Nat) (a0 : ByteArray) : Option (Bool) := (rivuletref03_Levels.f k a0).bind fun t154 => (rivuletref03_Right.l0 k t154 0)
set_option maxHeartbeats 8000000 in
set_option maxRecDepth 100000 in
theorem rivuletref03_Right.calls (k : Nat) (a0 : ByteArray) (r : Bool) (w : World) (h : rivuletref03_Right.f k a0 = some r) :
  Calls Tryd.prog 31 #[.string a0] w fun e w' => e = .returned (.bool r) ∧ Below w.heap.size w w' := by
 have HB := Aside0.mk (Below.refl w.heap.size w)
 have H : ((rivuletref03_Levels.f k a0).bind fun t154 => (rivuletref03_Right.l0 k t154 0)) = some r := h
 clear h
 replace H := Option.bind_eq_some_iff.mp H
 obtain ⟨t154, A20, H⟩ := H
 replace H : (rivuletref03_Right.l0 k t154 0) = some r := H
 have A2 := Aside0.mk A20
 clear A20
 have H' := Aside0.mk H
 clear H
 go_enter Tryd.func31, Tryd.ntmps31
 go_wp2_with (first | ((with_reducible refine gate_callee (f := 61) rfl ?_); refine goesL_ (some 6) rfl rfl Tryd.func61 (by kernel_rfl) rfl #[.string a0] rfl (by (try simp only [List.map_toArray, List.map_cons, List.map_nil]); first | done | rfl | (simp only [List.length_drop, List.length_take]; rfl)) ?_; (with_reducible refine (rivuletref03_Levels.calls k a0 t154 _ A2.out).mono ?_); rintro e w3 ⟨v155, rfl, ho0, hb⟩; refine ⟨_, rfl, ?_⟩; have n0_ := Aside0.mk (Kd.R_lower ho0 (below_size (by repeat (first | (with_reducible first | exact HB.out | apply below_alloc | apply pw_below_drewN | apply below_drew1) | exact HB.out)))); have n1_ := Aside0.mk (below_step (by repeat (first | (with_reducible first | exact HB.out | apply below_alloc | apply pw_below_drewN | apply below_drew1) | exact HB.out)) hb); clear HB; have HO156 := n0_; have HB := n1_; clear n0_ n1_; (try clear hb); (try clear hb2); (try clear hk); (try clear hi); (try clear ho0)))
 go_loopg [4] k (fun kq v4 w' => ∃ (x4_1 : Int), v4 = .int .i64 x4_1 ∧ Aside0 (rivuletref03_Right.l0 kq t154 x4_1 = some r) ∧ Aside0 (kq ≤ k) ∧ Aside0 (Kd.R Kd.string 9 w' w.heap.size (fun _ => True) v155 t154) ∧ Aside0 (Below w.heap.size w w'))
 case atStart => exact ⟨(0), (by first | rfl | (simp; done) | (simp [*]; done)), H', ⟨Nat.le_refl _⟩, ⟨by (with_reducible repeat (first | apply Kd.R_alloc | apply Kd.R_drewN | apply Kd.R_drew)); exact HO156.out⟩, ⟨by repeat (first | (with_reducible first | exact HB.out | apply below_alloc | apply pw_below_drewN | apply below_drew1) | exact HB.out)⟩⟩
 case round =>
  clear H'
  try clear p2
  try clear c3
  obtain ⟨x4_1, rfl, HA, HK1, HO_3, HB⟩ := hrel
  cases gk with
  | zero => exact absurd HA.out (by simp [rivuletref03_Right.l0])
  | succ k1 =>
   have H := HA.out
   clear HA
   simp only [rivuletref03_Right.l0] at H
   by_cases c4 : x4_1 < (t154.length : Int)
   ·rw [if_pos c4] at H
    have c4b0 : decide (x4_1 < (t154.length : Int)) = true := decide_eq_true c4
    clear c4
    by_cases c5 : 0 ≤ x4_1
    ·rw [if_pos c5] at H
     have c5b0 : decide (0 ≤ x4_1) = true := decide_eq_true c5
     clear c5
     replace H := Option.bind_eq_some_iff.mp H
     obtain ⟨t158, A60, H⟩ := H
     replace H : (if t158 = true then (rivuletref03_Right.l0 k1 t154 (wrap64 (x4_1 + 1))) else (some false)) = some r := H
     have A6 := Aside0.mk A60
     clear A60
     by_cases c7 : t158 = true
     ·subst c7
      have H1 : (rivuletref03_Right.l0 k1 t154 (wrap64 (x4_1 + 1))) = some r := by rw [if_pos rfl] at H; exact H
      clear H
      have H := H1
      clear H1
      have H' := Aside0.mk H
      clear H
      obtain ⟨Ao8, co8, eo8⟩ := Kd.R_slice HO_3.out
      subst eo8
      have p157 : 0 ≤ (x4_1 : Int) := of_decide_eq_true (by first | (with_reducible assumption) | assumption)
      have q157 : x4_1 < (t154.length : Int) := of_decide_eq_true (by first | (with_reducible assumption) | assumption)
      obtain ⟨ad157, e157, hx157_0⟩ := Kd.at_string (Kd.R_reads' HO_3.out).2.2 x4_1 p157 q157
      cases e157
      replace p157 := eq_true p157
      replace q157 := eq_true q157
      go_wp2_with (first | ((with_reducible refine gate_callee (f := 62) rfl ?_); refine goesL_ (some 17) rfl rfl Tryd.func62 (by kernel_rfl) rfl #[.string (rdOf ByteArray.empty t154 x4_1)] rfl (by (try simp only [List.map_toArray, List.map_cons, List.map_nil]); first | done | rfl | (simp only [List.length_drop, List.length_take]; rfl)) ?_; (with_reducible refine (rivuletref03_Name.calls k1 (rdOf ByteArray.empty t154 x4_1) true _ A6.out).mono ?_); rintro e w' ⟨rfl, ⟨nd, rfl⟩⟩; refine ⟨_, rfl, ?_⟩))
      go_roundg k1
      case measure => have := HK1.out; omega
      case rel => exact ⟨(wrap64 (x4_1 + 1)), (by first | rfl | (simp; done) | (simp [*]; done)), H', ⟨by have := HK1.out; omega⟩, ⟨by (with_reducible repeat (first | apply Kd.R_alloc | apply Kd.R_drewN | apply Kd.R_drew)); exact HO_3.out⟩, ⟨by repeat (first | (with_reducible first | exact HB.out | apply below_alloc | apply pw_below_drewN | apply below_drew1) | exact HB.out)⟩⟩
     ·replace c7 := Bool.eq_false_iff.mpr c7
      subst c7
      have H1 : (some false) = some r := by rw [if_neg (show ¬ (false = true) by decide)] at H; exact H
      clear H
      have H := H1
      clear H1
      obtain rfl := Option.some.inj H
      obtain ⟨Ao9, co9, eo9⟩ := Kd.R_slice HO_3.out
      subst eo9
      have p157 : 0 ≤ (x4_1 : Int) := of_decide_eq_true (by first | (with_reducible assumption) | assumption)
      have q157 : x4_1 < (t154.length : Int) := of_decide_eq_true (by first | (with_reducible assumption) | assumption)
      obtain ⟨ad157, e157, hx157_0⟩ := Kd.at_string (Kd.R_reads' HO_3.out).2.2 x4_1 p157 q157
      cases e157
      replace p157 := eq_true p157
      replace q157 := eq_true q157
      go_wp2_with (first | ((with_reducible refine gate_callee (f := 62) rfl ?_); refine goesL_ (some 17) rfl rfl Tryd.func62 (by kernel_rfl) rfl #[.string (rdOf ByteArray.empty t154 x4_1)] rfl (by (try simp only [List.map_toArray, List.map_cons, List.map_nil]); first | done | rfl | (simp only [List.length_drop, List.length_take]; rfl)) ?_; (with_reducible refine (rivuletref03_Name.calls k1 (rdOf ByteArray.empty t154 x4_1) false _ A6.out).mono ?_); rintro e w' ⟨rfl, ⟨nd, rfl⟩⟩; refine ⟨_, rfl, ?_⟩))
      go_ret
      exact ⟨by first | rfl | (simp [errW_none, errW_some] <;> rfl) | (simp [*, errW_none, errW_some] <;> rfl), by repeat (first | (with_reducible first | exact HB.out | apply below_alloc | apply pw_below_drewN | apply below_drew1) | exact HB.out)⟩
    ·rw [if_neg c5] at H
     exact absurd H (by simp)
   ·rw [if_neg c4] at H
    have c4b0 : decide (x4_1 < (t154.length : Int)) = false := decide_eq_false c4
    clear c4
    obtain rfl := Option.some.inj H
    obtain ⟨Ao10, co10, eo10⟩ := Kd.R_slice HO_3.out
    subst eo10
    go_wp2
    go_ret
    exact ⟨by first | rfl | (simp [errW_none, errW_some] <;> rfl) | (simp [*, errW_none, errW_some] <;> rfl), by repeat (first | (with_reducible first | exact HB.out | apply below_alloc | apply pw_below_drewN | apply below_drew1) | exact HB.out)⟩
end Go.Proofs.YtjjimkmbbifbjaaDoor.Pv
end
section
namespace Go.Proofs.YtjjimkmbbifbjaaDoor.Pv
open Go.RowKit Go.Proofs.YtjjimkmbbifbjaaDoorW.PrintWords Go.Proofs.YtjjimkmbbifbjaaDoorW.PrintLast Go.Proofs.YtjjimkmbbifbjaaDoorW.PrintMore
attribute [local go_sem] max2_int min2_int max_two min_two max_three min_three max_four min_four
set_option linter.unusedVariables false
set_option linter.unusedSimpArgs false
def rivuletref03_Filter.l0 : Nat → List ByteArray → Int → Option (Bool)
 | 0, _, _ => none
 | k + 1, x3, x4 => if x4 < (x3.length : Int) then (if 0 ≤ x4 then ((rivuletref03_Name.f k (rdOf ByteArray.empty x3 x4)).bind fun t163 => (if t163 = true then (rivuletref03_Filter.l0 k x3 (wrap64 (x4 + 1))) else (if (rdOf ByteArray.empty x3 x4).toList = ([43] : List UInt8) then (rivuletref03_Filter.l0 k x3 (wrap64 (x4 + 1))) else (if (rdOf ByteArray.empty x3 x4).toList = ([35] : List UInt8) then (if x4 < (wrap64 ((x3.length : Int) - 1)) then (some false) else (rivuletref03_Filter.l0 k x3 (wrap64 (x4 + 1)))) else (some false))))) else (none)) else (some (decide ((x3.length : Int) ≤ 8)))
def rivuletref03_Filter.f (k : Nat) (a0 : ByteArray) : Option (Bool) := (rivuletref03_Levels.f k a0).bind fun t159 => (rivuletref03_Filter.l0 k t159 0)
set_option maxHeartbeats 8000000 in
set_option maxRecDepth 100000 in
theorem rivuletref03_Filter.calls (k : Nat) (a0 : ByteArray) (r : Bool) (w : World) (h : rivuletref03_Filter.f k a0 = some r) :
  Calls Tryd.prog 32 #[.string a0] w fun e w' => e = .returned (.bool r) ∧ Below w.heap.size w w' := by
 have HB := Aside0.mk (Below.refl w.heap.size w)
 have H : ((rivuletref03_Levels.f k a0).bind fun t159 => (rivuletref03_Filter.l0 k t159 0)) = some r := h
 clear h
 replace H := Option.bind_eq_some_iff.mp H
 obtain ⟨t159, A20, H⟩ := H
 replace H : (rivuletref03_Filter.l0 k t159 0) = some r := H
 have A2 := Aside0.mk A20
 clear A20
 have H' := Aside0.mk H
 clear H
 go_enter Tryd.func32, Tryd.ntmps32
 go_wp2_with (first | ((with_reducible refine gate_callee (f := 61) rfl ?_); refine goesL_ (some 6) rfl rfl Tryd.func61 (by kernel_rfl) rfl #[.string a0] rfl (by (try simp only [List.map_toArray, List.map_cons, List.map_nil]); first | done | rfl | (simp only [List.length_drop, List.length_take]; rfl)) ?_; (with_reducible refine (rivuletref03_Levels.calls k a0 t159 _ A2.out).mono ?_); rintro e w3 ⟨v160, rfl, ho0, hb⟩; refine ⟨_, rfl, ?_⟩; have n0_ := Aside0.mk (Kd.R_lower ho0 (below_size (by repeat (first | (with_reducible first | exact HB.out | apply below_alloc | apply pw_below_drewN | apply below_drew1) | exact HB.out)))); have n1_ := Aside0.mk (below_step (by repeat (first | (with_reducible first | exact HB.out | apply below_alloc | apply pw_below_drewN | apply below_drew1) | exact HB.out)) hb); clear HB; have HO161 := n0_; have HB := n1_; clear n0_ n1_; (try clear hb); (try clear hb2); (try clear hk); (try clear hi); (try clear ho0)))
 go_loopg [4] k (fun kq v4 w' => ∃ (x4_1 : Int), v4 = .int .i64 x4_1 ∧ Aside0 (rivuletref03_Filter.l0 kq t159 x4_1 = some r) ∧ Aside0 (kq ≤ k) ∧ Aside0 (Kd.R Kd.string 9 w' w.heap.size (fun _ => True) v160 t159) ∧ Aside0 (Below w.heap.size w w'))
 case atStart => exact ⟨(0), (by first | rfl | (simp; done) | (simp [*]; done)), H', ⟨Nat.le_refl _⟩, ⟨by (with_reducible repeat (first | apply Kd.R_alloc | apply Kd.R_drewN | apply Kd.R_drew)); exact HO161.out⟩, ⟨by repeat (first | (with_reducible first | exact HB.out | apply below_alloc | apply pw_below_drewN | apply below_drew1) | exact HB.out)⟩⟩
 case round =>
  clear H'
  try clear p2
  try clear c3
  obtain ⟨x4_1, rfl, HA, HK1, HO_3, HB⟩ := hrel
  cases gk with
  | zero => exact absurd HA.out (by simp [rivuletref03_Filter.l0])
  | succ k1 =>
   have H := HA.out
   clear HA
   simp only [rivuletref03_Filter.l0] at H
   by_cases c4 : x4_1 < (t159.length : Int)
   ·rw [if_pos c4] at H
    have c4b0 : decide (x4_1 < (t159.length : Int)) = true := decide_eq_true c4
    clear c4
    by_cases c5 : 0 ≤ x4_1
    ·rw [if_pos c5] at H
     have c5b0 : decide (0 ≤ x4_1) = true := decide_eq_true c5
     clear c5
     replace H := Option.bind_eq_some_iff.mp H
     obtain ⟨t163, A60, H⟩ := H
     replace H : (if t163 = true then (rivuletref03_Filter.l0 k1 t159 (wrap64 (x4_1 + 1))) else (if (rdOf ByteArray.empty t159 x4_1).toList = ([43] : List UInt8) then (rivuletref03_Filter.l0 k1 t159 (wrap64 (x4_1 + 1))) else (if (rdOf ByteArray.empty t159 x4_1).toList = ([35] : List UInt8) then (if x4_1 < (wrap64 ((t159.length : Int) - 1)) then (some false) else (rivuletref03_Filter.l0 k1 t159 (wrap64 (x4_1 + 1)))) else (some false)))) = some r := H
     have A6 := Aside0.mk A60
     clear A60
     by_cases c7 : t163 = true
     ·subst c7
      have H1 : (rivuletref03_Filter.l0 k1 t159 (wrap64 (x4_1 + 1))) = some r := by rw [if_pos rfl] at H; exact H
      clear H
      have H := H1
      clear H1
      have H' := Aside0.mk H
      clear H
      obtain ⟨Ao8, co8, eo8⟩ := Kd.R_slice HO_3.out
      subst eo8
      have p162 : 0 ≤ (x4_1 : Int) := of_decide_eq_true (by first | (with_reducible assumption) | assumption)
      have q162 : x4_1 < (t159.length : Int) := of_decide_eq_true (by first | (with_reducible assumption) | assumption)
      obtain ⟨ad162, e162, hx162_0⟩ := Kd.at_string (Kd.R_reads' HO_3.out).2.2 x4_1 p162 q162
      cases e162
      replace p162 := eq_true p162
      replace q162 := eq_true q162
      go_wp2_with (first | ((with_reducible refine gate_callee (f := 62) rfl ?_); refine goesL_ (some 17) rfl rfl Tryd.func62 (by kernel_rfl) rfl #[.string (rdOf ByteArray.empty t159 x4_1)] rfl (by (try simp only [List.map_toArray, List.map_cons, List.map_nil]); first | done | rfl | (simp only [List.length_drop, List.length_take]; rfl)) ?_; (with_reducible refine (rivuletref03_Name.calls k1 (rdOf ByteArray.empty t159 x4_1) true _ A6.out).mono ?_); rintro e w' ⟨rfl, ⟨nd, rfl⟩⟩; refine ⟨_, rfl, ?_⟩))
      go_roundg k1
      case measure => have := HK1.out; omega
      case rel => exact ⟨(wrap64 (x4_1 + 1)), (by first | rfl | (simp; done) | (simp [*]; done)), H', ⟨by have := HK1.out; omega⟩, ⟨by (with_reducible repeat (first | apply Kd.R_alloc | apply Kd.R_drewN | apply Kd.R_drew)); exact HO_3.out⟩, ⟨by repeat (first | (with_reducible first | exact HB.out | apply below_alloc | apply pw_below_drewN | apply below_drew1) | exact HB.out)⟩⟩
     ·replace c7 := Bool.eq_false_iff.mpr c7
      subst c7
      have H1 : (if (rdOf ByteArray.empty t159 x4_1).toList = ([43] : List UInt8) then (rivuletref03_Filter.l0 k1 t159 (wrap64 (x4_1 + 1))) else (if (rdOf ByteArray.empty t159 x4_1).toList = ([35] : List UInt8) then (if x4_1 < (wrap64 ((t159.length : Int) - 1)) then (some false) else (rivuletref03_Filter.l0 k1 t159 (wrap64 (x4_1 + 1)))) else (some false))) = some r := by rw [if_neg (show ¬ (false = true) by decide)] at H; exact H
      clear H
      have H := H1
      clear H1
      by_cases c9 : (rdOf ByteArray.empty t159 x4_1).toList = ([43] : List UInt8)
      ·rw [if_pos c9] at H
       have c9b0 : ((rdOf ByteArray.empty t159 x4_1).toList == ([43] : List UInt8)) = true := beq_iff_eq.mpr c9
       have c9b1 : ((rdOf ByteArray.empty t159 x4_1).toList != ([43] : List UInt8)) = false := bne_eq_false_iff_eq.mpr c9
       clear c9
       have H' := Aside0.mk H
       clear H
       obtain ⟨Ao10, co10, eo10⟩ := Kd.R_slice HO_3.out
       subst eo10
       have p162 : 0 ≤ (x4_1 : Int) := of_decide_eq_true (by first | (with_reducible assumption) | assumption)
       have q162 : x4_1 < (t159.length : Int) := of_decide_eq_true (by first | (with_reducible assumption) | assumption)
       obtain ⟨ad162, e162, hx162_0⟩ := Kd.at_string (Kd.R_reads' HO_3.out).2.2 x4_1 p162 q162
       cases e162
       replace p162 := eq_true p162
       replace q162 := eq_true q162
       go_wp2_with (first | ((with_reducible refine gate_callee (f := 62) rfl ?_); refine goesL_ (some 17) rfl rfl Tryd.func62 (by kernel_rfl) rfl #[.string (rdOf ByteArray.empty t159 x4_1)] rfl (by (try simp only [List.map_toArray, List.map_cons, List.map_nil]); first | done | rfl | (simp only [List.length_drop, List.length_take]; rfl)) ?_; (with_reducible refine (rivuletref03_Name.calls k1 (rdOf ByteArray.empty t159 x4_1) false _ A6.out).mono ?_); rintro e w' ⟨rfl, ⟨nd, rfl⟩⟩; refine ⟨_, rfl, ?_⟩; have p164 : 0 ≤ (x4_1 : Int) := of_decide_eq_true (by first | (with_reducible assumption) | assumption); have q164 : x4_1 < (t159.length : Int) := of_decide_eq_true (by first | (with_reducible assumption) | assumption); obtain ⟨ad164, e164, hx164_0⟩ := Kd.at_string (Kd.R_reads' HO_3.out).2.2 x4_1 p164 q164; obtain rfl : ad162 = ad164 := (by injection e164); replace p164 := eq_true p164; replace q164 := eq_true q164))
       go_roundg k1
       case measure => have := HK1.out; omega
       case rel => exact ⟨(wrap64 (x4_1 + 1)), (by first | rfl | (simp; done) | (simp [*]; done)), H', ⟨by have := HK1.out; omega⟩, ⟨by (with_reducible repeat (first | apply Kd.R_alloc | apply Kd.R_drewN | apply Kd.R_drew)); exact HO_3.out⟩, ⟨by repeat (first | (with_reducible first | exact HB.out | apply below_alloc | apply pw_below_drewN | apply below_drew1) | exact HB.out)⟩⟩
      ·rw [if_neg c9] at H
       have c9b0 : ((rdOf ByteArray.empty t159 x4_1).toList == ([43] : List UInt8)) = false := beq_eq_false_iff_ne.mpr c9
       have c9b1 : ((rdOf ByteArray.empty t159 x4_1).toList != ([43] : List UInt8)) = true := bne_iff_ne.mpr c9
       by_cases c11 : (rdOf ByteArray.empty t159 x4_1).toList = ([35] : List UInt8)
       ·rw [if_pos c11] at H
        have c11b0 : ((rdOf ByteArray.empty t159 x4_1).toList == ([35] : List UInt8)) = true := beq_iff_eq.mpr c11
        have c11b1 : ((rdOf ByteArray.empty t159 x4_1).toList != ([35] : List UInt8)) = false := bne_eq_false_iff_eq.mpr c11
        clear c11
        by_cases c12 : x4_1 < (wrap64 ((t159.length : Int) - 1))
        ·rw [if_pos c12] at H
         have c12b0 : decide (x4_1 < (wrap64 ((t159.length : Int) - 1))) = true := decide_eq_true c12
         clear c12
         obtain rfl := Option.some.inj H
         obtain ⟨Ao13, co13, eo13⟩ := Kd.R_slice HO_3.out
         subst eo13
         have p162 : 0 ≤ (x4_1 : Int) := of_decide_eq_true (by first | (with_reducible assumption) | assumption)
         have q162 : x4_1 < (t159.length : Int) := of_decide_eq_true (by first | (with_reducible assumption) | assumption)
         obtain ⟨ad162, e162, hx162_0⟩ := Kd.at_string (Kd.R_reads' HO_3.out).2.2 x4_1 p162 q162
         cases e162
         replace p162 := eq_true p162
         replace q162 := eq_true q162
         go_wp2_with (first | ((with_reducible refine gate_callee (f := 62) rfl ?_); refine goesL_ (some 17) rfl rfl Tryd.func62 (by kernel_rfl) rfl #[.string (rdOf ByteArray.empty t159 x4_1)] rfl (by (try simp only [List.map_toArray, List.map_cons, List.map_nil]); first | done | rfl | (simp only [List.length_drop, List.length_take]; rfl)) ?_; (with_reducible refine (rivuletref03_Name.calls k1 (rdOf ByteArray.empty t159 x4_1) false _ A6.out).mono ?_); rintro e w' ⟨rfl, ⟨nd, rfl⟩⟩; refine ⟨_, rfl, ?_⟩; have p164 : 0 ≤ (x4_1 : Int) := of_decide_eq_true (by first | (with_reducible assumption) | assumption); have q164 : x4_1 < (t159.length : Int) := of_decide_eq_true (by first | (with_reducible assumption) | assumption); obtain ⟨ad164, e164, hx164_0⟩ := Kd.at_string (Kd.R_reads' HO_3.out).2.2 x4_1 p164 q164; obtain rfl : ad162 = ad164 := (by injection e164); replace p164 := eq_true p164; replace q164 := eq_true q164; have p165 : 0 ≤ (x4_1 : Int) := of_decide_eq_true (by first | (with_reducible assumption) | assumption); have q165 : x4_1 < (t159.length : Int) := of_decide_eq_true (by first | (with_reducible assumption) | assumption); obtain ⟨ad165, e165, hx165_0⟩ := Kd.at_string (Kd.R_reads' HO_3.out).2.2 x4_1 p165 q165; obtain rfl : ad162 = ad165 := (by injection e165); replace p165 := eq_true p165; replace q165 := eq_true q165))
         go_ret
         exact ⟨by first | rfl | (simp [errW_none, errW_some] <;> rfl) | (simp [*, errW_none, errW_some] <;> rfl), by repeat (first | (with_reducible first | exact HB.out | apply below_alloc | apply pw_below_drewN | apply below_drew1) | exact HB.out)⟩
        ·rw [if_neg c12] at H
         have c12b0 : decide (x4_1 < (wrap64 ((t159.length : Int) - 1))) = false := decide_eq_false c12
         clear c12
         have H' := Aside0.mk H
         clear H
         obtain ⟨Ao14, co14, eo14⟩ := Kd.R_slice HO_3.out
         subst eo14
         have p162 : 0 ≤ (x4_1 : Int) := of_decide_eq_true (by first | (with_reducible assumption) | assumption)
         have q162 : x4_1 < (t159.length : Int) := of_decide_eq_true (by first | (with_reducible assumption) | assumption)
         obtain ⟨ad162, e162, hx162_0⟩ := Kd.at_string (Kd.R_reads' HO_3.out).2.2 x4_1 p162 q162
         cases e162
         replace p162 := eq_true p162
         replace q162 := eq_true q162
         go_wp2_with (first | ((with_reducible refine gate_callee (f := 62) rfl ?_); refine goesL_ (some 17) rfl rfl Tryd.func62 (by kernel_rfl) rfl #[.string (rdOf ByteArray.empty t159 x4_1)] rfl (by (try simp only [List.map_toArray, List.map_cons, List.map_nil]); first | done | rfl | (simp only [List.length_drop, List.length_take]; rfl)) ?_; (with_reducible refine (rivuletref03_Name.calls k1 (rdOf ByteArray.empty t159 x4_1) false _ A6.out).mono ?_); rintro e w' ⟨rfl, ⟨nd, rfl⟩⟩; refine ⟨_, rfl, ?_⟩; have p164 : 0 ≤ (x4_1 : Int) := of_decide_eq_true (by first | (with_reducible assumption) | assumption); have q164 : x4_1 < (t159.length : Int) := of_decide_eq_true (by first | (with_reducible assumption) | assumption); obtain ⟨ad164, e164, hx164_0⟩ := Kd.at_string (Kd.R_reads' HO_3.out).2.2 x4_1 p164 q164; obtain rfl : ad162 = ad164 := (by injection e164); replace p164 := eq_true p164; replace q164 := eq_true q164; have p165 : 0 ≤ (x4_1 : Int) := of_decide_eq_true (by first | (with_reducible assumption) | assumption); have q165 : x4_1 < (t159.length : Int) := of_decide_eq_true (by first | (with_reducible assumption) | assumption); obtain ⟨ad165, e165, hx165_0⟩ := Kd.at_string (Kd.R_reads' HO_3.out).2.2 x4_1 p165 q165; obtain rfl : ad162 = ad165 := (by injection e165); replace p165 := eq_true p165; replace q165 := eq_true q165))
         go_roundg k1
         case measure => have := HK1.out; omega
         case rel => exact ⟨(wrap64 (x4_1 + 1)), (by first | rfl | (simp; done) | (simp [*]; done)), H', ⟨by have := HK1.out; omega⟩, ⟨by (with_reducible repeat (first | apply Kd.R_alloc | apply Kd.R_drewN | apply Kd.R_drew)); exact HO_3.out⟩, ⟨by repeat (first | (with_reducible first | exact HB.out | apply below_alloc | apply pw_below_drewN | apply below_drew1) | exact HB.out)⟩⟩
       ·rw [if_neg c11] at H
        have c11b0 : ((rdOf ByteArray.empty t159 x4_1).toList == ([35] : List UInt8)) = false := beq_eq_false_iff_ne.mpr c11
        have c11b1 : ((rdOf ByteArray.empty t159 x4_1).toList != ([35] : List UInt8)) = true := bne_iff_ne.mpr c11
        obtain rfl := Option.some.inj H
        obtain ⟨Ao15, co15, eo15⟩ := Kd.R_slice HO_3.out
        subst eo15
        have p162 : 0 ≤ (x4_1 : Int) := of_decide_eq_true (by first | (with_reducible assumption) | assumption)
        have q162 : x4_1 < (t159.length : Int) := of_decide_eq_true (by first | (with_reducible assumption) | assumption)
        obtain ⟨ad162, e162, hx162_0⟩ := Kd.at_string (Kd.R_reads' HO_3.out).2.2 x4_1 p162 q162
        cases e162
        replace p162 := eq_true p162
        replace q162 := eq_true q162
        go_wp2_with (first | ((with_reducible refine gate_callee (f := 62) rfl ?_); refine goesL_ (some 17) rfl rfl Tryd.func62 (by kernel_rfl) rfl #[.string (rdOf ByteArray.empty t159 x4_1)] rfl (by (try simp only [List.map_toArray, List.map_cons, List.map_nil]); first | done | rfl | (simp only [List.length_drop, List.length_take]; rfl)) ?_; (with_reducible refine (rivuletref03_Name.calls k1 (rdOf ByteArray.empty t159 x4_1) false _ A6.out).mono ?_); rintro e w' ⟨rfl, ⟨nd, rfl⟩⟩; refine ⟨_, rfl, ?_⟩; have p164 : 0 ≤ (x4_1 : Int) := of_decide_eq_true (by first | (with_reducible assumption) | assumption); have q164 : x4_1 < (t159.length : Int) := of_decide_eq_true (by first | (with_reducible assumption) | assumption); obtain ⟨ad164, e164, hx164_0⟩ := Kd.at_string (Kd.R_reads' HO_3.out).2.2 x4_1 p164 q164; obtain rfl : ad162 = ad164 := (by injection e164); replace p164 := eq_true p164; replace q164 := eq_true q164; have p165 : 0 ≤ (x4_1 : Int) := of_decide_eq_true (by first | (with_reducible assumption) | assumption); have q165 : x4_1 < (t159.length : Int) := of_decide_eq_true (by first | (with_reducible assumption) | assumption); obtain ⟨ad165, e165, hx165_0⟩ := Kd.at_string (Kd.R_reads' HO_3.out).2.2 x4_1 p165 q165; obtain rfl : ad162 = ad165 := (by injection e165); replace p165 := eq_true p165; replace q165 := eq_true q165))
        go_ret
        exact ⟨by first | rfl | (simp [errW_none, errW_some] <;> rfl) | (simp [*, errW_none, errW_some] <;> rfl), by repeat (first | (with_reducible first | exact HB.out | apply below_alloc | apply pw_below_drewN | apply below_drew1) | exact HB.out)⟩
    ·rw [if_neg c5] at H
     exact absurd H (by simp)
   ·rw [if_neg c4] at H
    have c4b0 : decide (x4_1 < (t159.length : Int)) = false := decide_eq_false c4
    clear c4
    obtain rfl := Option.some.inj H
    obtain ⟨Ao16, co16, eo16⟩ := Kd.R_slice HO_3.out
    subst eo16
    go_wp2
    go_ret
    exact ⟨by first | rfl | (simp [errW_none, errW_some] <;> rfl) | (simp [*, errW_none, errW_some] <;> rfl), by repeat (first | (with_reducible first | exact HB.out | apply below_alloc | apply pw_below_drewN | apply below_drew1) | exact HB.out)⟩
end Go.Proofs.YtjjimkmbbifbjaaDoor.Pv
end
