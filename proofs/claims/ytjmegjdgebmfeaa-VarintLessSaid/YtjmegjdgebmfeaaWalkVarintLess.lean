/-
  The walk of the law VarintLess: of two texts just one is ahead, if they are not the same; being ahead is handed on; a beginning is ahead.
-/
import Derived.Test.YtjmegjdgebmfeaaVarMore
import Derived.Test.YtjmegjdgebmfeaaPr1
import Derived.Test.YtjmegjdgebmfeaaPr2
namespace Go.Proofs.Ytjmegjdgebmfeaa.VF
open Go.RowKit Go.Proofs.Ytjmegjdgebmfeaa Go.Proofs.Ytjmegjdgebmfeaa.Pr Go.Proofs.Ytjmegjdgebmfeaa.VP Go.Proofs.YtjmegjdgebmfeaaW.PrintWords Go.Proofs.YtjmegjdgebmfeaaW.PrintLast Go.Proofs.YtjmegjdgebmfeaaW.PrintMore
attribute [local go_sem] max2_int min2_int max_two min_two max_three min_three max_four min_four

theorem toList_nil (s : ByteArray) : s.toList = [] ↔ bytesOf s = [] := by rw [toList_eq]; unfold bytesOf; simp
theorem toList_bytes (s t : ByteArray) : s.toList = t.toList ↔ bytesOf s = bytesOf t := ⟨fun h => by rw [toList_inj.1 h], fun h => by rw [bytes_inj h]⟩
set_option maxHeartbeats 4000000 in
set_option maxRecDepth 100000 in
theorem VarintLess_walk (a0 a1 a2 : ByteArray) (w : World) (w0 : a0.size ≤ 140737488351232) (w1 : a1.size ≤ 140737488351232) (w2 : a2.size ≤ 140737488351232) :
    Calls Try.prog 10 #[.string a0, .string a1, .string a2] w fun e w' => e = .returned (.bool true) ∧ Below w.heap.size w w' := by
  obtain ⟨j0, hj0⟩ : ∃ j : Int, (if 100 < (a0.size : Int) then 100 else (a0.size : Int)) = j := ⟨_, rfl⟩
  obtain ⟨j1, hj1⟩ : ∃ j : Int, (if 100 < (a1.size : Int) then 100 else (a1.size : Int)) = j := ⟨_, rfl⟩
  obtain ⟨j2, hj2⟩ : ∃ j : Int, (if 100 < (a2.size : Int) then 100 else (a2.size : Int)) = j := ⟨_, rfl⟩
  have b0 : 0 ≤ j0 ∧ j0 ≤ a0.size := by rw [← hj0]; split <;> omega
  have b1 : 0 ≤ j1 ∧ j1 ≤ a1.size := by rw [← hj1]; split <;> omega
  have b2 : 0 ≤ j2 ∧ j2 ≤ a2.size := by rw [← hj2]; split <;> omega
  obtain ⟨b00, b01⟩ := b0
  obtain ⟨b10, b11⟩ := b1
  obtain ⟨b20, b21⟩ := b2
  have z0 := cut_size a0 j0
  have z2 := cut_size a2 j2
  have c5 : (a0.extract 0 j0.toNat).size + (a2.extract 0 j2.toNat).size ≤ 9223372036854775807 := by omega
  have c5b0 := eq_true c5
  have c5b1 : decide ((a0.extract 0 j0.toNat).size + (a2.extract 0 j2.toNat).size ≤ 9223372036854775807) = true := decide_eq_true c5
  clear z0 z2
  have A5 : varint_Less.f (a0.extract 0 j0.toNat) (a0.extract 0 j0.toNat ++ a2.extract 0 j2.toNat) = some (decide (bytesOf (a2.extract 0 j2.toNat) ≠ [])) := by rw [less_f, bytes_append, lt_prefix]
  have fin : ∀ (x y p q e z : Bool), varint_Less.f (a0.extract 0 j0.toNat) (a1.extract 0 j1.toNat) = some x → varint_Less.f (a1.extract 0 j1.toNat) (a0.extract 0 j0.toNat) = some y →
      varint_Less.f (a1.extract 0 j1.toNat) (a2.extract 0 j2.toNat) = some p → varint_Less.f (a0.extract 0 j0.toNat) (a2.extract 0 j2.toNat) = some q →
      ((a0.extract 0 j0.toNat).toList == (a1.extract 0 j1.toNat).toList) = e → (a2.extract 0 j2.toNat).toList.isEmpty = z → (x = true ∧ y = false ∧ e = false ∧ (p = false ∨ p = true ∧ q = true) ∨ x = false ∧ y = !e) →
      Calls Try.prog 10 #[.string a0, .string a1, .string a2] w fun e w' => e = .returned (.bool true) ∧ Below w.heap.size w w' := by
    intro x y p q e z A1 A2 A3 A4 E1 Z1 hh
    have E2 : ((a0.extract 0 j0.toNat).toList != (a1.extract 0 j1.toNat).toList) = !e := by rw [bne, E1]
    have Z2 : ((a2.extract 0 j2.toNat).toList == []) = z := by rw [← Z1]; cases (a2.extract 0 j2.toNat).toList <;> rfl
    have Z3 : ((a2.extract 0 j2.toNat).toList != []) = !z := by rw [bne, Z2]
    have A5' : varint_Less.f (a0.extract 0 j0.toNat) (a0.extract 0 j0.toNat ++ a2.extract 0 j2.toNat) = some (!z) := by
      rw [A5]
      congr 1
      rw [← Z2, Bool.eq_iff_iff]
      simp [toList_nil]
    clear A5
    replace A1 := Aside0.mk A1
    replace A2 := Aside0.mk A2
    replace A3 := Aside0.mk A3
    replace A4 := Aside0.mk A4
    replace A5' := Aside0.mk A5'
    have A6 := Aside0.mk (show rivuletlaw01_fixed.f = some true from rfl)
    have HB := Aside0.mk (Below.refl w.heap.size w)
    have hh := Aside0.mk hh
    cases x <;> cases y <;> cases p <;> cases q <;> cases e <;> (try exact absurd hh.out (by decide)) <;> clear hh <;> cases z
    all_goals
      go_enter Try.func10, Try.ntmps10
      go_wp2_with (first | (go_at_call 16; (with_reducible refine (varint_Less.calls (a0.extract 0 j0.toNat) (a1.extract 0 j1.toNat) _ _ A1.out).mono ?_); rintro e w1_ ⟨rfl, hb_⟩; have n0_ := Aside0.mk (below_step (by repeat (first | (with_reducible first | exact HB.out | apply below_alloc | apply pw_below_drewN | apply below_drew1) | exact HB.out)) hb_.below); clear HB; have HB := n0_; clear n0_ hb_) | (go_at_call 16; (with_reducible refine (varint_Less.calls (a1.extract 0 j1.toNat) (a0.extract 0 j0.toNat) _ _ A2.out).mono ?_); rintro e w1_ ⟨rfl, hb_⟩; have n0_ := Aside0.mk (below_step (by repeat (first | (with_reducible first | exact HB.out | apply below_alloc | apply pw_below_drewN | apply below_drew1) | exact HB.out)) hb_.below); clear HB; have HB := n0_; clear n0_ hb_) | (go_at_call 16; (with_reducible refine (varint_Less.calls (a1.extract 0 j1.toNat) (a2.extract 0 j2.toNat) _ _ A3.out).mono ?_); rintro e w1_ ⟨rfl, hb_⟩; have n0_ := Aside0.mk (below_step (by repeat (first | (with_reducible first | exact HB.out | apply below_alloc | apply pw_below_drewN | apply below_drew1) | exact HB.out)) hb_.below); clear HB; have HB := n0_; clear n0_ hb_) | (go_at_call 16; (with_reducible refine (varint_Less.calls (a0.extract 0 j0.toNat) (a2.extract 0 j2.toNat) _ _ A4.out).mono ?_); rintro e w1_ ⟨rfl, hb_⟩; have n0_ := Aside0.mk (below_step (by repeat (first | (with_reducible first | exact HB.out | apply below_alloc | apply pw_below_drewN | apply below_drew1) | exact HB.out)) hb_.below); clear HB; have HB := n0_; clear n0_ hb_) | (go_at_call 16; (with_reducible refine (varint_Less.calls (a0.extract 0 j0.toNat) (a0.extract 0 j0.toNat ++ a2.extract 0 j2.toNat) _ _ A5'.out).mono ?_); rintro e w1_ ⟨rfl, hb_⟩; have n0_ := Aside0.mk (below_step (by repeat (first | (with_reducible first | exact HB.out | apply below_alloc | apply pw_below_drewN | apply below_drew1) | exact HB.out)) hb_.below); clear HB; have HB := n0_; clear n0_ hb_) | (go_at_call 18; (with_reducible refine (rivuletlaw01_fixed.calls true _ A6.out).mono ?_); rintro e w1_ ⟨rfl, hb_⟩; have n0_ := Aside0.mk (below_step (by repeat (first | (with_reducible first | exact HB.out | apply below_alloc | apply pw_below_drewN | apply below_drew1) | exact HB.out)) hb_); clear HB; have HB := n0_; clear n0_ hb_))
      (go_ret; exact ⟨rfl, (by repeat (first | (with_reducible first | exact HB.out | apply below_alloc | apply pw_below_drewN | apply below_drew1) | exact HB.out))⟩)
  rcases lt_total (bytesOf (a0.extract 0 j0.toNat)) (bytesOf (a1.extract 0 j1.toNat)) with h | h | h
  · refine fin true false (lt (bytesOf (a1.extract 0 j1.toNat)) (bytesOf (a2.extract 0 j2.toNat))) (lt (bytesOf (a0.extract 0 j0.toNat)) (bytesOf (a2.extract 0 j2.toNat))) false _ (by rw [less_f, h]) (by rw [less_f, lt_asymm h]) (less_f _ _) (less_f _ _) ?_ rfl (.inl ⟨rfl, rfl, rfl, ?_⟩)
    · rw [beq_eq_false_iff_ne]
      intro k
      rw [(toList_bytes _ _).1 k, lt_irrefl] at h
      cases h
    · cases k : lt (bytesOf (a1.extract 0 j1.toNat)) (bytesOf (a2.extract 0 j2.toNat))
      · exact .inl rfl
      · exact .inr ⟨rfl, lt_trans h k⟩
  · refine fin false false _ _ true _ (by rw [less_f, h, lt_irrefl]) (by rw [less_f, h, lt_irrefl]) (less_f _ _) (less_f _ _) ?_ rfl (.inr ⟨rfl, rfl⟩)
    rw [beq_iff_eq, toList_bytes, h]
  · refine fin false true _ _ false _ (by rw [less_f, lt_asymm h]) (by rw [less_f, h]) (less_f _ _) (less_f _ _) ?_ rfl (.inr ⟨rfl, rfl⟩)
    rw [beq_eq_false_iff_ne]
    intro k
    rw [(toList_bytes _ _).1 k, lt_irrefl] at h
    cases h
end Go.Proofs.Ytjmegjdgebmfeaa.VF
