import Derived.Test.YtkiepnmbimkadaaProg
import Derived.WalkKit
import Derived.WalkSpells
import Derived.WalkLawsBesides
import Derived.LoopN
import Derived.Lib.Hide
import Derived.Laws.Rows
import Derived.Laws.CopyOwn
import Derived.Laws.BitsAllLaws
import Derived.Test.YtkiepnmbimkadaaKRecovers13
namespace Go.Proofs.Ytkiepnmbimkadaa
open Go.RowKit Go.Proofs.Ytkiepnmbimkadaa.CP
set_option maxHeartbeats 1000000 in
set_option maxRecDepth 100000 in
theorem eight_any (n : Nat) (hn : n < 4294967296) (w : World) : Calls Try.prog 82 #[.int .u32 n] w fun e w' => e = .returned (.int .u32 (stk 8 n : Nat)) ∧ w = w' := by
  go_enter Try.func82, Try.ntmps82
  go_wp2
  go_loop [0, 4] (fun v i => ∃ k m : Nat, k ≤ 8 ∧ m < 4294967296 ∧ i = .int .i64 k ∧ v = .int .u32 m ∧ stk (8 - k) m = stk 8 n) (fun _ i => 8 - (intOf i).toNat)
  case atStart => exact ⟨0, n, by omega, hn, rfl, rfl, rfl⟩
  case round =>
    obtain ⟨k, m, hk, hm, rfl, rfl, hs⟩ := hrel
    have HS := Lib.hid hs
    clear hs
    by_cases hlt : k < 8
    · rcases Nat.mod_two_eq_zero_or_one m with hp | hp
      · have e1 : bits .and .u32 (m : Int) 1 = 0 := by
          have := u32_and_nat m 1 hm (by decide)
          rw [show ((1 : Nat) : Int) = 1 from rfl] at this
          rw [this, Nat.and_one_is_mod, hp]
          rfl
        have hst := Lib.hid (show st m = m / 2 by unfold st; rw [if_neg (by omega)])
        clear hp
        go_wp2
        go_round
        case rel => exact ⟨k + 1, m / 2, by omega, by omega, by go_num, by go_num, by rw [← HS.out, show 8 - k = 8 - (k + 1) + 1 by omega, stk, hst.out]⟩
        case measure => simp [intOf]; omega
      · have e1 : bits .and .u32 (m : Int) 1 = 1 := by
          have := u32_and_nat m 1 hm (by decide)
          rw [show ((1 : Nat) : Int) = 1 from rfl] at this
          rw [this, Nat.and_one_is_mod, hp]
          rfl
        have e2 : bits .xor .u32 ((m : Int) / 2) 3988292384 = ((st m : Nat) : Int) := by
          have := u32_xor_nat (m / 2) 3988292384 (by omega) (by decide)
          unfold st
          rw [if_pos hp, ← this]
          rfl
        clear hp
        go_wp2
        go_round
        case rel => exact ⟨k + 1, st m, by omega, st_lt hm, by go_num, rfl, by rw [← HS.out, show 8 - k = 8 - (k + 1) + 1 by omega, stk]⟩
        case measure => simp [intOf]; omega
    · go_wp2
      go_ret
      have h8 : k = 8 := by omega
      refine ⟨?_, rfl⟩
      have h := HS.out
      rw [h8] at h
      rw [← h]
      rfl
def tabV (k : Nat) : Array Value := ((List.range 256).map fun j => Value.int .u32 ((if j < k then stk 8 j else 0 : Nat) : Int)).toArray
theorem tabV_size (k : Nat) : (tabV k).size = 256 := by simp [tabV]
theorem tabV_get {k j : Nat} (h : j < 256) : (tabV k)[j]? = some (.int .u32 ((if j < k then stk 8 j else 0 : Nat) : Int)) := by simp [tabV, h]
theorem tabV_set {k : Nat} (h : k < 256) : (tabV k).setIfInBounds k (.int .u32 ((stk 8 k : Nat) : Int)) = tabV (k + 1) := by
  apply Array.ext'
  apply List.ext_getElem?
  intro j
  simp only [tabV, Array.toList_setIfInBounds, List.getElem?_set, List.getElem?_map, List.length_map, List.length_range]
  by_cases hj : j < 256
  · rw [List.getElem?_range hj]
    simp only [Option.map_some]
    by_cases e : k = j
    · subst e
      rw [if_pos rfl, if_pos h, if_pos (by omega)]
    · rw [if_neg e]
      by_cases g : j < k
      · rw [if_pos g, if_pos (by omega)]
      · rw [if_neg g, if_neg (by omega)]
  · rw [if_neg (by omega), List.getElem?_eq_none (by simp; omega)]
    rfl
theorem tabV_info (k : Nat) : (Try.prog.info? 108).map (·.size) = some (tabV k).size := by
  rw [tabV_size]
  kernel_rfl
theorem tabV_one (k : Nat) : (tabV k).all (·.oneCell') = true := by
  rw [Array.all_eq_true_iff_forall_mem]
  intro v hv
  simp only [tabV, List.mem_toArray, List.mem_map] at hv
  obtain ⟨j, _, rfl⟩ := hv
  rfl
theorem zero_tab (w : World) : (zeroValue 108).run Try.prog w = .ok (.agg (tabV 0)) w := by kernel_rfl
set_option maxHeartbeats 1000000 in
set_option maxRecDepth 100000 in
theorem steps_any (w : World) : Calls Try.prog 80 #[] w fun e w' => e = .returned (.agg (tabV 256)) ∧ Below w.heap.size w w' := by
  have hz := zero_tab
  go_enter Try.func80, Try.ntmps80
  go_wp2
  clear hz
  go_loopw [4] (fun i wr => ∃ k : Nat, k ≤ 256 ∧ i = .int .i64 k ∧ wr.heap[w.heap.size]? = some (.cells (tabV 0) 108 (0, 0)) ∧ wr.heap[w.heap.size + 1]? = some (.cells (tabV k) 108 (0, 0)) ∧ Below w.heap.size w wr) (fun i _ => 256 - (intOf i).toNat)
  case atStart => exact ⟨0, by omega, rfl, heap_alloc2_old _ _ _, heap_alloc2_new _ _ _, ((Below.refl _ _).alloc (Nat.le_refl _) _).alloc (by simp) _⟩
  case round =>
    obtain ⟨k, hk, rfl, h0, h1, hb⟩ := hrel
    have H0 := Lib.hid h0
    have H1 := Lib.hid h1
    have HB := Lib.hid hb
    by_cases hlt : k < 256
    · have hc : wr.cell? ⟨w.heap.size + 1, k, none⟩ = some (.int .u32 ((if k < k then stk 8 k else 0 : Nat) : Int)) := (cell_of_row _ _ _ _ _ _ h1).trans (tabV_get hlt)
      have hf : wr.frozen? ⟨w.heap.size + 1, k, none⟩ = false := frozen_of_row _ _ _ _ _ h1
      clear h0 h1 hb
      go_wp2_with (go_at_call 82; refine (eight_any _ (by omega) _).mono ?_; rintro e w' ⟨rfl, rfl⟩)
      go_roundw
      case rel =>
        exact ⟨k + 1, by omega, by go_num, (heap_setCell_other _ _ _ _ (by simp)).trans H0.out, (heap_setCell_same _ _ _ _ _ _ H1.out).trans (by rw [tabV_set hlt]), HB.out.setCell (by simp) _⟩
      case measure => simp [intOf]; omega
    · have h256 : k = 256 := by omega
      subst h256
      clear h0 h1 hb
      go_wp2_with (first | (refine wpList_load_row rfl 108 _ rfl (w.heap.size + 1) rfl 108 (tabV 256) (0, 0) _ H1.out Try.underlying108 rfl (tabV_info _) ?_) | (refine wpList_store_row rfl 108 _ _ rfl w.heap.size (tabV 256) rfl rfl 108 (tabV 0) H0.out (tabV_info _) (by rw [tabV_size, tabV_size]) (tabV_one _) ?_))
      exact bodyPost_ret (v := .agg (tabV 256)) (results_cell_row Try.results80 _ _ w.heap.size 108 (tabV 256) (0, 0) _ rfl (setRow_heap _ _ _ _ _ _ H0.out) Try.underlying108 rfl (tabV_info _)) rfl ⟨rfl, below_setRow HB.out (Nat.le_refl _) _⟩
def nb (s : ByteArray) : List Nat := s.data.toList.map fun b => b.toNat
theorem nb_length (s : ByteArray) : (nb s).length = s.size := by
  unfold nb
  rw [List.length_map, Array.length_toList]
  rfl
theorem nb_bn (s : ByteArray) : Bn (nb s) := by
  intro x hx
  obtain ⟨b, _, rfl⟩ := List.mem_map.1 hx
  have := b.toNat_lt
  omega
theorem nb_get (s : ByteArray) {k : Nat} (h : k < s.size) : (s[k]'h).toNat = (nb s).getD k 0 := by
  simp [nb, ByteArray.getElem_eq_getElem_data, List.getD_eq_getElem?_getD, h]
theorem not_nat {n : Nat} (h : n < 4294967296) : 4294967295 ^^^ n = 4294967295 - n := by
  apply Nat.eq_of_testBit_eq
  intro i
  have e1 := Nat.testBit_two_pow_sub_succ (n := 32) (x := n) (by omega) i
  have e2 := Nat.testBit_two_pow_sub_one 32 i
  rw [show 2 ^ 32 - (n + 1) = 4294967295 - n by omega] at e1
  rw [show 2 ^ 32 - 1 = 4294967295 by decide] at e2
  rw [Nat.testBit_xor, e1, e2]
  by_cases g : i < 32
  · rw [decide_eq_true g]
    cases n.testBit i <;> rfl
  · rw [decide_eq_false g, Nat.testBit_lt_two_pow (x := n) (Nat.lt_of_lt_of_le (show n < 2 ^ 32 by omega) (Nat.pow_le_pow_right (by decide) (by omega)))]
    rfl
theorem not_u32 {n : Nat} (h : n < 4294967296) : bits .xor .u32 IntKind.u32.max (n : Int) = ((4294967295 - n : Nat) : Int) := by
  have := u32_xor_nat 4294967295 n (by decide) h
  rw [not_nat h] at this
  exact this
set_option maxHeartbeats 1000000 in
set_option maxRecDepth 100000 in
theorem add_any (n : Nat) (hn : n < 4294967296) (s : ByteArray) (hs : s.size ≤ 9223372036854775807) (w : World) : Calls Try.prog 77 #[.int .u32 n, .string s] w fun e w' => e = .returned (.int .u32 (add n (nb s) : Nat)) ∧ Below w.heap.size w w' := by
  have hz := zero_tab
  have hx := not_u32 hn
  go_enter Try.func77, Try.ntmps77
  go_wp2_with (first | (go_at_call 80; refine (steps_any _).mono ?_; rintro e w1 ⟨rfl, hb⟩) | (refine wpList_store_row rfl 108 _ _ rfl w1.heap.size (tabV 256) rfl rfl 108 (tabV 0) (heap_alloc_new _ _) (tabV_info _) (by rw [tabV_size, tabV_size]) (tabV_one _) ?_))
  clear hz hx
  have hh : ((w1.alloc (.cells (tabV 0) 108)).setRow w1.heap.size (tabV 256)).heap[w1.heap.size]? = some (.cells (tabV 256) 108 (0, 0)) := setRow_heap _ _ _ _ _ _ (heap_alloc_new _ _)
  have HB := Lib.hid (below_setRow (hb.alloc hb.size (.cells (tabV 0) 108)) hb.size (tabV 256))
  clear hb
  generalize (w1.alloc (.cells (tabV 0) 108)).setRow w1.heap.size (tabV 256) = w2 at hh HB ⊢
  generalize w1.heap.size = B at hh ⊢
  have HH := Lib.hid hh
  clear hh
  go_loop [6, 13] (fun v i => ∃ k m : Nat, k ≤ s.size ∧ m < 4294967296 ∧ i = .int .i64 k ∧ v = .int .u32 m ∧ m = run (4294967295 - n) ((nb s).take k)) (fun _ i => s.size - (intOf i).toNat)
  case atStart => exact ⟨0, 4294967295 - n, by omega, by omega, rfl, rfl, rfl⟩
  case round =>
    obtain ⟨k, m, hk, hm, rfl, rfl, hr⟩ := hrel
    have HR := Lib.hid hr
    clear hr
    by_cases hlt : k < s.size
    · have hb : ∀ h : k < s.size, ((s[k]'h).toNat : Int) = ((nb s).getD k 0 : Nat) := fun h => by rw [nb_get s h]
      have hc : (nb s).getD k 0 < 256 := by rw [← nb_get s hlt]; exact (s[k]).toNat_lt
      have HN := Lib.hid (show (nb s).take (k + 1) = (nb s).take k ++ [(nb s).getD k 0] by
        rw [List.take_add_one, List.getD_eq_getElem?_getD, List.getElem?_eq_getElem (by rw [nb_length]; exact hlt)]
        rfl)
      generalize (nb s).getD k 0 = c at hb hc HN
      have hj : (m % 256) ^^^ c < 256 := Nat.xor_lt_two_pow (n := 8) (by omega) hc
      have e1 : bits .xor .u8 ((m : Int) % 256) (c : Int) = (((m % 256) ^^^ c : Nat) : Int) := by
        have := u8_xor_nat (m % 256) c (by omega) hc
        rw [← this]
        rfl
      have hcell : w2.cell? ⟨B, (m % 256) ^^^ c, none⟩ = some (.int .u32 (stk 8 ((m % 256) ^^^ c) : Nat)) := by
        rw [cell_of_row _ _ _ _ _ _ HH.out, tabV_get hj, if_pos hj]
      have hT := stk_lt 8 (n := (m % 256) ^^^ c) (by omega)
      have e2 : bits .xor .u32 ((m : Int) / 256) ((stk 8 ((m % 256) ^^^ c) : Nat) : Int) = ((m / 256 ^^^ stk 8 ((m % 256) ^^^ c) : Nat) : Int) := by
        have := u32_xor_nat (m / 256) (stk 8 ((m % 256) ^^^ c)) (by omega) hT
        rw [← this]
        rfl
      have HS := Lib.hid (tab_step m hc)
      have HL := Lib.hid (step_lt hm hc)
      generalize (m % 256) ^^^ c = j at hj e1 hcell hT e2 HS
      generalize stk 8 j = T at hcell hT e2 HS
      clear hT
      go_wp2
      go_round
      case rel => exact ⟨k + 1, m / 256 ^^^ T, by omega, by rw [← HS.out]; exact HL.out, by go_num, rfl, by rw [HN.out, run_append, ← HR.out, ← HS.out]; rfl⟩
      case measure => simp [intOf]; omega
    · have hks : k = s.size := by omega
      have hx := not_u32 hm
      go_wp2
      go_ret
      refine ⟨?_, HB.out⟩
      rw [HR.out, hks, List.take_of_length_le (by rw [nb_length]; exact Nat.le_refl _)]
      rfl
def check_Add.f (a0 : Int) (a1 : ByteArray) : Option Int := if 0 ≤ a0 ∧ a0 < 4294967296 ∧ a1.size ≤ 9223372036854775807 then some ((add a0.toNat (nb a1) : Nat) : Int) else none
theorem check_Add.calls (a0 : Int) (a1 : ByteArray) (r : Int) (w : World) (h : check_Add.f a0 a1 = some r) :
    Calls Try.prog 77 #[.int .u32 a0, .string a1] w fun e w' => e = .returned (.int .u32 r) ∧ Below w.heap.size w w' := by
  unfold check_Add.f at h
  by_cases g : 0 ≤ a0 ∧ a0 < 4294967296 ∧ a1.size ≤ 9223372036854775807
  · rw [if_pos g] at h
    obtain rfl := Option.some.inj h
    obtain ⟨n, rfl⟩ := Int.eq_ofNat_of_zero_le g.1
    rw [Int.toNat_natCast]
    exact add_any n (by omega) a1 g.2.2 w
  · rw [if_neg g] at h
    exact absurd h (by simp)
def fr (n : Nat) : List Int := [((n % 256 : Nat) : Int), ((n / 256 % 256 : Nat) : Int), ((n / 65536 % 256 : Nat) : Int), ((n / 16777216 % 256 : Nat) : Int)]
set_option maxHeartbeats 1000000 in
set_option maxRecDepth 100000 in
theorem mark_any (n : Nat) (hn : n < 4294967296) (w : World) : Calls Try.prog 66 #[.int .u32 n] w fun e w' => e = .returned (.string (strOfNums (fr n))) ∧ Below w.heap.size w w' := by
  have hmk : ∀ w : World, (Instr.makeSlice 77 (.int .i64 4) (.int .i64 4)).run Try.prog w = .ok (.slice (some ⟨w.heap.size, 0, none⟩) 4 4) (w.alloc (.cells #[.int .u8 0, .int .u8 0, .int .u8 0, .int .u8 0] 5)) := fun _ => by kernel_rfl
  go_enter Try.func66, Try.ntmps66
  go_wp2
  clear hmk
  refine wp_loop_rounds 5 ?_
  iterate 4 (rw [rounds_succ]; go_wp2)
  have hcv := run_convert_bytes_arg (P := Try.prog) (w.alloc (.cells #[.int .u8 ((n : Int) % 256), .int .u8 ((n : Int) / 256 % 256), .int .u8 ((n : Int) / 65536 % 256), .int .u8 ((n : Int) / 16777216)] 5)) 77 5 Try.underlying77 Try.underlying5 w.heap.size 0 4 4 [(n : Int) % 256, (n : Int) / 256 % 256, (n : Int) / 65536 % 256, (n : Int) / 16777216] rfl (by
    intro i hi
    match i, hi with
    | 0, _ => simp
    | 1, _ => simp
    | 2, _ => simp
    | 3, _ => simp) 9 Try.underlying9
  rw [rounds_succ]; go_wp2
  go_ret
  refine ⟨?_, (Below.refl _ _).alloc (Nat.le_refl _) _⟩
  unfold fr
  have e : [(n : Int) % 256, (n : Int) / 256 % 256, (n : Int) / 65536 % 256, (n : Int) / 16777216] = [((n % 256 : Nat) : Int), ((n / 256 % 256 : Nat) : Int), ((n / 65536 % 256 : Nat) : Int), ((n / 16777216 % 256 : Nat) : Int)] := by
    simp only [List.cons.injEq, and_true]
    omega
  rw [e]
  rfl
def check_mark.f (a0 : Int) : Option ByteArray := if 0 ≤ a0 ∧ a0 < 4294967296 then some (strOfNums (fr a0.toNat)) else none
theorem check_mark.calls (a0 : Int) (r : ByteArray) (w : World) (h : check_mark.f a0 = some r) :
    Calls Try.prog 66 #[.int .u32 a0] w fun e w' => e = .returned (.string r) ∧ Below w.heap.size w w' := by
  unfold check_mark.f at h
  by_cases g : 0 ≤ a0 ∧ a0 < 4294967296
  · rw [if_pos g] at h
    obtain rfl := Option.some.inj h
    obtain ⟨n, rfl⟩ := Int.eq_ofNat_of_zero_le g.1
    rw [Int.toNat_natCast]
    exact mark_any n (by omega) w
  · rw [if_neg g] at h
    exact absurd h (by simp)
end Go.Proofs.Ytkiepnmbimkadaa
