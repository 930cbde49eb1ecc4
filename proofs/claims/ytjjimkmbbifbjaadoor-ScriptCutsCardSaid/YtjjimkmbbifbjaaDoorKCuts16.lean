import Derived.Test.YtjjimkmbbifbjaaDoorKCuts15
import Derived.Test.YtjjimkmbbifbjaaDoorKCuts12
import Derived.Test.YtjjimkmbbifbjaaDoorKCuts4
import Derived.Test.YtjjimkmbbifbjaaDoorKCuts6
namespace Go.Proofs.YtjjimkmbbifbjaaDoor.TF
open Go Go.RowKit Go.Proofs.YtjjimkmbbifbjaaDoor.TP Go.Proofs.YtjjimkmbbifbjaaDoor.TW Go.Proofs.YtjjimkmbbifbjaaDoor.Pv Go.Proofs.YtjjimkmbbifbjaaDoorW.PrintWords
theorem w64 {n : Int} (h : -9223372036854775808 ≤ n ∧ n ≤ 9223372036854775807) : wrap64 n = n := IntWalk.wrap64_in n h
theorem w1 {i : Nat} (h : i ≤ 1000000000000) : wrap64 ((i : Int) + 1) = ((i + 1 : Nat) : Int) := by rw [w64 (by omega)]; rfl
theorem dsz (s : ByteArray) : s.data.toList.length = s.size := by rw [Array.length_toList]; rfl
theorem ext_dat (s : ByteArray) (a b : Nat) : (s.extract a b).data.toList = (s.data.toList.drop a).take (b - a) := by rw [Lib.extract_data]
theorem ext_rest (s : ByteArray) (a : Nat) : (s.extract a s.size).data.toList = s.data.toList.drop a := by
  rw [ext_dat, List.take_of_length_le (by rw [List.length_drop, dsz]; omega)]
theorem ext_all (s : ByteArray) : s.extract 0 s.size = s := ba_ext (by rw [ext_rest]; rfl)
theorem bt_dat (s : ByteArray) {i : Nat} (h : i < s.data.toList.length) : bt s (i : Int) = ((s.data.toList[i]'h).toNat : Int) := by
  unfold bt
  rw [dsz] at h
  simp only [Int.toNat_natCast]
  rw [dif_pos h]
  simp [ByteArray.getElem_eq_getElem_data]
theorem tl_inj {s t : ByteArray} : s.toList = t.toList ↔ s = t := by
  rw [Lib.toList_data, Lib.toList_data]
  exact ⟨ba_ext, fun h => by rw [h]⟩
theorem rd_at (l : List ByteArray) {i : Nat} (h : i < l.length) : rdOf ByteArray.empty l (i : Int) = l[i]'h := by
  unfold rdOf
  rw [Int.toNat_natCast, List.getD_eq_getElem?_getD, List.getElem?_eq_getElem h]
  rfl
theorem levels_loop (s : ByteArray) (hs : s.size ≤ 1000000) : ∀ (d k i from_ : Nat) (acc : List ByteArray), i + d = s.size → from_ ≤ i → d < k → acc.length ≤ i → (47 : UInt8) ∉ (s.data.toList.drop from_).take (i - from_) →
    rivuletref03_Levels.l0 k s acc from_ i = some (acc ++ lv (s.extract from_ s.size)) := by
  intro d
  induction d with
  | zero =>
    intro k i f acc hi hf hk ha hn
    obtain ⟨k, rfl⟩ : ∃ m, k = m + 1 := ⟨k - 1, by omega⟩
    simp only [rivuletref03_Levels.l0]
    rw [if_neg (by omega), if_pos (by omega), if_pos (by omega), if_pos (by omega), Int.toNat_natCast]
    have hq : lv (s.extract f s.size) = [s.extract f s.size] := by
      unfold lv
      rw [ext_rest]
      rw [show i - f = s.size - f by omega, List.take_of_length_le (by rw [List.length_drop, dsz]; omega)] at hn
      rw [split_plain _ hn]
      simp only [List.map_cons, List.map_nil]
      congr 1
      exact ba_ext (by rw [ext_rest])
    rw [hq]
  | succ d ih =>
    intro k i f acc hi hf hk ha hn
    obtain ⟨k, rfl⟩ : ∃ m, k = m + 1 := ⟨k - 1, by omega⟩
    have hil : i < s.data.toList.length := by rw [dsz]; omega
    simp only [rivuletref03_Levels.l0]
    rw [if_pos (by omega), if_pos (by omega), bt_dat s hil]
    have hdd : (s.data.toList.drop f).drop (i - f) = s.data.toList[i]'hil :: s.data.toList.drop (i + 1) := by
      rw [List.drop_drop, show f + (i - f) = i by omega, List.drop_eq_getElem_cons hil]
    by_cases h : s.data.toList[i]'hil = 47
    · rw [if_pos (by rw [h]; rfl), if_pos (by omega), if_pos (by omega), if_pos (by omega), if_pos (by omega), w1 (by omega), Int.toNat_natCast, Int.toNat_natCast, ih k (i + 1) (i + 1) _ (by omega) (by omega) (by omega) (by simp; omega) (by simp)]
      rw [List.append_assoc, List.singleton_append]
      congr 2
      unfold lv
      rw [ext_rest, ext_rest]
      have e : s.data.toList.drop f = (s.data.toList.drop f).take (i - f) ++ 47 :: s.data.toList.drop (i + 1) := by
        conv => lhs; rw [← List.take_append_drop (i - f) (s.data.toList.drop f)]
        rw [hdd, h]
      conv => rhs; rw [e]
      rw [split_app _ _ hn, List.map_cons]
      congr 1
      exact ba_ext (by rw [ext_dat])
    · have hne : ¬ (((s.data.toList[i]'hil).toNat : Int) = 47) := fun e => h (UInt8.toNat_inj.1 (by rw [show (47 : UInt8).toNat = 47 from rfl]; omega))
      rw [if_neg hne, w1 (by omega), ih k (i + 1) f acc (by omega) (by omega) (by omega) (by omega) ?_]
      rw [show i + 1 - f = (i - f) + 1 by omega, List.take_add_one]
      intro hm
      rcases List.mem_append.1 hm with hm | hm
      · exact hn hm
      · have hq : (s.data.toList.drop f)[i - f]? = some (s.data.toList[i]'hil) := by
          rw [List.getElem?_drop, show f + (i - f) = i by omega, List.getElem?_eq_getElem hil]
        rw [hq] at hm
        simp at hm
        exact h (by simpa using hm.symm)
theorem levels_f {s : ByteArray} (hs : s.size ≤ 1000000) {k : Nat} (hk : s.size < k) : rivuletref03_Levels.f k s = some (lv s) := by
  unfold rivuletref03_Levels.f
  have := levels_loop s hs s.size k 0 0 [] (by omega) (by omega) hk (by simp) (by simp)
  rw [ext_all] at this
  exact this
theorem name_step (c : Int) (A B : Option Bool) :
    (if c ≥ 97 then (if c ≤ 122 then A else (if c ≥ 48 then (if c ≤ 57 then A else (if c = 45 then A else (if (c = 95) then A else B))) else (if c = 45 then A else (if (c = 95) then A else B)))) else (if c ≥ 48 then (if c ≤ 57 then A else (if c = 45 then A else (if (c = 95) then A else B))) else (if c = 45 then A else (if (c = 95) then A else B)))) = if okc c = true then A else B := by
  unfold okc
  by_cases h : (97 ≤ c ∧ c ≤ 122) ∨ (48 ≤ c ∧ c ≤ 57) ∨ c = 45 ∨ c = 95
  · rw [decide_eq_true h, if_pos rfl]
    repeat' split
    all_goals first | rfl | (exfalso; omega)
  · rw [decide_eq_false h]
    simp only [Bool.false_eq_true, if_false]
    repeat' split
    all_goals first | rfl | (exfalso; omega)
theorem name_loop (s : ByteArray) (hs : s.size ≤ 1000000) : ∀ (d k i : Nat), i + d = s.size → d < k → rivuletref03_Name.l0 k s i = some ((s.data.toList.drop i).all nmc && (decide (1 ≤ s.size) && decide (s.size ≤ 16))) := by
  intro d
  induction d with
  | zero =>
    intro k i hi hk
    obtain ⟨k, rfl⟩ : ∃ m, k = m + 1 := ⟨k - 1, by omega⟩
    simp only [rivuletref03_Name.l0]
    rw [if_neg (by omega), List.drop_of_length_le (by rw [dsz]; omega)]
    simp only [List.all_nil, Bool.true_and]
    by_cases h : 1 ≤ s.size
    · rw [if_pos (by omega), decide_eq_true h, Bool.true_and]
      congr 1
      rw [decide_eq_decide]
      omega
    · rw [if_neg (by omega), decide_eq_false h, Bool.false_and]
  | succ d ih =>
    intro k i hi hk
    obtain ⟨k, rfl⟩ : ∃ m, k = m + 1 := ⟨k - 1, by omega⟩
    have hil : i < s.data.toList.length := by rw [dsz]; omega
    simp only [rivuletref03_Name.l0]
    rw [if_pos (by omega), if_pos (by omega), w1 (by omega), ih k (i + 1) (by omega) (by omega), name_step, bt_dat s hil, okc_nmc, List.drop_eq_getElem_cons hil, List.all_cons]
    cases nmc (s.data.toList[i]'hil) <;> simp
theorem name_f {s : ByteArray} (hs : s.size ≤ 1000000) {k : Nat} (hk : s.size < k) : rivuletref03_Name.f k s = some (nm s) := by
  unfold rivuletref03_Name.f nm
  have := name_loop s hs s.size k 0 (by omega) hk
  rw [show ((0 : Nat) : Int) = 0 from rfl] at this
  rw [this, List.drop_zero, Bool.and_assoc]
theorem right_loop (l : List ByteArray) (M : Nat) (hM : M ≤ 1000000) (hz : ∀ x ∈ l, x.size ≤ M) (hl : l.length ≤ 1000000) : ∀ (d k i : Nat), i + d = l.length → d + M < k → rivuletref03_Right.l0 k l i = some ((l.drop i).all nm && decide (l.length ≤ 8)) := by
  intro d
  induction d with
  | zero =>
    intro k i hi hk
    obtain ⟨k, rfl⟩ : ∃ m, k = m + 1 := ⟨k - 1, by omega⟩
    simp only [rivuletref03_Right.l0]
    rw [if_neg (by omega), List.drop_of_length_le (by omega)]
    simp only [List.all_nil, Bool.true_and, Option.some.injEq, decide_eq_decide]
    omega
  | succ d ih =>
    intro k i hi hk
    obtain ⟨k, rfl⟩ : ∃ m, k = m + 1 := ⟨k - 1, by omega⟩
    have hil : i < l.length := by omega
    have hx := hz _ (List.getElem_mem hil)
    simp only [rivuletref03_Right.l0]
    rw [if_pos (by omega), if_pos (by omega), rd_at l hil, name_f (by omega) (by omega), Option.bind_some, w1 (by omega), ih k (i + 1) (by omega) (by omega), List.drop_eq_getElem_cons hil, List.all_cons]
    cases nm (l[i]'hil) <;> simp
theorem right_f {s : ByteArray} (hs : s.size ≤ 900000) {k : Nat} (hk : 2 * s.size + 10 < k) : rivuletref03_Right.f k s = some (rightB s) := by
  unfold rivuletref03_Right.f
  have hll := lv_len s
  rw [levels_f (by omega) (by omega), Option.bind_some]
  have := right_loop (lv s) s.size (by omega) (fun x hx => lv_size hx) (by omega) (lv s).length k 0 (by omega) (by omega)
  rw [show ((0 : Nat) : Int) = 0 from rfl] at this
  rw [this, List.drop_zero]
  unfold rightB
  rw [Bool.and_comm]
end Go.Proofs.YtjjimkmbbifbjaaDoor.TF
