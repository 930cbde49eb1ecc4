/-
  Chapter 03: what the document's functions (printed) come to, on levels.
-/
import Derived.Test.YtfakimleoihfgaaDoorPr1
import Derived.Test.YtfakimleoihfgaaDoorPr2
import Derived.Test.YtfakimleoihfgaaDoorPr4
import Derived.Test.YtfakimleoihfgaaDoorPr5
import Derived.Test.YtfakimleoihfgaaDoorTopGiven
namespace Go.Proofs.YtfakimleoihfgaaDoor.TF
open Go Go.RowKit Go.Proofs.YtfakimleoihfgaaDoor.TP Go.Proofs.YtfakimleoihfgaaDoor.TW Go.Proofs.YtfakimleoihfgaaDoor.Pr Go.Proofs.YtfakimleoihfgaaDoorW.PrintWords

theorem w64 {n : Int} (h : -9223372036854775808 ≤ n ∧ n ≤ 9223372036854775807) : wrap64 n = n := IntWalk.wrap64_in n h
theorem w1 {i : Nat} (h : i ≤ 1000000000000) : wrap64 ((i : Int) + 1) = ((i + 1 : Nat) : Int) := by rw [w64 (by omega)]; rfl
theorem dsz (s : ByteArray) : s.data.toList.length = s.size := by rw [Array.length_toList]; rfl
theorem ext_dat (s : ByteArray) (a b : Nat) : (s.extract a b).data.toList = (s.data.toList.drop a).take (b - a) := by rw [Lib.extract_data]
theorem ext_rest (s : ByteArray) (a : Nat) : (s.extract a s.size).data.toList = s.data.toList.drop a := by
  rw [ext_dat, List.take_of_length_le (by rw [List.length_drop, dsz]; omega)]
theorem ext_all (s : ByteArray) : s.extract 0 s.size = s := ba_ext (by rw [ext_rest]; rfl)
theorem bt_dat (s : ByteArray) {i : Nat} (h : i < s.data.toList.length) : bt s (i : Int) = ((s.data.toList[i]'h).toNat : Int) := by
  unfold bt
  rw [dsz] at h
  simp only [Int.toNat_natCast]
  rw [dif_pos h]
  simp [ByteArray.getElem_eq_getElem_data]
theorem tl_inj {s t : ByteArray} : s.toList = t.toList ↔ s = t := by
  rw [Lib.toList_data, Lib.toList_data]
  exact ⟨ba_ext, fun h => by rw [h]⟩
theorem tl_one {x : ByteArray} : x.toList = [43] ↔ x = TP.one := by
  rw [← tl_inj, Lib.toList_data TP.one]
  rfl
theorem tl_rest {x : ByteArray} : x.toList = [35] ↔ x = TP.rest := by
  rw [← tl_inj, Lib.toList_data TP.rest]
  rfl
theorem rd_at (l : List ByteArray) {i : Nat} (h : i < l.length) : rdOf ByteArray.empty l (i : Int) = l[i]'h := by
  unfold rdOf
  rw [Int.toNat_natCast, List.getD_eq_getElem?_getD, List.getElem?_eq_getElem h]
  rfl
-- Levels.
theorem levels_loop (s : ByteArray) (hs : s.size ≤ 1000000) : ∀ (d k i from_ : Nat) (acc : List ByteArray), i + d = s.size → from_ ≤ i → d < k → acc.length ≤ i → (47 : UInt8) ∉ (s.data.toList.drop from_).take (i - from_) →
    rivuletref03_Levels.l0 k s acc from_ i = some (acc ++ lv (s.extract from_ s.size)) := by
  intro d
  induction d with
  | zero =>
    intro k i f acc hi hf hk ha hn
    obtain ⟨k, rfl⟩ : ∃ m, k = m + 1 := ⟨k - 1, by omega⟩
    simp only [rivuletref03_Levels.l0]
    rw [if_neg (by omega), if_pos (by omega), if_pos (by omega), if_pos (by omega), Int.toNat_natCast]
    have hq : lv (s.extract f s.size) = [s.extract f s.size] := by
      unfold lv
      rw [ext_rest]
      rw [show i - f = s.size - f by omega, List.take_of_length_le (by rw [List.length_drop, dsz]; omega)] at hn
      rw [split_plain _ hn]
      simp only [List.map_cons, List.map_nil]
      congr 1
      exact ba_ext (by rw [ext_rest])
    rw [hq]
  | succ d ih =>
    intro k i f acc hi hf hk ha hn
    obtain ⟨k, rfl⟩ : ∃ m, k = m + 1 := ⟨k - 1, by omega⟩
    have hil : i < s.data.toList.length := by rw [dsz]; omega
    simp only [rivuletref03_Levels.l0]
    rw [if_pos (by omega), if_pos (by omega), bt_dat s hil]
    have hdd : (s.data.toList.drop f).drop (i - f) = s.data.toList[i]'hil :: s.data.toList.drop (i + 1) := by
      rw [List.drop_drop, show f + (i - f) = i by omega, List.drop_eq_getElem_cons hil]
    by_cases h : s.data.toList[i]'hil = 47
    · rw [if_pos (by rw [h]; rfl), if_pos (by omega), if_pos (by omega), if_pos (by omega), if_pos (by omega), w1 (by omega), Int.toNat_natCast, Int.toNat_natCast, ih k (i + 1) (i + 1) _ (by omega) (by omega) (by omega) (by simp; omega) (by simp)]
      rw [List.append_assoc, List.singleton_append]
      congr 2
      unfold lv
      rw [ext_rest, ext_rest]
      have e : s.data.toList.drop f = (s.data.toList.drop f).take (i - f) ++ 47 :: s.data.toList.drop (i + 1) := by
        conv => lhs; rw [← List.take_append_drop (i - f) (s.data.toList.drop f)]
        rw [hdd, h]
      conv => rhs; rw [e]
      rw [split_app _ _ hn, List.map_cons]
      congr 1
      exact ba_ext (by rw [ext_dat])
    · have hne : ¬ (((s.data.toList[i]'hil).toNat : Int) = 47) := fun e => h (UInt8.toNat_inj.1 (by rw [show (47 : UInt8).toNat = 47 from rfl]; omega))
      rw [if_neg hne, w1 (by omega), ih k (i + 1) f acc (by omega) (by omega) (by omega) (by omega) ?_]
      rw [show i + 1 - f = (i - f) + 1 by omega, List.take_add_one]
      intro hm
      rcases List.mem_append.1 hm with hm | hm
      · exact hn hm
      · have hq : (s.data.toList.drop f)[i - f]? = some (s.data.toList[i]'hil) := by
          rw [List.getElem?_drop, show f + (i - f) = i by omega, List.getElem?_eq_getElem hil]
        rw [hq] at hm
        simp at hm
        exact h (by simpa using hm.symm)
theorem levels_f {s : ByteArray} (hs : s.size ≤ 1000000) {k : Nat} (hk : s.size < k) : rivuletref03_Levels.f k s = some (lv s) := by
  unfold rivuletref03_Levels.f
  have := levels_loop s hs s.size k 0 0 [] (by omega) (by omega) hk (by simp) (by simp)
  rw [ext_all] at this
  exact this
-- Name.
theorem name_step (c : Int) (A B : Option Bool) :
    (if c ≥ 97 then (if c ≤ 122 then A else (if c ≥ 48 then (if c ≤ 57 then A else (if c = 45 then A else (if (c = 95) then A else B))) else (if c = 45 then A else (if (c = 95) then A else B)))) else (if c ≥ 48 then (if c ≤ 57 then A else (if c = 45 then A else (if (c = 95) then A else B))) else (if c = 45 then A else (if (c = 95) then A else B)))) = if okc c = true then A else B := by
  unfold okc
  by_cases h : (97 ≤ c ∧ c ≤ 122) ∨ (48 ≤ c ∧ c ≤ 57) ∨ c = 45 ∨ c = 95
  · rw [decide_eq_true h, if_pos rfl]
    repeat' split
    all_goals first | rfl | (exfalso; omega)
  · rw [decide_eq_false h]
    simp only [Bool.false_eq_true, if_false]
    repeat' split
    all_goals first | rfl | (exfalso; omega)
theorem name_loop (s : ByteArray) (hs : s.size ≤ 1000000) : ∀ (d k i : Nat), i + d = s.size → d < k → rivuletref03_Name.l0 k s i = some ((s.data.toList.drop i).all nmc && (decide (1 ≤ s.size) && decide (s.size ≤ 16))) := by
  intro d
  induction d with
  | zero =>
    intro k i hi hk
    obtain ⟨k, rfl⟩ : ∃ m, k = m + 1 := ⟨k - 1, by omega⟩
    simp only [rivuletref03_Name.l0]
    rw [if_neg (by omega), List.drop_of_length_le (by rw [dsz]; omega)]
    simp only [List.all_nil, Bool.true_and]
    by_cases h : 1 ≤ s.size
    · rw [if_pos (by omega), decide_eq_true h, Bool.true_and]
      congr 1
      rw [decide_eq_decide]
      omega
    · rw [if_neg (by omega), decide_eq_false h, Bool.false_and]
  | succ d ih =>
    intro k i hi hk
    obtain ⟨k, rfl⟩ : ∃ m, k = m + 1 := ⟨k - 1, by omega⟩
    have hil : i < s.data.toList.length := by rw [dsz]; omega
    simp only [rivuletref03_Name.l0]
    rw [if_pos (by omega), if_pos (by omega), w1 (by omega), ih k (i + 1) (by omega) (by omega), name_step, bt_dat s hil, okc_nmc, List.drop_eq_getElem_cons hil, List.all_cons]
    cases nmc (s.data.toList[i]'hil) <;> simp
theorem name_f {s : ByteArray} (hs : s.size ≤ 1000000) {k : Nat} (hk : s.size < k) : rivuletref03_Name.f k s = some (nm s) := by
  unfold rivuletref03_Name.f nm
  have := name_loop s hs s.size k 0 (by omega) hk
  rw [show ((0 : Nat) : Int) = 0 from rfl] at this
  rw [this, List.drop_zero, Bool.and_assoc]
-- Right and Filter.
theorem right_loop (l : List ByteArray) (M : Nat) (hM : M ≤ 1000000) (hz : ∀ x ∈ l, x.size ≤ M) (hl : l.length ≤ 1000000) : ∀ (d k i : Nat), i + d = l.length → d + M < k → rivuletref03_Right.l0 k l i = some ((l.drop i).all nm && decide (l.length ≤ 8)) := by
  intro d
  induction d with
  | zero =>
    intro k i hi hk
    obtain ⟨k, rfl⟩ : ∃ m, k = m + 1 := ⟨k - 1, by omega⟩
    simp only [rivuletref03_Right.l0]
    rw [if_neg (by omega), List.drop_of_length_le (by omega)]
    simp only [List.all_nil, Bool.true_and, Option.some.injEq, decide_eq_decide]
    omega
  | succ d ih =>
    intro k i hi hk
    obtain ⟨k, rfl⟩ : ∃ m, k = m + 1 := ⟨k - 1, by omega⟩
    have hil : i < l.length := by omega
    have hx := hz _ (List.getElem_mem hil)
    simp only [rivuletref03_Right.l0]
    rw [if_pos (by omega), if_pos (by omega), rd_at l hil, name_f (by omega) (by omega), Option.bind_some, w1 (by omega), ih k (i + 1) (by omega) (by omega), List.drop_eq_getElem_cons hil, List.all_cons]
    cases nm (l[i]'hil) <;> simp
theorem right_f {s : ByteArray} (hs : s.size ≤ 900000) {k : Nat} (hk : 2 * s.size + 10 < k) : rivuletref03_Right.f k s = some (rightB s) := by
  unfold rivuletref03_Right.f
  have hll := lv_len s
  rw [levels_f (by omega) (by omega), Option.bind_some]
  have := right_loop (lv s) s.size (by omega) (fun x hx => lv_size hx) (by omega) (lv s).length k 0 (by omega) (by omega)
  rw [show ((0 : Nat) : Int) = 0 from rfl] at this
  rw [this, List.drop_zero]
  unfold rightB
  rw [Bool.and_comm]
theorem filter_loop (l : List ByteArray) (M : Nat) (hM : M ≤ 1000000) (hz : ∀ x ∈ l, x.size ≤ M) (hl : l.length ≤ 1000000) : ∀ (d k i : Nat), i + d = l.length → d + M < k → rivuletref03_Filter.l0 k l i = some (fltL (l.drop i) && decide (l.length ≤ 8)) := by
  intro d
  induction d with
  | zero =>
    intro k i hi hk
    obtain ⟨k, rfl⟩ : ∃ m, k = m + 1 := ⟨k - 1, by omega⟩
    simp only [rivuletref03_Filter.l0]
    rw [if_neg (by omega), List.drop_of_length_le (by omega)]
    simp only [fltL, Bool.true_and, Option.some.injEq, decide_eq_decide]
    omega
  | succ d ih =>
    intro k i hi hk
    obtain ⟨k, rfl⟩ : ∃ m, k = m + 1 := ⟨k - 1, by omega⟩
    have hil : i < l.length := by omega
    have hx := hz _ (List.getElem_mem hil)
    simp only [rivuletref03_Filter.l0]
    rw [if_pos (by omega), if_pos (by omega), rd_at l hil, name_f (by omega) (by omega), Option.bind_some, w1 (by omega), ih k (i + 1) (by omega) (by omega), flt_step hil, w64 (by omega)]
    simp only [tl_one, tl_rest]
    cases nm (l[i]'hil) with
    | true => simp
    | false =>
      by_cases h1 : l[i]'hil = TP.one
      · rw [h1]; simp
      · rw [if_neg (by simp), if_neg h1]
        by_cases h2 : l[i]'hil = TP.rest
        · rw [if_pos h2]
          by_cases h3 : i + 1 = l.length
          · rw [if_neg (by omega), h2]
            simp [h3]
          · rw [if_pos (by omega), h2]
            simp [h3, show ¬ TP.rest = TP.one from fun e => one_ne e.symm]
        · rw [if_neg h2]
          simp [h1, h2]
theorem filter_f {s : ByteArray} (hs : s.size ≤ 900000) {k : Nat} (hk : 2 * s.size + 10 < k) : rivuletref03_Filter.f k s = some (filterB s) := by
  unfold rivuletref03_Filter.f
  have hll := lv_len s
  rw [levels_f (by omega) (by omega), Option.bind_some]
  have := filter_loop (lv s) s.size (by omega) (fun x hx => lv_size hx) (by omega) (lv s).length k 0 (by omega) (by omega)
  rw [show ((0 : Nat) : Int) = 0 from rfl] at this
  rw [this, List.drop_zero]
  unfold filterB
  rw [Bool.and_comm]
-- Same.
theorem same_loop (l m : List ByteArray) (hl : l.length = m.length) (hb : l.length ≤ 4611686018427387904) : ∀ (d k i : Nat), i + d = l.length → d < k → rivuletref02_Same.l0 k l m i = some (decide (l.drop i = m.drop i)) := by
  intro d
  induction d with
  | zero =>
    intro k i hi hk
    obtain ⟨k, rfl⟩ : ∃ m, k = m + 1 := ⟨k - 1, by omega⟩
    simp only [rivuletref02_Same.l0]
    rw [if_neg (by omega), List.drop_of_length_le (by omega), List.drop_of_length_le (by omega)]
    rfl
  | succ d ih =>
    intro k i hi hk
    obtain ⟨k, rfl⟩ : ∃ m, k = m + 1 := ⟨k - 1, by omega⟩
    simp only [rivuletref02_Same.l0]
    rw [if_pos (by omega), if_pos (by omega), if_pos (by omega), rd_at l (by omega), rd_at m (by omega), List.drop_eq_getElem_cons (show i < l.length by omega), List.drop_eq_getElem_cons (show i < m.length by omega)]
    by_cases h : l[i]'(by omega) = m[i]'(by omega)
    · rw [if_pos (by rw [h]), w64 (by omega), show (i : Int) + 1 = ((i + 1 : Nat) : Int) by omega, ih k (i + 1) (by omega) (by omega)]
      congr 1
      rw [decide_eq_decide, List.cons.injEq]
      exact ⟨fun g => ⟨h, g⟩, fun g => g.2⟩
    · rw [if_neg (fun g => h (tl_inj.1 g)), decide_eq_false (fun g => h (List.cons.inj g).1)]
theorem same_f (l m : List ByteArray) (hb : l.length ≤ 4611686018427387904) {k : Nat} (hk : l.length < k) : rivuletref02_Same.f k l m = some (decide (l = m)) := by
  unfold rivuletref02_Same.f
  by_cases h : l.length = m.length
  · rw [if_pos (by omega)]
    exact same_loop l m h hb l.length k 0 (by omega) hk
  · rw [if_neg (by omega), decide_eq_false (fun g => h (by rw [g]))]
-- Less.
theorem rless_loop (x y : ByteArray) (hx : x.size ≤ 1000000) (hy : y.size ≤ 1000000) : ∀ (d k i : Nat), i + d = x.size → i ≤ y.size → 2 * d + 2 ≤ k → rivuletref01_Less.l0 k x y i = some (Op.bytesLess (x.data.toList.drop i) (y.data.toList.drop i)) := by
  intro d
  induction d with
  | zero =>
    intro k i hi hiy hk
    obtain ⟨k, rfl⟩ : ∃ m, k = m + 2 := ⟨k - 2, by omega⟩
    simp only [rivuletref01_Less.l0]
    rw [if_neg (by omega)]
    simp only [rivuletref01_Less.j1]
    rw [if_neg (by decide), List.drop_of_length_le (show x.data.toList.length ≤ i by rw [dsz]; omega)]
    by_cases h : x.size < y.size
    · rw [List.drop_eq_getElem_cons (show i < y.data.toList.length by rw [dsz]; omega), decide_eq_true (by omega)]
      rfl
    · rw [List.drop_of_length_le (show y.data.toList.length ≤ i by rw [dsz]; omega), decide_eq_false (by omega)]
      rfl
  | succ d ih =>
    intro k i hi hiy hk
    obtain ⟨k, rfl⟩ : ∃ m, k = m + 2 := ⟨k - 2, by omega⟩
    have hil : i < x.data.toList.length := by rw [dsz]; omega
    simp only [rivuletref01_Less.l0]
    rw [if_pos (by omega)]
    by_cases h : i < y.size
    · have hiy : i < y.data.toList.length := by rw [dsz]; omega
      simp only [rivuletref01_Less.j1]
      rw [if_pos (by simp; omega), if_pos (by omega), if_pos (by omega), if_pos (by omega), bt_dat x hil, bt_dat y hiy, w1 (by omega), ih k (i + 1) (by omega) (by omega) (by omega), List.drop_eq_getElem_cons hil, List.drop_eq_getElem_cons hiy]
      simp only [Op.bytesLess]
      generalize x.data.toList[i]'hil = a
      generalize y.data.toList[i]'hiy = b
      by_cases e : a = b
      · subst e
        simp
      · have e2 : ¬ ((a.toNat : Int) = (b.toNat : Int)) := fun g => e (UInt8.toNat_inj.1 (by omega))
        rw [if_neg e2]
        have e3 : (a == b) = false := by simpa using e
        simp only [e3, Bool.false_and, Bool.or_false, Option.some.injEq]
        rw [decide_eq_decide, UInt8.lt_iff_toNat_lt]
        omega
    · simp only [rivuletref01_Less.j1]
      rw [if_neg (by simp; omega), List.drop_of_length_le (show y.data.toList.length ≤ i by rw [dsz]; omega), List.drop_eq_getElem_cons hil, decide_eq_false (by omega)]
      rfl
theorem rless_f {x y : ByteArray} (hx : x.size ≤ 1000000) (hy : y.size ≤ 1000000) {k : Nat} (hk : 2 * x.size + 2 ≤ k) : rivuletref01_Less.f k x y = some (ltB x y) := by
  unfold rivuletref01_Less.f
  have := rless_loop x y hx hy x.size k 0 (by omega) (by omega) hk
  rw [show ((0 : Nat) : Int) = 0 from rfl] at this
  rw [this]
  rfl
theorem lless_loop (l m : List ByteArray) (M : Nat) (hM : M ≤ 1000000) (hl : l.length ≤ 1000000) (hm : m.length ≤ 1000000) (hz : ∀ x ∈ l, x.size ≤ M) (hz2 : ∀ x ∈ m, x.size ≤ M) : ∀ (d k i : Nat), i + d = l.length → i ≤ m.length → 2 * d + 2 * M + 5 ≤ k → rivuletref03_Less.l0 k l m i = some (lessL (l.drop i) (m.drop i)) := by
  intro d
  induction d with
  | zero =>
    intro k i hi him hk
    obtain ⟨k, rfl⟩ : ∃ m, k = m + 2 := ⟨k - 2, by omega⟩
    simp only [rivuletref03_Less.l0]
    rw [if_neg (by omega)]
    simp only [rivuletref03_Less.j1]
    rw [if_neg (by decide), List.drop_of_length_le (show l.length ≤ i by omega)]
    by_cases h : l.length < m.length
    · rw [List.drop_eq_getElem_cons (show i < m.length by omega), decide_eq_true (by omega)]
      rfl
    · rw [List.drop_of_length_le (show m.length ≤ i by omega), decide_eq_false (by omega)]
      rfl
  | succ d ih =>
    intro k i hi him hk
    obtain ⟨k, rfl⟩ : ∃ m, k = m + 2 := ⟨k - 2, by omega⟩
    have hil : i < l.length := by omega
    simp only [rivuletref03_Less.l0]
    rw [if_pos (by omega)]
    by_cases h : i < m.length
    · have h1 := hz _ (List.getElem_mem hil)
      have h2 := hz2 _ (List.getElem_mem h)
      simp only [rivuletref03_Less.j1]
      rw [if_pos (by simp; omega), if_pos (by omega), if_pos (by omega), if_pos (by omega), rd_at l hil, rd_at m h, rless_f (by omega) (by omega) (by omega), w1 (by omega), ih k (i + 1) (by omega) (by omega) (by omega), List.drop_eq_getElem_cons hil, List.drop_eq_getElem_cons h]
      simp only [lessL, tl_inj, Option.bind_some]
      by_cases e : l[i]'hil = m[i]'h
      · rw [if_pos e, if_pos e]
      · rw [if_neg e, if_neg e]
    · simp only [rivuletref03_Less.j1]
      rw [if_neg (by simp; omega), List.drop_of_length_le (show m.length ≤ i by omega), List.drop_eq_getElem_cons hil, decide_eq_false (by omega)]
      rfl
theorem less_f {s t : ByteArray} (hs : s.size ≤ 900000) (ht : t.size ≤ 900000) {k : Nat} (hk : 4 * (s.size + t.size) + 20 ≤ k) : rivuletref03_Less.f k s t = some (lessB s t) := by
  unfold rivuletref03_Less.f
  have h1 := lv_len s
  have h2 := lv_len t
  rw [levels_f (by omega) (by omega), Option.bind_some, levels_f (by omega) (by omega), Option.bind_some]
  have h3 : ∀ x ∈ lv s, x.size ≤ max s.size t.size := fun x hx => by have := lv_size hx; omega
  have h4 : ∀ x ∈ lv t, x.size ≤ max s.size t.size := fun x hx => by have := lv_size hx; omega
  have := lless_loop (lv s) (lv t) (max s.size t.size) (by omega) (by omega) (by omega) h3 h4 (lv s).length k 0 (by omega) (by omega) (by omega)
  rw [show ((0 : Nat) : Int) = 0 from rfl] at this
  rw [this]
  rfl
-- Row.
theorem row_loop (n : Nat) (hn : n ≤ 1000000) : ∀ (d k : Nat) (acc : List ByteArray), acc.length ≤ 1000000 → n - acc.length = d → d < k → rivuletref03_Row.l0 k n acc = some (acc ++ List.replicate d TP.one, decide (acc.length ≤ n)) := by
  intro d
  induction d with
  | zero =>
    intro k acc ha hd hk
    obtain ⟨k, rfl⟩ : ∃ m, k = m + 1 := ⟨k - 1, by omega⟩
    simp only [rivuletref03_Row.l0]
    rw [if_neg (by omega)]
    simp only [List.replicate_zero, List.append_nil, Option.some.injEq, Prod.mk.injEq, true_and]
    rw [Bool.eq_iff_iff]
    simp
    omega
  | succ d ih =>
    intro k acc ha hd hk
    obtain ⟨k, rfl⟩ : ∃ m, k = m + 1 := ⟨k - 1, by omega⟩
    simp only [rivuletref03_Row.l0]
    rw [if_pos (by omega), if_pos (by omega), ih k _ (by simp; omega) (by simp; omega) (by omega)]
    simp only [Option.some.injEq, Prod.mk.injEq, List.append_assoc, List.singleton_append, List.length_append, List.length_singleton]
    exact ⟨by rw [List.replicate_succ]; rfl, by rw [decide_eq_decide]; omega⟩
theorem row_f {s : ByteArray} (hs : s.size ≤ 900000) {n : Nat} (hn : n ≤ 900000) {k : Nat} (hk : s.size + n + 10 < k) : rivuletref03_Row.f k s n = some (rowR TP.one TP.rest (lv s) n) := by
  unfold rivuletref03_Row.f
  have h1 := lv_len s
  have h2 := lv_pos s
  rw [levels_f (by omega) (by omega), Option.bind_some]
  generalize lv s = l at *
  have e : wrap64 ((l.length : Int) - 1) = ((l.length - 1 : Nat) : Int) := by rw [w64 (by omega)]; omega
  have hil : l.length - 1 < l.length := by omega
  rw [e, if_pos (by omega), if_pos (by omega), rd_at l hil]
  have hlast : l.getLast? = some (l[l.length - 1]'hil) := by rw [List.getLast?_eq_getElem?, List.getElem?_eq_getElem hil]
  unfold rowR
  rw [hlast]
  simp only [tl_rest, Option.some.injEq]
  by_cases h : l[l.length - 1]'hil = TP.rest
  · rw [if_pos h, if_pos h, Option.bind_some, if_pos (by omega), Option.bind_some, Int.toNat_natCast]
    have hlen : ([] ++ l.take (l.length - 1)).length = l.length - 1 := by simp
    rw [if_pos (by rw [List.length_take]; simp; omega), row_loop n (by omega) (n - (l.length - 1)) k _ (by rw [hlen]; omega) (by rw [hlen]) (by omega), hlen]
    simp only [List.nil_append, List.dropLast_eq_take]
  · rw [if_neg h, if_neg h]
    simp only [Option.some.injEq, Prod.mk.injEq, true_and]
    rw [Bool.eq_iff_iff]
    simp
    omega
theorem rowR_len {l : List ByteArray} {n : Nat} (h : (rowR TP.one TP.rest l n).2 = true) : (rowR TP.one TP.rest l n).1.length = n := by
  unfold rowR at h ⊢
  split
  · rename_i e
    rw [if_pos e] at h
    simp at h ⊢
    omega
  · rename_i e
    rw [if_neg e] at h
    simpa using h
theorem rowR_long {l : List ByteArray} {n M : Nat} (hl : l.length ≤ M) (hn : n ≤ M) : (rowR TP.one TP.rest l n).1.length ≤ 2 * M := by
  unfold rowR
  split
  · simp
    omega
  · simp
    omega
-- Match.
theorem pw_step {x y : List ByteArray} {i : Nat} (hx : i < x.length) (hy : i < y.length) : pw TP.one (x.drop i) (y.drop i) = ((decide (x[i]'hx = TP.one) || decide (x[i]'hx = y[i]'hy)) && pw TP.one (x.drop (i + 1)) (y.drop (i + 1))) := by
  rw [List.drop_eq_getElem_cons hx, List.drop_eq_getElem_cons hy]
  rfl
theorem qw_step {x y : List ByteArray} {i : Nat} (hx : i < x.length) (hy : i < y.length) : qw TP.one (x.drop i) (y.drop i) = ((decide (x[i]'hx = TP.one) || decide (y[i]'hy = TP.one) || decide (x[i]'hx = y[i]'hy)) && qw TP.one (x.drop (i + 1)) (y.drop (i + 1))) := by
  rw [List.drop_eq_getElem_cons hx, List.drop_eq_getElem_cons hy]
  rfl
theorem tl_beq (x y : ByteArray) : (x.toList == y.toList) = decide (x = y) := by
  rw [Bool.eq_iff_iff, beq_iff_eq, decide_eq_true_eq]
  exact tl_inj
theorem match_no (t f : List ByteArray) (k i : Nat) (hk : 1 ≤ k) : rivuletref03_Match.l0 k t f false i = some false := by
  obtain ⟨k, rfl⟩ : ∃ m, k = m + 1 := ⟨k - 1, by omega⟩
  simp only [rivuletref03_Match.l0]
  split <;> simp
theorem match_loop (t f : List ByteArray) (hl : f.length = t.length) (hb : t.length ≤ 1000000) : ∀ (d k i : Nat), i + d = t.length → d + 1 < k → rivuletref03_Match.l0 k t f true i = some (pw TP.one (f.drop i) (t.drop i)) := by
  intro d
  induction d with
  | zero =>
    intro k i hi hk
    obtain ⟨k, rfl⟩ : ∃ m, k = m + 1 := ⟨k - 1, by omega⟩
    simp only [rivuletref03_Match.l0]
    rw [if_neg (by omega), List.drop_of_length_le (show f.length ≤ i by omega), List.drop_of_length_le (show t.length ≤ i by omega)]
    rfl
  | succ d ih =>
    intro k i hi hk
    obtain ⟨k, rfl⟩ : ∃ m, k = m + 1 := ⟨k - 1, by omega⟩
    simp only [rivuletref03_Match.l0]
    rw [if_pos (by omega), if_pos trivial, if_pos (by omega), if_pos (by omega), rd_at f (by omega), rd_at t (by omega), w1 (by omega), ih k (i + 1) (by omega) (by omega), pw_step (show i < f.length by omega) (show i < t.length by omega), tl_beq]
    simp only [tl_one]
    by_cases h : f[i]'(by omega) = TP.one
    · rw [if_pos h]; simp [h]
    · rw [if_neg h]
      by_cases e : f[i]'(by omega) = t[i]'(by omega)
      · rw [decide_eq_true e, ih k (i + 1) (by omega) (by omega)]
        simp
      · rw [decide_eq_false e, match_no _ _ _ _ (by omega)]
        simp [h]
theorem match_f {f t : ByteArray} (hf : f.size ≤ 400000) (ht : t.size ≤ 400000) {k : Nat} (hk : 4 * (f.size + t.size) + 40 < k) : rivuletref03_Match.f k f t = some (matchB f t) := by
  unfold rivuletref03_Match.f matchB
  have h1 := lv_len f
  have h2 := lv_len t
  rw [filter_f (by omega) (by omega), Option.bind_some]
  obtain ⟨k, rfl⟩ : ∃ m, k = m + 1 := ⟨k - 1, by omega⟩
  cases hff : filterB f with
  | false =>
    rw [if_neg (by decide)]
    simp only [rivuletref03_Match.j0]
    rfl
  | true =>
    rw [if_pos rfl, right_f (by omega) (by omega), Option.bind_some]
    cases hrt : rightB t with
    | false =>
      simp only [rivuletref03_Match.j0]
      rfl
    | true =>
      simp only [rivuletref03_Match.j0]
      rw [if_neg (by decide), levels_f (by omega) (by omega), Option.bind_some, row_f (by omega) (by omega) (by omega), Option.bind_some]
      obtain ⟨_, _, wf⟩ := filter_facts hff
      rw [pm_matchR _ _ wf]
      unfold matchR
      simp only [Bool.true_and]
      cases hr : (rowR TP.one TP.rest (lv f) (lv t).length).2 with
      | false =>
        have := match_no (lv t) (rowR TP.one TP.rest (lv f) (lv t).length).1 k 0 (by omega)
        rw [show ((0 : Nat) : Int) = 0 from rfl] at this
        rw [this]
        rfl
      | true =>
        have := match_loop (lv t) (rowR TP.one TP.rest (lv f) (lv t).length).1 (rowR_len hr) (by omega) (lv t).length k 0 (by omega) (by omega)
        rw [show ((0 : Nat) : Int) = 0 from rfl] at this
        rw [this]
        rfl
-- Covers.
def covFrom (a b : List ByteArray) (n : Nat) : Bool := (List.range' n (9 - n)).all fun n => !(rowR TP.one TP.rest b n).2 || ((rowR TP.one TP.rest a n).2 && pw TP.one (rowR TP.one TP.rest a n).1 (rowR TP.one TP.rest b n).1)
theorem covFrom_step {a b : List ByteArray} {n : Nat} (h : n ≤ 8) : covFrom a b n = ((!(rowR TP.one TP.rest b n).2 || ((rowR TP.one TP.rest a n).2 && pw TP.one (rowR TP.one TP.rest a n).1 (rowR TP.one TP.rest b n).1)) && covFrom a b (n + 1)) := by
  unfold covFrom
  rw [show 9 - n = (9 - (n + 1)) + 1 by omega, List.range'_succ, List.all_cons]
theorem covers_in (a b : ByteArray) (n : Nat) (hn : n ≤ 8) (y x : List ByteArray) (c : Bool) (hx : x.length = n) (hy : y.length = n) (K : Nat) (hc : ∀ k, K ≤ k → rivuletref03_Covers.l0 k a b ((n + 1 : Nat) : Int) = some c) :
    ∀ (d k i : Nat), i + d = n → K + d + 2 ≤ k → rivuletref03_Covers.l1 k a b n y true x true i = some (pw TP.one (x.drop i) (y.drop i) && c) := by
  intro d
  induction d with
  | zero =>
    intro k i hi hk
    obtain ⟨k, rfl⟩ : ∃ m, k = m + 1 := ⟨k - 1, by omega⟩
    simp only [rivuletref03_Covers.l1]
    rw [if_neg (by omega), if_pos trivial, if_pos trivial, w1 (by omega), hc k (by omega), List.drop_of_length_le (show x.length ≤ i by omega), List.drop_of_length_le (show y.length ≤ i by omega)]
    rfl
  | succ d ih =>
    intro k i hi hk
    obtain ⟨k, rfl⟩ : ∃ m, k = m + 1 := ⟨k - 1, by omega⟩
    simp only [rivuletref03_Covers.l1]
    rw [if_pos (by omega), if_pos trivial, if_pos trivial, if_pos (by omega), if_pos (by omega), if_pos (show ((i : Nat) : Int) < (y.length : Int) by omega), rd_at x (by omega), rd_at y (by omega), w1 (by omega), ih k (i + 1) (by omega) (by omega), pw_step (show i < x.length by omega) (show i < y.length by omega), tl_beq]
    simp only [tl_one]
    by_cases h : x[i]'(by omega) = TP.one
    · rw [if_pos h]; simp [h]
    · rw [if_neg h]
      by_cases e : x[i]'(by omega) = y[i]'(by omega)
      · rw [decide_eq_true e, ih k (i + 1) (by omega) (by omega)]
        simp
      · rw [decide_eq_false e]
        obtain ⟨k, rfl⟩ : ∃ m, k = m + 1 := ⟨k - 1, by omega⟩
        simp only [rivuletref03_Covers.l1]
        simp [h]
theorem covers_loop {a b : ByteArray} (ha : a.size ≤ 400000) (hb : b.size ≤ 400000) : ∀ (d n k : Nat), n + d = 9 → a.size + b.size + 40 + 20 * d ≤ k → rivuletref03_Covers.l0 k a b n = some (covFrom (lv a) (lv b) n) := by
  intro d
  induction d with
  | zero =>
    intro n k hn hk
    obtain ⟨k, rfl⟩ : ∃ m, k = m + 1 := ⟨k - 1, by omega⟩
    simp only [rivuletref03_Covers.l0]
    rw [if_neg (by omega)]
    unfold covFrom
    rw [show 9 - n = 0 by omega]
    rfl
  | succ d ih =>
    intro n k hn hk
    obtain ⟨k, rfl⟩ : ∃ m, k = m + 1 := ⟨k - 1, by omega⟩
    simp only [rivuletref03_Covers.l0]
    rw [if_pos (by omega), row_f (by omega) (by omega) (by omega), Option.bind_some, row_f (by omega) (by omega) (by omega), Option.bind_some, covFrom_step (by omega)]
    have hc : ∀ k, a.size + b.size + 40 + 20 * d ≤ k → rivuletref03_Covers.l0 k a b ((n + 1 : Nat) : Int) = some (covFrom (lv a) (lv b) (n + 1)) := fun k hk => ih (n + 1) k (by omega) hk
    cases hs : (rowR TP.one TP.rest (lv b) n).2 with
    | false =>
      obtain ⟨k, rfl⟩ : ∃ m, k = m + 1 := ⟨k - 1, by omega⟩
      simp only [rivuletref03_Covers.l1]
      rw [w1 (by omega), hc k (by omega)]
      simp
    | true =>
      cases hi : (rowR TP.one TP.rest (lv a) n).2 with
      | false =>
        obtain ⟨k, rfl⟩ : ∃ m, k = m + 1 := ⟨k - 1, by omega⟩
        simp only [rivuletref03_Covers.l1]
        simp
      | true =>
        have := covers_in a b n (by omega) (rowR TP.one TP.rest (lv b) n).1 (rowR TP.one TP.rest (lv a) n).1 _ (rowR_len hi) (rowR_len hs) _ hc n k 0 (by omega) (by omega)
        rw [show ((0 : Nat) : Int) = 0 from rfl] at this
        rw [this]
        simp
theorem covers_f {a b : ByteArray} (ha : a.size ≤ 400000) (hb : b.size ≤ 400000) {k : Nat} (hk : 4 * (a.size + b.size) + 400 ≤ k) : rivuletref03_Covers.f k a b = some (covB a b) := by
  unfold rivuletref03_Covers.f covB
  rw [filter_f (by omega) (by omega), Option.bind_some]
  obtain ⟨k, rfl⟩ : ∃ m, k = m + 1 := ⟨k - 1, by omega⟩
  cases hfa : filterB a with
  | false =>
    rw [if_neg (by decide)]
    simp only [rivuletref03_Covers.j0]
    rfl
  | true =>
    rw [if_pos rfl, filter_f (by omega) (by omega), Option.bind_some]
    cases hfb : filterB b with
    | false =>
      simp only [rivuletref03_Covers.j0]
      rfl
    | true =>
      obtain ⟨la, _, wa⟩ := filter_facts hfa
      obtain ⟨lb, _, wb⟩ := filter_facts hfb
      simp only [rivuletref03_Covers.j0]
      rw [if_neg (by decide), show (1 : Int) = ((1 : Nat) : Int) from rfl, covers_loop (by omega) (by omega) 8 1 k (by omega) (by omega), cov_covR _ _ wa wb la lb (lv_ne b)]
      rfl
-- Meet.
def mtFrom (a b : List ByteArray) (n : Nat) : Bool := (List.range' n (9 - n)).any fun n => (rowR TP.one TP.rest a n).2 && (rowR TP.one TP.rest b n).2 && qw TP.one (rowR TP.one TP.rest a n).1 (rowR TP.one TP.rest b n).1
theorem mtFrom_step {a b : List ByteArray} {n : Nat} (h : n ≤ 8) : mtFrom a b n = (((rowR TP.one TP.rest a n).2 && (rowR TP.one TP.rest b n).2 && qw TP.one (rowR TP.one TP.rest a n).1 (rowR TP.one TP.rest b n).1) || mtFrom a b (n + 1)) := by
  unfold mtFrom
  rw [show 9 - n = (9 - (n + 1)) + 1 by omega, List.range'_succ, List.any_cons]
theorem meet_in (a b : ByteArray) (n : Nat) (hn : n ≤ 8) (x y : List ByteArray) (c : Bool) (hx : x.length = n) (hy : y.length = n) (K : Nat) (hc : ∀ k, K ≤ k → rivuletref03_Meet.l0 k a b ((n + 1 : Nat) : Int) = some c) :
    ∀ (d k i : Nat), i + d = n → K + d + 2 ≤ k → rivuletref03_Meet.l1 k a b n x true y true i = some (qw TP.one (x.drop i) (y.drop i) || c) := by
  intro d
  induction d with
  | zero =>
    intro k i hi hk
    obtain ⟨k, rfl⟩ : ∃ m, k = m + 1 := ⟨k - 1, by omega⟩
    simp only [rivuletref03_Meet.l1]
    rw [if_neg (by omega), if_pos trivial, if_pos trivial, List.drop_of_length_le (show x.length ≤ i by omega), List.drop_of_length_le (show y.length ≤ i by omega)]
    rfl
  | succ d ih =>
    intro k i hi hk
    obtain ⟨k, rfl⟩ : ∃ m, k = m + 1 := ⟨k - 1, by omega⟩
    simp only [rivuletref03_Meet.l1]
    rw [if_pos (by omega), if_pos trivial, if_pos trivial, if_pos (by omega), if_pos (by omega), if_pos (show ((i : Nat) : Int) < (y.length : Int) by omega), rd_at x (by omega), rd_at y (by omega), w1 (by omega), ih k (i + 1) (by omega) (by omega), qw_step (show i < x.length by omega) (show i < y.length by omega), tl_beq]
    simp only [tl_one]
    by_cases h : x[i]'(by omega) = TP.one
    · rw [if_pos h]; simp [h]
    · rw [if_neg h]
      by_cases h2 : y[i]'(by omega) = TP.one
      · rw [if_pos h2]; simp [h2]
      · rw [if_neg h2]
        by_cases e : x[i]'(by omega) = y[i]'(by omega)
        · rw [decide_eq_true e, ih k (i + 1) (by omega) (by omega)]
          simp
        · rw [decide_eq_false e]
          obtain ⟨k, rfl⟩ : ∃ m, k = m + 1 := ⟨k - 1, by omega⟩
          simp only [rivuletref03_Meet.l1]
          rw [w1 (i := n) (by omega), hc k (by omega)]
          simp [h, h2]
theorem meet_loop {a b : ByteArray} (ha : a.size ≤ 400000) (hb : b.size ≤ 400000) (hfa : filterB a = true) (hfb : filterB b = true) : ∀ (d n k : Nat), n + d = 9 → 2 * (a.size + b.size) + 60 + 20 * d ≤ k → rivuletref03_Meet.l0 k a b n = some (mtFrom (lv a) (lv b) n) := by
  intro d
  induction d with
  | zero =>
    intro n k hn hk
    obtain ⟨k, rfl⟩ : ∃ m, k = m + 2 := ⟨k - 2, by omega⟩
    simp only [rivuletref03_Meet.l0]
    rw [if_neg (by omega)]
    simp only [rivuletref03_Meet.j1]
    unfold mtFrom
    rw [show 9 - n = 0 by omega]
    rfl
  | succ d ih =>
    intro n k hn hk
    obtain ⟨k, rfl⟩ : ∃ m, k = m + 2 := ⟨k - 2, by omega⟩
    simp only [rivuletref03_Meet.l0]
    rw [if_pos (by omega), filter_f (by omega) (by omega), Option.bind_some, hfa, if_pos rfl, filter_f (by omega) (by omega), Option.bind_some, hfb]
    simp only [rivuletref03_Meet.j1]
    rw [if_pos trivial, row_f (by omega) (by omega) (by omega), Option.bind_some, row_f (by omega) (by omega) (by omega), Option.bind_some, mtFrom_step (by omega)]
    have hc : ∀ k, 2 * (a.size + b.size) + 60 + 20 * d ≤ k → rivuletref03_Meet.l0 k a b ((n + 1 : Nat) : Int) = some (mtFrom (lv a) (lv b) (n + 1)) := fun k hk => ih (n + 1) k (by omega) hk
    cases hs : (rowR TP.one TP.rest (lv a) n).2 with
    | false =>
      obtain ⟨k, rfl⟩ : ∃ m, k = m + 1 := ⟨k - 1, by omega⟩
      simp only [rivuletref03_Meet.l1]
      rw [w1 (i := n) (by omega), hc k (by omega)]
      simp
    | true =>
      cases hi : (rowR TP.one TP.rest (lv b) n).2 with
      | false =>
        obtain ⟨k, rfl⟩ : ∃ m, k = m + 1 := ⟨k - 1, by omega⟩
        simp only [rivuletref03_Meet.l1]
        rw [w1 (i := n) (by omega), hc k (by omega)]
        simp
      | true =>
        have := meet_in a b n (by omega) (rowR TP.one TP.rest (lv a) n).1 (rowR TP.one TP.rest (lv b) n).1 _ (rowR_len hs) (rowR_len hi) _ hc n k 0 (by omega) (by omega)
        rw [show ((0 : Nat) : Int) = 0 from rfl] at this
        rw [this]
        simp
theorem meet_f {a b : ByteArray} (ha : a.size ≤ 400000) (hb : b.size ≤ 400000) {k : Nat} (hk : 4 * (a.size + b.size) + 400 ≤ k) : rivuletref03_Meet.f k a b = some (mtB a b) := by
  unfold rivuletref03_Meet.f mtB
  cases hfa : filterB a with
  | false =>
    obtain ⟨k, rfl⟩ : ∃ m, k = m + 2 := ⟨k - 2, by omega⟩
    simp only [rivuletref03_Meet.l0]
    rw [if_pos (by decide), filter_f (by omega) (by omega), Option.bind_some, hfa, if_neg (by decide)]
    simp only [rivuletref03_Meet.j1]
    rfl
  | true =>
    cases hfb : filterB b with
    | false =>
      obtain ⟨k, rfl⟩ : ∃ m, k = m + 2 := ⟨k - 2, by omega⟩
      simp only [rivuletref03_Meet.l0]
      rw [if_pos (by decide), filter_f (by omega) (by omega), Option.bind_some, hfa, if_pos rfl, filter_f (by omega) (by omega), Option.bind_some, hfb]
      simp only [rivuletref03_Meet.j1]
      rfl
    | true =>
      obtain ⟨la, _, wa⟩ := filter_facts hfa
      obtain ⟨lb, _, wb⟩ := filter_facts hfb
      rw [show (1 : Int) = ((1 : Nat) : Int) from rfl, meet_loop (by omega) (by omega) hfa hfb 8 1 k (by omega) (by omega), mt_mtR _ _ wa wb la lb (lv_ne a) (lv_ne b)]
      rfl
end Go.Proofs.YtfakimleoihfgaaDoor.TF
