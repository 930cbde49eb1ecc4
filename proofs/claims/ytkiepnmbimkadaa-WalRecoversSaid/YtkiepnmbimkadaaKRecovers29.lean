import Derived.Test.YtkiepnmbimkadaaKRecovers24
import Derived.Test.YtkiepnmbimkadaaKRecovers14
import Derived.Test.YtkiepnmbimkadaaKRecovers17
import Derived.Test.YtkiepnmbimkadaaKRecovers18
import Derived.Test.YtkiepnmbimkadaaKRecovers25
import Derived.Test.YtkiepnmbimkadaaKRecovers26
import Derived.Test.YtkiepnmbimkadaaKRecovers27
import Derived.Test.YtkiepnmbimkadaaKRecovers28
import Derived.Test.YtkiepnmbimkadaaKRecovers21
namespace Go.Proofs.Ytkiepnmbimkadaa.CF
open Go.RowKit Go.Proofs.Ytkiepnmbimkadaa Go.Proofs.Ytkiepnmbimkadaa.Pr Go.Proofs.Ytkiepnmbimkadaa.VP Go.Proofs.Ytkiepnmbimkadaa.VF Go.Proofs.Ytkiepnmbimkadaa.CP Go.Proofs.YtkiepnmbimkadaaW.PrintWords Go.Proofs.YtkiepnmbimkadaaW.PrintLast Go.Proofs.YtkiepnmbimkadaaW.PrintMore
theorem add_f {n : Nat} (hn : n < 4294967296) {s : ByteArray} (hs : s.size ≤ 140737488351232) : check_Add.f n s = some ((add n (nb s) : Nat) : Int) := by
  unfold check_Add.f
  rw [if_pos ⟨by omega, by omega, by omega⟩, Int.toNat_natCast]
theorem sum_f {s : ByteArray} (hs : s.size ≤ 140737488351232) : check_Sum.f s = some ((add 0 (nb s) : Nat) : Int) := by
  unfold check_Sum.f
  have := add_f (n := 0) (by decide) hs
  rw [show ((0 : Nat) : Int) = 0 from rfl] at this
  rw [this]
  rfl
theorem u32_xor_n (a b : Nat) (ha : a < 4294967296) (hb : b < 4294967296) : Go.bits .xor .u32 (a : Int) (b : Int) = ((a ^^^ b : Nat) : Int) := u32_xor_nat a b ha hb
theorem rstep_loop : ∀ (d k n : Nat), d ≤ 8 → n < 4294967296 → d < k → rivuletref02_step.l0 k n ((8 - d : Nat) : Int) = some ((stk d n : Nat) : Int) := by
  intro d
  induction d with
  | zero =>
    intro k n _ _ hk
    obtain ⟨k, rfl⟩ : ∃ m, k = m + 1 := ⟨k - 1, by omega⟩
    simp only [rivuletref02_step.l0]
    rw [if_neg (by omega)]
    rfl
  | succ d ih =>
    intro k n hd hn hk
    obtain ⟨k, rfl⟩ : ∃ m, k = m + 1 := ⟨k - 1, by omega⟩
    have e0 : Int.tdiv (n : Int) 2 % 4294967296 = ((n / 2 : Nat) : Int) := by rw [Int.tdiv_eq_ediv_of_nonneg (by omega)]; omega
    have e1 : wrap64 (((8 - (d + 1) : Nat) : Int) + 1) = ((8 - d : Nat) : Int) := by rw [w64 (by omega)]; omega
    simp only [rivuletref02_step.l0]
    rw [if_pos (by omega), e0, e1, Int.tmod_eq_emod_of_nonneg (by omega)]
    by_cases h : n % 2 = 1
    · have e2 := u32_xor_n (n / 2) 3988292384 (by omega) (by decide)
      rw [show ((3988292384 : Nat) : Int) = 3988292384 from rfl] at e2
      rw [if_pos (by omega), e2, ih k (n / 2 ^^^ 3988292384) (by omega) (Nat.xor_lt_two_pow (n := 32) (by omega) (by decide)) (by omega), stk]
      unfold st
      rw [if_pos h]
    · rw [if_neg (by omega), ih k (n / 2) (by omega) (by omega) (by omega), stk]
      unfold st
      rw [if_neg h]
theorem rstep_f {n c : Nat} (hn : n < 4294967296) (hc : c < 256) {k : Nat} (hk : 9 ≤ k) : rivuletref02_step.f k n c = some ((stk 8 (n ^^^ c) : Nat) : Int) := by
  unfold rivuletref02_step.f
  rw [show (c : Int) % 4294967296 = (c : Int) by omega, u32_xor_n n c hn (by omega)]
  exact rstep_loop 8 k _ (by omega) (Nat.xor_lt_two_pow (n := 32) hn (by omega)) (by omega)
theorem bt_nb (s : ByteArray) (i : Nat) : bt s (i : Int) = (((nb s).getD i 0 : Nat) : Int) := by
  rw [bt_get]
  unfold bytesOf nb
  simp only [List.getD_eq_getElem?_getD, List.getElem?_map]
  cases s.data.toList[i]? <;> rfl
theorem radd_loop {s : ByteArray} (hs : s.size ≤ 140737488351232) : ∀ (d k i n : Nat), i + d = s.size → n < 4294967296 → d + 12 ≤ k → rivuletref02_Add.l0 k s n i = some ((4294967295 - CP.run n ((nb s).drop i) : Nat) : Int) := by
  intro d
  induction d with
  | zero =>
    intro k i n hi hn hk
    obtain ⟨k, rfl⟩ : ∃ m, k = m + 1 := ⟨k - 1, by omega⟩
    simp only [rivuletref02_Add.l0]
    rw [if_neg (by omega), List.drop_of_length_le (by rw [nb_length]; omega)]
    show some _ = some ((4294967295 - n : Nat) : Int)
    congr 1
    omega
  | succ d ih =>
    intro k i n hi hn hk
    obtain ⟨k, rfl⟩ : ∃ m, k = m + 1 := ⟨k - 1, by omega⟩
    have hc : (nb s).getD i 0 < 256 := by
      rw [List.getD_eq_getElem?_getD, List.getElem?_eq_getElem (by rw [nb_length]; omega)]
      exact nb_bn s _ (List.getElem_mem _)
    have hd : (nb s).drop i = (nb s).getD i 0 :: (nb s).drop (i + 1) := by
      rw [List.drop_eq_getElem_cons (by rw [nb_length]; omega), List.getD_eq_getElem?_getD, List.getElem?_eq_getElem (by rw [nb_length]; omega)]
      rfl
    simp only [rivuletref02_Add.l0]
    rw [if_pos (by omega), if_pos (by omega), bt_nb, rstep_f hn hc (by omega), Option.bind_some, w64 (by omega), show (i : Int) + 1 = ((i + 1 : Nat) : Int) by omega, ih k (i + 1) _ (by omega) (step_lt hn hc) (by omega), hd, run_cons]
theorem radd_f {n : Nat} (hn : n < 4294967296) {s : ByteArray} (hs : s.size ≤ 140737488351232) {k : Nat} (hk : s.size + 12 ≤ k) : rivuletref02_Add.f k n s = some ((add n (nb s) : Nat) : Int) := by
  unfold rivuletref02_Add.f
  rw [show (4294967295 - (n : Int)) % 4294967296 = ((4294967295 - n : Nat) : Int) by omega]
  exact radd_loop hs s.size k 0 _ (by omega) (by omega) (by omega)
theorem rsum_f {s : ByteArray} (hs : s.size ≤ 140737488351232) {k : Nat} (hk : s.size + 12 ≤ k) : rivuletref02_Sum.f k s = some ((add 0 (nb s) : Nat) : Int) := by
  unfold rivuletref02_Sum.f
  have := radd_f (n := 0) (by decide) hs hk
  rw [show ((0 : Nat) : Int) = 0 from rfl] at this
  rw [this]
  rfl
theorem fr_by (n : Nat) : By (fr n) := By.cons (by omega) (by omega) (By.cons (by omega) (by omega) (By.cons (by omega) (by omega) (By.cons (by omega) (by omega) By.nil)))
theorem fr_length (n : Nat) : (fr n).length = 4 := rfl
theorem mark_f {n : Nat} (hn : n < 4294967296) : check_mark.f n = some (strOfNums (fr n)) := by
  unfold check_mark.f
  rw [if_pos ⟨by omega, by omega⟩, Int.toNat_natCast]
theorem rfour_f {n : Nat} (hn : n < 4294967296) : rivuletref02_four.f n = some (strOfNums (fr n)) := by
  unfold rivuletref02_four.f fr
  rw [Int.tmod_eq_emod_of_nonneg (by omega), Int.tdiv_eq_ediv_of_nonneg (a := (n : Int)) (b := 256) (by omega), Int.tdiv_eq_ediv_of_nonneg (a := (n : Int)) (b := 65536) (by omega), Int.tdiv_eq_ediv_of_nonneg (a := (n : Int)) (b := 16777216) (by omega)]
  congr 2
  simp only [List.cons.injEq, and_true]
  omega
def sm (s : ByteArray) : List Int := fr (add 0 (nb s))
def sealB (s : ByteArray) : List Int := enc s.size ++ (bytesOf s ++ sm s)
theorem sm_by (s : ByteArray) : By (sm s) := fr_by _
theorem sm_length (s : ByteArray) : (sm s).length = 4 := rfl
theorem seal_by (s : ByteArray) : By (sealB s) := (enc_by (by omega)).append ((bytes_by s).append (sm_by s))
theorem seal_length (s : ByteArray) : (sealB s).length = sz s.size + (s.size + 4) := by
  unfold sealB
  rw [List.length_append, List.length_append, enc_length, size_bytes, sm_length]
theorem seal_f {s : ByteArray} (hs : s.size ≤ 140737488351232) {k : Nat} (hk : 10 ≤ k) : check_Seal.f k s = some (strOfNums (sealB s)) := by
  have h1 := sz_bd s.size
  unfold check_Seal.f
  rw [text_enc hs hk, Option.bind_some, sum_f hs, Option.bind_some, mark_f (add_lt _ _), Option.bind_some, if_pos (by simp only [ByteArray.size_append, strOfNums_size, enc_length, fr_length]; omega)]
  unfold sealB sm
  rw [← son_append, ← son_append, son_bytes, ByteArray.append_assoc]
def openS (s : ByteArray) (a : Int) : ByteArray × Int × Int :=
  if (cutS s a).2.2 = 0 then
    if (s.size : Int) - (cutS s a).2.1 < 4 then (⟨#[]⟩, 0, 3)
    else if ((bytesOf s).drop (cutS s a).2.1.toNat).take 4 = sm (cutS s a).1 then ((cutS s a).1, (cutS s a).2.1 + 4, 0) else (⟨#[]⟩, 0, 5)
  else (⟨#[]⟩, 0, (cutS s a).2.2)
theorem cutS_cases (s : ByteArray) (a : Int) : (∃ x, x ≠ 0 ∧ cutS s a = (⟨#[]⟩, 0, x)) ∨
    ∃ p n : Nat, a = p ∧ n ≤ 65536 ∧ p + sz n + n ≤ s.size ∧ enc n = ((bytesOf s).drop p).take (sz n) ∧ cutS s a = (s.extract (p + sz n) (p + sz n + n), ((p + sz n + n : Nat) : Int), 0) := by
  unfold cutS
  rcases getS_cases s a with ⟨h, _, _⟩ | ⟨n, p, rfl, e, h1, h2, h3, h4⟩
  · rw [if_neg h]
    exact .inl ⟨_, h, rfl⟩
  · rw [e]
    simp only [if_true]
    by_cases b : n > 65536
    · rw [if_pos b]; exact .inl ⟨2, by decide, rfl⟩
    rw [if_neg b]
    by_cases c : (s.size : Int) - ((p + sz n : Nat) : Int) < n
    · rw [if_pos c]; exact .inl ⟨3, by decide, rfl⟩
    rw [if_neg c]
    obtain ⟨m, rfl⟩ := Int.eq_ofNat_of_zero_le h3
    refine .inr ⟨p, m, rfl, by omega, by omega, h1, ?_⟩
    rw [Int.toNat_natCast, show (((p + sz m : Nat) : Int) + (m : Int)).toNat = p + sz m + m by omega, show ((p + sz m : Nat) : Int) + (m : Int) = ((p + sz m + m : Nat) : Int) by omega]
theorem ext_size (s : ByteArray) {a b : Nat} (h : a ≤ b) (hb : b ≤ s.size) : (s.extract a b).size = b - a := by
  rw [← size_bytes, bytes_extract, List.length_take, List.length_drop, size_bytes]
  omega
theorem open_f {s : ByteArray} (hs : s.size ≤ 140737488351232) (a : Int) {k : Nat} (hk : 20 ≤ k) : check_Open.f k s a = some (openS s a) := by
  unfold check_Open.f openS
  rw [cut_cutS hs a (by omega), Option.bind_some]
  rcases cutS_cases s a with ⟨x, hx, e⟩ | ⟨p, n, rfl, hn, hl, _, e⟩
  · rw [e]
    simp only []
    rw [if_neg hx, if_neg hx]
  · rw [e]
    simp only [if_true]
    rw [w64 (by omega), w64 (by omega)]
    by_cases c : (s.size : Int) - ((p + sz n + n : Nat) : Int) < 4
    · rw [if_pos c, if_pos c]
    rw [if_neg c, if_neg c, if_pos (by omega), if_pos (by omega), if_pos (by omega), sum_f (by rw [ext_size s (by omega) hl]; omega), Option.bind_some, mark_f (add_lt _ _), Option.bind_some, Int.toNat_natCast, show (((p + sz n + n : Nat) : Int) + 4).toNat = p + sz n + n + 4 by omega]
    by_cases d : ((bytesOf s).drop (p + sz n + n)).take 4 = sm (s.extract (p + sz n) (p + sz n + n))
    · rw [if_pos d, if_pos (by
        rw [toList_inj]
        apply bytes_inj
        rw [bytes_extract, bytes_son (fr_by _), show p + sz n + n + 4 - (p + sz n + n) = 4 by omega, d]
        rfl)]
    · rw [if_neg d, if_neg (fun h => d (by
        have h2 := congrArg bytesOf (toList_inj.1 h)
        rw [bytes_extract, bytes_son (fr_by _), show p + sz n + n + 4 - (p + sz n + n) = 4 by omega] at h2
        exact h2))]
theorem ropen_f {s : ByteArray} (hs : s.size ≤ 140737488351232) (a : Int) {k : Nat} (hk : s.size + 70 ≤ k) : rivuletref02_Open.f k s a = some (openS s a) := by
  unfold rivuletref02_Open.f openS
  rw [rcut_cutS hs a (by omega), Option.bind_some]
  rcases cutS_cases s a with ⟨x, hx, e⟩ | ⟨p, n, rfl, hn, hl, _, e⟩
  · rw [e]
    simp only []
    rw [if_neg hx, if_neg hx]
  · rw [e]
    simp only [if_true]
    rw [w64 (by omega)]
    by_cases c : (s.size : Int) - ((p + sz n + n : Nat) : Int) < 4
    · rw [if_pos (by omega), if_pos c]
    have hz := ext_size s (a := p + sz n) (b := p + sz n + n) (by omega) hl
    rw [if_neg (by omega), if_neg c, if_pos (by omega), if_pos (by omega), if_pos (by omega), rsum_f (by omega) (by omega), Option.bind_some, rfour_f (add_lt _ _), Option.bind_some, Int.toNat_natCast, show (((p + sz n + n : Nat) : Int) + 4).toNat = p + sz n + n + 4 by omega]
    by_cases d : ((bytesOf s).drop (p + sz n + n)).take 4 = sm (s.extract (p + sz n) (p + sz n + n))
    · rw [if_pos d, if_pos (by
        rw [toList_inj]
        apply bytes_inj
        rw [bytes_extract, bytes_son (fr_by _), show p + sz n + n + 4 - (p + sz n + n) = 4 by omega, d]
        rfl)]
    · rw [if_neg d, if_neg (fun h => d (by
        have h2 := congrArg bytesOf (toList_inj.1 h)
        rw [bytes_extract, bytes_son (fr_by _), show p + sz n + n + 4 - (p + sz n + n) = 4 by omega] at h2
        exact h2))]
theorem openS_cases (s : ByteArray) (a : Int) : (∃ x, x ≠ 0 ∧ openS s a = (⟨#[]⟩, 0, x)) ∨
    ∃ p : Nat, ∃ x : ByteArray, a = p ∧ x.size ≤ 65536 ∧ p + (sealB x).length ≤ s.size ∧ ((bytesOf s).drop p).take (sealB x).length = sealB x ∧ openS s a = (x, ((p + (sealB x).length : Nat) : Int), 0) := by
  unfold openS
  rcases cutS_cases s a with ⟨x, hx, e⟩ | ⟨p, n, rfl, hn, hl, he, e⟩
  · rw [e]
    simp only []
    rw [if_neg hx]
    exact .inl ⟨x, hx, rfl⟩
  · rw [e]
    simp only [if_true, Int.toNat_natCast]
    by_cases c : (s.size : Int) - ((p + sz n + n : Nat) : Int) < 4
    · rw [if_pos c]; exact .inl ⟨3, by decide, rfl⟩
    rw [if_neg c]
    have hz := ext_size s (a := p + sz n) (b := p + sz n + n) (by omega) hl
    rw [show p + sz n + n - (p + sz n) = n by omega] at hz
    have hb : bytesOf (s.extract (p + sz n) (p + sz n + n)) = (((bytesOf s).drop p).drop (sz n)).take n := by
      rw [bytes_extract, List.drop_drop, show p + sz n + n - (p + sz n) = n by omega]
    by_cases d : ((bytesOf s).drop (p + sz n + n)).take 4 = sm (s.extract (p + sz n) (p + sz n + n))
    · rw [if_pos d]
      have hsl := seal_length (s.extract (p + sz n) (p + sz n + n))
      rw [hz] at hsl
      refine .inr ⟨p, s.extract (p + sz n) (p + sz n + n), rfl, by omega, by omega, ?_, ?_⟩
      · rw [hsl]
        unfold sealB
        rw [hz, ← d, he, hb]
        have e1 : ((bytesOf s).drop (p + sz n + n)) = (((bytesOf s).drop p).drop (sz n)).drop n := by rw [List.drop_drop, List.drop_drop, Nat.add_assoc]
        rw [e1, ← List.take_add, ← List.take_add]
      · rw [hsl]
        refine Prod.ext rfl (Prod.ext ?_ rfl)
        show ((p + sz n + n : Nat) : Int) + 4 = ((p + (sz n + (n + 4)) : Nat) : Int)
        omega
    · rw [if_neg d]; exact .inl ⟨5, by decide, rfl⟩
theorem openS_seal {s x : ByteArray} (hx : x.size ≤ 65536) {p : Nat} {r : List Int} (hp : p ≤ s.size) (h : (bytesOf s).drop p = sealB x ++ r) : openS s p = (x, ((p + (sealB x).length : Nat) : Int), 0) := by
  have h1 := sz_bd x.size
  have hsl := seal_length x
  have hlen : s.size - p = (sealB x).length + r.length := by rw [← size_bytes, ← List.length_drop, h, List.length_append]
  have hg : getS s p = ((x.size : Int), (p : Int) + (sz x.size : Int), 0) := by
    unfold getS
    rw [if_neg (by omega), Int.toNat_natCast, h]
    unfold sealB
    rw [List.append_assoc, dec_enc (by omega) (by omega), if_pos rfl]
  have hdr : (bytesOf s).drop (p + sz x.size) = bytesOf x ++ (sm x ++ r) := by
    rw [← List.drop_drop, h]
    unfold sealB
    rw [List.append_assoc, List.append_assoc, List.drop_left' (enc_length _)]
  have hdr2 : (bytesOf s).drop (p + sz x.size + x.size) = sm x ++ r := by
    rw [← List.drop_drop, hdr, List.drop_left' (size_bytes x)]
  have hc : cutS s p = (x, ((p + sz x.size + x.size : Nat) : Int), 0) := by
    unfold cutS
    rw [hg]
    simp only [if_true]
    rw [if_neg (by omega), if_neg (by omega)]
    refine Prod.ext ?_ (Prod.ext ?_ rfl)
    · show s.extract ((p : Int) + (sz x.size : Int)).toNat ((p : Int) + (sz x.size : Int) + (x.size : Int)).toNat = x
      apply bytes_inj
      rw [bytes_extract, show ((p : Int) + (sz x.size : Int)).toNat = p + sz x.size by omega, show ((p : Int) + (sz x.size : Int) + (x.size : Int)).toNat - (p + sz x.size) = x.size by omega, hdr, List.take_left' (size_bytes x)]
    · show (p : Int) + (sz x.size : Int) + (x.size : Int) = ((p + sz x.size + x.size : Nat) : Int)
      omega
  unfold openS
  rw [hc]
  simp only [if_true]
  rw [if_neg (by omega), Int.toNat_natCast, hdr2, if_pos (by rw [List.take_left' (sm_length x)])]
  refine Prod.ext rfl (Prod.ext ?_ rfl)
  show ((p + sz x.size + x.size : Nat) : Int) + 4 = ((p + (sealB x).length : Nat) : Int)
  omega
theorem all_both {s : ByteArray} (hs : s.size ≤ 140737488351232) : ∀ (d k p : Nat) (acc : List ByteArray), s.size ≤ p + d → s.size + d + 80 ≤ k → acc.length + d ≤ 4000000000000 →
    ∃ r, check_All.l0 k s acc p = some r ∧ rivuletref02_All.l0 k s acc p = some r := by
  intro d
  induction d with
  | zero =>
    intro k p acc hp hk ha
    obtain ⟨k, rfl⟩ : ∃ m, k = m + 1 := ⟨k - 1, by omega⟩
    simp only [check_All.l0, rivuletref02_All.l0]
    rw [if_neg (by omega), if_neg (by omega)]
    exact ⟨_, rfl, rfl⟩
  | succ d ih =>
    intro k p acc hp hk ha
    obtain ⟨k, rfl⟩ : ∃ m, k = m + 1 := ⟨k - 1, by omega⟩
    simp only [check_All.l0, rivuletref02_All.l0]
    by_cases h : (p : Int) < s.size
    · rw [if_pos h, if_pos h, open_f hs _ (by omega), ropen_f hs _ (by omega), Option.bind_some, Option.bind_some]
      rcases openS_cases s p with ⟨x, hx, e⟩ | ⟨q, x, hq, h1, h2, h3, e⟩
      · rw [e]
        simp only []
        rw [if_neg hx, if_neg hx]
        exact ⟨_, rfl, rfl⟩
      · obtain rfl : p = q := by omega
        have hl := seal_length x
        rw [e]
        simp only [if_true]
        rw [if_pos (by omega), if_pos (by omega)]
        exact ih k (p + (sealB x).length) _ (by omega) (by omega) (by simp; omega)
    · rw [if_neg h, if_neg h]
      exact ⟨_, rfl, rfl⟩
theorem same_loop (l m : List ByteArray) (hl : l.length = m.length) (hb : l.length ≤ 4611686018427387904) : ∀ (d k i : Nat), i + d = l.length → d < k → rivuletref02_Same.l0 k l m i = some (decide (l.drop i = m.drop i)) := by
  intro d
  induction d with
  | zero =>
    intro k i hi hk
    obtain ⟨k, rfl⟩ : ∃ m, k = m + 1 := ⟨k - 1, by omega⟩
    simp only [rivuletref02_Same.l0]
    rw [if_neg (by omega), List.drop_of_length_le (by omega), List.drop_of_length_le (by omega)]
    rfl
  | succ d ih =>
    intro k i hi hk
    obtain ⟨k, rfl⟩ : ∃ m, k = m + 1 := ⟨k - 1, by omega⟩
    have el : rdOf ByteArray.empty l (i : Int) = l[i]'(by omega) := by unfold rdOf; rw [Int.toNat_natCast, List.getD_eq_getElem?_getD, List.getElem?_eq_getElem (by omega)]; rfl
    have em : rdOf ByteArray.empty m (i : Int) = m[i]'(by omega) := by unfold rdOf; rw [Int.toNat_natCast, List.getD_eq_getElem?_getD, List.getElem?_eq_getElem (by omega)]; rfl
    simp only [rivuletref02_Same.l0]
    rw [if_pos (by omega), if_pos (by omega), if_pos (by omega), el, em, List.drop_eq_getElem_cons (show i < l.length by omega), List.drop_eq_getElem_cons (show i < m.length by omega)]
    by_cases h : l[i]'(by omega) = m[i]'(by omega)
    · rw [if_pos (by rw [h]), w64 (by omega), show (i : Int) + 1 = ((i + 1 : Nat) : Int) by omega, ih k (i + 1) (by omega) (by omega)]
      congr 1
      rw [decide_eq_decide, List.cons.injEq]
      exact ⟨fun g => ⟨h, g⟩, fun g => g.2⟩
    · rw [if_neg (fun g => h (toList_inj.1 g)), decide_eq_false (fun g => h (List.cons.inj g).1)]
theorem same_f (l m : List ByteArray) (hb : l.length ≤ 4611686018427387904) {k : Nat} (hk : l.length < k) : rivuletref02_Same.f k l m = some (decide (l = m)) := by
  unfold rivuletref02_Same.f
  by_cases h : l.length = m.length
  · rw [if_pos (by omega)]
    exact same_loop l m h hb l.length k 0 (by omega) hk
  · rw [if_neg (by omega), decide_eq_false (fun g => h (by rw [g]))]
def sealed : List ByteArray → List Int
  | [] => []
  | x :: l => sealB x ++ sealed l
theorem all_sealed {s : ByteArray} (hs : s.size ≤ 140737488351232) (rest : List Int) (hrest : rest = [] ∨ ∀ p : Nat, (bytesOf s).drop p = rest → p ≤ s.size → (openS s p).2.2 ≠ 0) :
    ∀ (l : List ByteArray) (k p : Nat) (acc : List ByteArray), (∀ x ∈ l, x.size ≤ 65536) → p ≤ s.size → (bytesOf s).drop p = sealed l ++ rest → l.length + 30 ≤ k → acc.length + l.length ≤ 4000000000000 →
    check_All.l0 k s acc p = some (acc ++ l, ((p + (sealed l).length : Nat) : Int)) := by
  intro l
  induction l with
  | nil =>
    intro k p acc _ hp h hk _
    obtain ⟨k, rfl⟩ : ∃ m, k = m + 1 := ⟨k - 1, by omega⟩
    simp only [check_All.l0]
    rw [List.append_nil]
    by_cases g : (p : Int) < s.size
    · rw [if_pos g, open_f hs _ (by omega), Option.bind_some]
      rcases hrest with e | e
      · exfalso
        rw [e] at h
        have := congrArg List.length h
        rw [List.length_drop, size_bytes] at this
        simp [sealed] at this
        omega
      · rw [if_neg (e p h hp)]
        rfl
    · rw [if_neg g]
      rfl
  | cons x l ih =>
    intro k p acc hx hp h hk ha
    obtain ⟨k, rfl⟩ : ∃ m, k = m + 1 := ⟨k - 1, by omega⟩
    have hsl := seal_length x
    have h2 : (bytesOf s).drop p = sealB x ++ (sealed l ++ rest) := by rw [h]; simp only [sealed, List.append_assoc]
    have hlen : s.size - p = (sealB x).length + (sealed l ++ rest).length := by rw [← size_bytes, ← List.length_drop, h2, List.length_append]
    simp only [check_All.l0]
    rw [if_pos (by omega), open_f hs _ (by omega), Option.bind_some, openS_seal (hx x (by simp)) hp h2]
    simp only [if_true]
    have ha2 : acc.length + (l.length + 1) ≤ 4000000000000 := ha
    have hk2 : l.length + 1 + 30 ≤ k + 1 := hk
    rw [if_pos (by omega), ih k (p + (sealB x).length) (acc ++ [x]) (fun y hy => hx y (by simp [hy])) (by omega) (by rw [← List.drop_drop, h2, List.drop_left]) (by omega) (by simp; omega)]
    refine congrArg some (Prod.ext ?_ ?_)
    · simp
    · simp only [sealed, List.length_append]
      omega
end Go.Proofs.Ytkiepnmbimkadaa.CF
