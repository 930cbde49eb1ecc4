import Derived.Lib.Strings
import Derived.Test.YtjjimkmbbifbjaaDoorKCuts12
import Derived.Test.YtjjimkmbbifbjaaDoorKCuts13
namespace Go.Proofs.YtjjimkmbbifbjaaDoor.VF
open Go.RowKit Go.Proofs.YtjjimkmbbifbjaaDoor Go.Proofs.YtjjimkmbbifbjaaDoor.Pv Go.Proofs.YtjjimkmbbifbjaaDoor.VP Go.Proofs.YtjjimkmbbifbjaaDoorW.PrintWords Go.Proofs.YtjjimkmbbifbjaaDoorW.PrintLast Go.Proofs.YtjjimkmbbifbjaaDoorW.PrintMore
theorem w64 {n : Int} (h : -9223372036854775808 ≤ n ∧ n ≤ 9223372036854775807) : wrap64 n = n := IntWalk.wrap64_in n h
theorem u64 {n : Int} (h : 0 ≤ n ∧ n ≤ 18446744073709551615) : IntKind.u64.wrap n = n := IntWalk.u64_in n h
theorem bytes_son {l : List Int} (h : By l) : bytesOf (strOfNums l) = l := by
  unfold bytesOf
  rw [strOfNums_data, List.map_map]
  conv => rhs; rw [← List.map_id l]
  refine List.map_congr_left fun x hx => ?_
  have := h x hx
  simp only [Function.comp, id]
  rw [UInt8.toNat_ofNat']
  omega
theorem son_bytes (s : ByteArray) : strOfNums (bytesOf s) = s := by
  apply ByteArray.ext
  apply Array.ext'
  rw [strOfNums_data]
  unfold bytesOf
  rw [List.map_map]
  conv => rhs; rw [← List.map_id s.data.toList]
  refine List.map_congr_left fun x _ => ?_
  simp
theorem bytes_by (s : ByteArray) : By (bytesOf s) := by
  intro x hx
  obtain ⟨b, _, rfl⟩ := List.mem_map.1 hx
  have := b.toNat_lt
  omega
theorem bytes_inj {s t : ByteArray} (h : bytesOf s = bytesOf t) : s = t := by rw [← son_bytes s, ← son_bytes t, h]
theorem bytes_append (s t : ByteArray) : bytesOf (s ++ t) = bytesOf s ++ bytesOf t := by simp [bytesOf]
theorem bytes_extract (s : ByteArray) (a b : Nat) : bytesOf (s.extract a b) = ((bytesOf s).drop a).take (b - a) := by
  unfold bytesOf
  rw [Lib.extract_data, List.map_take, List.map_drop]
theorem toList_eq (s : ByteArray) : s.toList = s.data.toList := ByteArray.toList_eq s
theorem toList_inj {s t : ByteArray} : s.toList = t.toList ↔ s = t := by
  rw [toList_eq, toList_eq]
  constructor
  · intro h; exact ByteArray.ext (Array.ext' h)
  · intro h; rw [h]
theorem size_bytes (s : ByteArray) : (bytesOf s).length = s.size := bytesOf_length s
theorem bt_get (s : ByteArray) (i : Nat) : bt s (i : Int) = (bytesOf s).getD i 0 := by rw [← rd_bytesOf]; simp [rd]
theorem behind_bh {n : Int} (h1 : n ≤ 18446744073709551615) : varint_behind.f n = some (bh n : Int) := by
  unfold varint_behind.f bh
  repeat' split
  all_goals first | rfl | omega
theorem shr_pow (n : Int) {d : Nat} (h : d ≤ 8) : shr .u64 n (8 * (d : Int)) = n / 256 ^ d := by
  unfold shr
  have e : (8 * (d : Int)).toNat = 8 * d := by omega
  rw [e, Nat.min_eq_left (by show 8 * d ≤ 64; omega), Int.pow_mul]
  rfl
theorem put_loop (n : Int) (K : Nat) (hK : K ≤ 8) : ∀ (d k : Nat) (acc : List Int) (i : Int), i + d = K → 0 ≤ i → d < k → acc.length + d ≤ 100 →
    varint_Put.l0 k n K acc K i = some (strOfNums (acc ++ bg d n)) := by
  intro d
  induction d with
  | zero =>
    intro k acc i hi h0 hk hl
    obtain ⟨k, rfl⟩ : ∃ m, k = m + 1 := ⟨k - 1, by omega⟩
    simp only [varint_Put.l0]
    rw [if_neg (by omega)]
    simp [bg]
  | succ d ih =>
    intro k acc i hi h0 hk hl
    obtain ⟨k, rfl⟩ : ∃ m, k = m + 1 := ⟨k - 1, by omega⟩
    simp only [varint_Put.l0]
    have e : wrap64 (8 * wrap64 (wrap64 ((K : Int) - 1) - i)) = 8 * (d : Int) := by
      rw [w64 (n := (K : Int) - 1) (by omega), w64 (n := (K : Int) - 1 - i) (by omega), w64 (by omega)]; omega
    rw [if_pos (by omega), e, if_pos (by omega), if_pos (by omega), w64 (n := i + 1) (by omega), shr_pow n (by omega)]
    rw [ih k _ (i + 1) (by omega) (by omega) (by omega) (by simp; omega), bg_cons, List.append_assoc]
    rfl
theorem put_enc {n : Int} (h0 : 0 ≤ n) (h1 : n ≤ 18446744073709551615) {k : Nat} (hk : 10 ≤ k) : varint_Put.f k n = some (strOfNums (enc n)) := by
  have hb := bh_bd n
  unfold varint_Put.f enc
  split
  · rw [Int.emod_eq_of_lt h0 (by omega)]
  split
  · rw [u64 (n := n - 240) (by omega), Int.tdiv_eq_ediv_of_nonneg (by omega), u64 (n := (n - 240) / 256) (by omega), u64 (by omega), Int.emod_eq_of_lt (a := 241 + (n - 240) / 256) (by omega) (by omega)]
  split
  · rw [u64 (n := n - 2288) (by omega), Int.tdiv_eq_ediv_of_nonneg (by omega), u64 (n := (n - 2288) / 256) (by omega), Int.emod_eq_of_lt (a := (n - 2288) / 256) (by omega) (by omega)]
  · rw [behind_bh h1, Option.bind_some, w64 (by omega), Int.emod_eq_of_lt (by omega) (by omega), put_loop n (bh n) hb.2 (bh n) k _ 0 (by omega) (by omega) (by omega) (by simp; omega)]
    rfl
theorem size_sz {n : Int} (h1 : n ≤ 18446744073709551615) : varint_Size.f n = some (sz n : Int) := by
  have hb := bh_bd n
  unfold varint_Size.f sz
  split
  · rfl
  split
  · rfl
  split
  · rfl
  · rw [behind_bh h1, Option.bind_some, w64 (by omega)]
    simp
theorem text_enc {s : ByteArray} (hs : s.size ≤ 140737488351232) {k : Nat} (hk : 10 ≤ k) : varint_Text.f k s = some (strOfNums (enc s.size) ++ s) := by
  unfold varint_Text.f
  have := sz_bd s.size
  have := enc_length s.size
  rw [u64 (by omega), put_enc (by omega) (by omega) hk, Option.bind_some, if_pos (by rw [strOfNums_size]; omega)]
def getS (s : ByteArray) (at_ : Int) : Int × Int × Int :=
  if at_ < 0 ∨ (s.size : Int) < at_ then (0, 0, 1) else
    if (dec ((bytesOf s).drop at_.toNat)).2.2 = 0 then ((dec ((bytesOf s).drop at_.toNat)).1, at_ + (dec ((bytesOf s).drop at_.toNat)).2.1, 0) else (0, 0, (dec ((bytesOf s).drop at_.toNat)).2.2)
theorem want_fol {c : Int} (h0 : 0 ≤ c) (h1 : c < 256) : varint_want.f c = some ((fol c : Int) + 1) := by
  unfold varint_want.f fol
  split
  · rfl
  split
  · rfl
  split
  · rfl
  · rw [w64 (n := c) (by omega), w64 (n := 1 + c) (by omega), w64 (by omega)]
    simp
    omega
theorem or_byte {x b : Int} (hx : 0 ≤ x) (hx1 : x < 256 ^ 7) (hb : 0 ≤ b) (hb1 : b < 256) : Go.bits .or .u64 (IntKind.u64.wrap (x * 256)) (IntKind.u64.wrap b) = x * 256 + b := by
  rw [u64 (n := x * 256) (by omega), u64 (n := b) (by omega), u64_or _ _ (by omega) (by omega) (by omega) (by omega)]
  obtain ⟨m, rfl⟩ := Int.eq_ofNat_of_zero_le hx
  obtain ⟨c, rfl⟩ := Int.eq_ofNat_of_zero_le hb
  have e : ((m : Int) * 256).toNat = m * 2 ^ 8 := by omega
  rw [e, Int.toNat_natCast, Nat.mul_comm, ← Nat.two_pow_add_eq_or_of_lt (by omega)]
  omega
theorem take_snoc {l : List Int} {i : Nat} (h : i < l.length) : l.take (i + 1) = l.take i ++ [l.getD i 0] := by
  rw [List.take_add_one, List.getD_eq_getElem?_getD, List.getElem?_eq_getElem h]
  rfl
theorem pow_mono {a b : Nat} (h : a ≤ b) : (256 : Int) ^ a ≤ 256 ^ b := by
  obtain ⟨c, rfl⟩ := Nat.exists_eq_add_of_le h
  clear h
  induction c with
  | zero => exact Int.le_refl _
  | succ c ih =>
    rw [← Nat.add_assoc, Int.pow_succ]
    have := pow_pos256 (a + c)
    omega
theorem val_take_bd {l : List Int} (hb : By l) (i : Nat) : 0 ≤ val (l.take i) ∧ val (l.take i) < 256 ^ i := by
  have h := val_bd _ (hb.take i)
  have hl : (l.take i).length ≤ i := by rw [List.length_take]; omega
  have := pow_mono hl
  omega
def endS (p : Int) (c v : Int) : Int × Int × Int := if sz (num c v) = fol c + 1 then (num c v, p + (fol c + 1 : Nat), 0) else (0, 0, 4)
theorem get_end {p c v : Int} (hp : 0 ≤ p ∧ p ≤ 140737488351240) (h0 : 0 ≤ c) (h1 : c < 256) (hv0 : 0 ≤ v) (hv1 : v < 256 ^ fol c) (k : Nat) (s : ByteArray) :
    varint_Get.l0 (k + 1) s p c ((fol c : Int) + 1) v (fol c) (fol c) = some (endS p c v) := by
  have hf := fol_bd h0 h1
  have hpw := pow_le hf
  simp only [varint_Get.l0]
  rw [if_neg (by omega)]
  unfold endS
  have key : ∀ n : Int, n ≤ 18446744073709551615 → n = num c v → ((varint_Size.f n).bind fun t => if t = (fol c : Int) + 1 then some (n, wrap64 (p + ((fol c : Int) + 1)), (0 : Int)) else some (0, 0, 4)) = some (if sz (num c v) = fol c + 1 then (num c v, p + (fol c + 1 : Nat), 0) else (0, 0, 4)) := by
    rintro n hn rfl
    rw [size_sz hn, Option.bind_some, w64 (by omega)]
    by_cases e : sz (num c v) = fol c + 1
    · rw [if_pos (by omega), if_pos e]; rfl
    · rw [if_neg (by omega), if_neg e]
  by_cases a : c ≤ 240
  · rw [if_pos a, u64 (n := c) (by omega)]
    exact key c (by omega) (by unfold num; rw [if_pos a])
  rw [if_neg a]
  by_cases b : c < 249
  · have f : fol c = 1 := by unfold fol; rw [if_neg a, if_pos b]
    rw [f] at hv1
    rw [if_pos b, Int.emod_eq_of_lt (a := c - 241) (by omega) (by omega), u64 (by omega)]
    exact key _ (by omega) (by unfold num; rw [if_neg a, if_pos b]; omega)
  rw [if_neg b]
  by_cases d : c = 249
  · have f : fol c = 2 := by unfold fol; rw [if_neg a, if_neg b, if_pos d]
    rw [f] at hv1
    rw [if_pos d, u64 (by omega)]
    exact key _ (by omega) (by unfold num; rw [if_neg a, if_neg b, if_pos d]; omega)
  · rw [if_neg d]
    exact key _ (by omega) (by unfold num; rw [if_neg a, if_neg b, if_neg d])
theorem get_loop {s : ByteArray} (hs : s.size ≤ 140737488351232) (p : Nat) {c : Int} (h0 : 0 ≤ c) (h1 : c < 256) (hp : p + 1 + fol c ≤ s.size) : ∀ (d k : Nat) (i : Nat), i + d = fol c → d < k →
    varint_Get.l0 k s p c ((fol c : Int) + 1) (val ((((bytesOf s).drop (p + 1)).take (fol c)).take i)) (fol c) i = some (endS p c (val (((bytesOf s).drop (p + 1)).take (fol c)))) := by
  have hby : By (((bytesOf s).drop (p + 1)).take (fol c)) := ((bytes_by s).drop _).take _
  have hlen : (((bytesOf s).drop (p + 1)).take (fol c)).length = fol c := by rw [List.length_take, List.length_drop, size_bytes]; omega
  have hget : ∀ i, i < fol c → (((bytesOf s).drop (p + 1)).take (fol c)).getD i 0 = (bytesOf s).getD (p + 1 + i) 0 := by
    intro i hi
    simp only [List.getD_eq_getElem?_getD, List.getElem?_take, List.getElem?_drop]
    rw [if_pos hi]
  have hf := fol_bd h0 h1
  generalize hr : ((bytesOf s).drop (p + 1)).take (fol c) = r at *
  clear hr
  intro d
  induction d with
  | zero =>
    intro k i hi hk
    obtain ⟨k, rfl⟩ : ∃ m, k = m + 1 := ⟨k - 1, by omega⟩
    have hi' : i = fol c := by omega
    subst hi'
    rw [List.take_of_length_le (by omega)]
    have hv := val_bd r hby
    rw [hlen] at hv
    exact get_end (by omega) h0 h1 hv.1 hv.2 k s
  | succ d ih =>
    intro k i hi hk
    obtain ⟨k, rfl⟩ : ∃ m, k = m + 1 := ⟨k - 1, by omega⟩
    simp only [varint_Get.l0]
    have e : wrap64 (wrap64 ((p : Int) + 1) + (i : Int)) = ((p + 1 + i : Nat) : Int) := by rw [w64 (n := (p : Int) + 1) (by omega), w64 (by omega)]; omega
    have hv := val_take_bd hby i
    have hp7 := pow_mono (show i ≤ 7 by omega)
    have hbb := bt_range s ((p + 1 + i : Nat) : Int)
    rw [if_pos (by omega), e, if_pos (by omega), if_pos (by omega), or_byte hv.1 (by omega) hbb.1 (by omega), w64 (n := (i : Int) + 1) (by omega), bt_get, ← hget i (by omega), ← val_snoc, ← take_snoc (by omega)]
    exact ih k (i + 1) (by omega) (by omega)
theorem drop_cons {s : ByteArray} {p : Nat} (h : p < s.size) : (bytesOf s).drop p = bt s p :: (bytesOf s).drop (p + 1) := by
  rw [List.drop_eq_getElem_cons (by rw [size_bytes]; exact h), bt_get, List.getD_eq_getElem?_getD, List.getElem?_eq_getElem (by rw [size_bytes]; exact h)]
  rfl
theorem get_getS {s : ByteArray} (hs : s.size ≤ 140737488351232) (a : Int) {k : Nat} (hk : 12 ≤ k) : varint_Get.f k s a = some (getS s a) := by
  unfold varint_Get.f getS
  obtain ⟨k, rfl⟩ : ∃ m, k = m + 1 := ⟨k - 1, by omega⟩
  by_cases a0 : a < 0
  · rw [if_pos a0, if_pos (.inl a0)]
    simp only [varint_Get.j0]
    rfl
  rw [if_neg a0]
  by_cases a1 : (s.size : Int) < a
  · rw [if_pos (.inr a1)]
    simp only [varint_Get.j0]
    rw [if_pos (decide_eq_true a1)]
  rw [if_neg (by omega)]
  simp only [varint_Get.j0]
  rw [if_neg (by simp; omega)]
  obtain ⟨p, rfl⟩ := Int.eq_ofNat_of_zero_le (show 0 ≤ a by omega)
  rw [Int.toNat_natCast]
  by_cases e : p = s.size
  · subst e
    rw [if_pos rfl, List.drop_of_length_le (by rw [size_bytes]; exact Nat.le_refl _)]
    rfl
  have hlt : p < s.size := by omega
  have hb := bt_range s (p : Int)
  rw [if_neg (by omega), if_pos (by omega), if_pos (by omega), want_fol hb.1 (by omega), Option.bind_some, w64 (n := (s.size : Int) - p) (by omega), drop_cons hlt]
  have hl : ((bytesOf s).drop (p + 1)).length = s.size - (p + 1) := by rw [List.length_drop, size_bytes]
  by_cases f : s.size - (p + 1) < fol (bt s p)
  · have hd : dec (bt s p :: (bytesOf s).drop (p + 1)) = (0, 0, 3) := by rw [dec, if_pos (by omega)]
    rw [if_pos (by omega), hd]
    rfl
  · have hfb := fol_bd hb.1 (by omega)
    have hl0 := get_loop hs p hb.1 (by omega) (by omega) (fol (bt s p)) k 0 (by omega) (by omega)
    rw [List.take_zero, val_nil] at hl0
    rw [if_neg (by omega), Option.bind_some, w64 (n := (fol (bt s p) : Int) + 1 - 1) (by omega), show (fol (bt s p) : Int) + 1 - 1 = fol (bt s p) by omega]
    rw [show ((0 : Nat) : Int) = 0 from rfl] at hl0
    rw [hl0]
    unfold endS
    by_cases z : sz (num (bt s p) (val (((bytesOf s).drop (p + 1)).take (fol (bt s p))))) = fol (bt s p) + 1
    · have hd : dec (bt s p :: (bytesOf s).drop (p + 1)) = (num (bt s p) (val (((bytesOf s).drop (p + 1)).take (fol (bt s p)))), fol (bt s p) + 1, 0) := by rw [dec, if_neg (by omega), if_pos z]
      rw [if_pos z, hd]; rfl
    · have hd : dec (bt s p :: (bytesOf s).drop (p + 1)) = (0, 0, 4) := by rw [dec, if_neg (by omega), if_neg z]
      rw [if_neg z, hd]; rfl
def cutS (s : ByteArray) (a : Int) : ByteArray × Int × Int :=
  if (getS s a).2.2 = 0 then
    if (getS s a).1 > 65536 then (⟨#[]⟩, 0, 2) else if (s.size : Int) - (getS s a).2.1 < (getS s a).1 then (⟨#[]⟩, 0, 3)
    else (s.extract (getS s a).2.1.toNat ((getS s a).2.1 + (getS s a).1).toNat, (getS s a).2.1 + (getS s a).1, 0)
  else (⟨#[]⟩, 0, (getS s a).2.2)
theorem getS_cases (s : ByteArray) (a : Int) : ((getS s a).2.2 ≠ 0 ∧ (getS s a).1 = 0 ∧ (getS s a).2.1 = 0) ∨
    ∃ n : Int, ∃ p : Nat, a = p ∧ getS s a = (n, ((p + sz n : Nat) : Int), 0) ∧ enc n = ((bytesOf s).drop p).take (sz n) ∧ p + sz n ≤ s.size ∧ 0 ≤ n ∧ n ≤ 18446744073709551615 := by
  unfold getS
  by_cases h : a < 0 ∨ (s.size : Int) < a
  · rw [if_pos h]; exact .inl ⟨by decide, rfl, rfl⟩
  rw [if_neg h]
  obtain ⟨p, rfl⟩ := Int.eq_ofNat_of_zero_le (show 0 ≤ a by omega)
  rw [Int.toNat_natCast]
  rcases dec_cases ((bytesOf s).drop p) ((bytes_by s).drop p) with e | e | ⟨n, e, h1, h2, h3, h4⟩
  · rw [e]; exact .inl ⟨by simp, rfl, rfl⟩
  · rw [e]; exact .inl ⟨by simp, rfl, rfl⟩
  · rw [e]
    have := sz_bd n
    refine .inr ⟨n, p, rfl, ?_, h1, ?_, h3, h4⟩
    · rw [if_pos rfl]; simp
    · rw [List.length_drop, size_bytes] at h2; omega
theorem cut_cutS {s : ByteArray} (hs : s.size ≤ 140737488351232) (a : Int) {k : Nat} (hk : 12 ≤ k) : varint_Cut.f k s a = some (cutS s a) := by
  unfold varint_Cut.f cutS
  rw [get_getS hs a hk, Option.bind_some]
  rcases getS_cases s a with ⟨h, _, _⟩ | ⟨n, p, rfl, e, h1, h2, h3, h4⟩
  · rw [if_neg h, if_neg h]
  · rw [e]
    simp only [if_true]
    by_cases b : n > 65536
    · rw [if_pos b, if_pos b]
    rw [if_neg b, if_neg b, w64 (n := (s.size : Int) - ((p + sz n : Nat) : Int)) (by omega), u64 (by omega), w64 (n := n) (by omega)]
    by_cases c : (s.size : Int) - ((p + sz n : Nat) : Int) < n
    · rw [if_pos c, if_pos c]
    rw [if_neg c, if_neg c, w64 (by omega), if_pos (by omega), if_pos (by omega), if_pos (by omega)]
end Go.Proofs.YtjjimkmbbifbjaaDoor.VF
