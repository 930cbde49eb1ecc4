import Derived.Test.YtjjimkmbbifbjaaDoorKGets15
import Derived.Test.YtjjimkmbbifbjaaDoorKGets16
namespace Go.Proofs.YtjjimkmbbifbjaaDoor.VF
open Go.RowKit Go.Proofs.YtjjimkmbbifbjaaDoor Go.Proofs.YtjjimkmbbifbjaaDoor.Pv Go.Proofs.YtjjimkmbbifbjaaDoor.VP Go.Proofs.YtjjimkmbbifbjaaDoorW.PrintWords Go.Proofs.YtjjimkmbbifbjaaDoorW.PrintLast Go.Proofs.YtjjimkmbbifbjaaDoorW.PrintMore
theorem rget_end {s : ByteArray} (hs : s.size ≤ 140737488351232) {p : Nat} (hp : p + 1 + fol (bt s p) ≤ s.size) (k : Nat) (hk : 30 ≤ k) :
    rivuletref01_Get.l0 k s p (bt s p) (fol (bt s p)) (val (((bytesOf s).drop (p + 1)).take (fol (bt s p)))) (fol (bt s p)) = some (endS p (bt s p) (val (((bytesOf s).drop (p + 1)).take (fol (bt s p))))) := by
  have hb := bt_range s (p : Int)
  have h0 := hb.1
  have h1 : bt s p < 256 := by omega
  have hf := fol_bd h0 h1
  have hby : By (((bytesOf s).drop (p + 1)).take (fol (bt s p))) := ((bytes_by s).drop _).take _
  have hlen : (((bytesOf s).drop (p + 1)).take (fol (bt s p))).length = fol (bt s p) := by rw [List.length_take, List.length_drop, size_bytes]; omega
  have hv := val_bd _ hby
  rw [hlen] at hv
  obtain ⟨g0, g1, g⟩ := enc_num h0 h1 hby hlen
  have hrow : bytesOf (s.extract p (p + 1 + fol (bt s p))) = bt s p :: ((bytesOf s).drop (p + 1)).take (fol (bt s p)) := by
    rw [bytes_extract, drop_cons (s := s) (by omega), show p + 1 + fol (bt s p) - p = fol (bt s p) + 1 by omega, List.take_succ_cons]
  generalize hvv : val (((bytesOf s).drop (p + 1)).take (fol (bt s p))) = v at *
  clear hvv
  have hpw := pow_le hf
  have key : ∀ (k : Nat) (n : Int), 24 ≤ k → n = num (bt s p) v → ((rivuletref01_Put.f k n).bind fun t => (if 0 ≤ (p : Int) then (if (p : Int) ≤ (wrap64 ((wrap64 ((p : Int) + 1)) + (fol (bt s p) : Int))) then (if (wrap64 ((wrap64 ((p : Int) + 1)) + (fol (bt s p) : Int))) ≤ (s.size : Int) then (if t.toList = (s.extract (p : Int).toNat ((wrap64 ((wrap64 ((p : Int) + 1)) + (fol (bt s p) : Int))) : Int).toNat).toList then (some (n, wrap64 ((wrap64 ((p : Int) + 1)) + (fol (bt s p) : Int)), (0 : Int))) else (some (0, 0, 4))) else (none)) else (none)) else (none))) = some (endS p (bt s p) v) := by
    rintro k n hk rfl
    rw [rput_enc g0 g1 hk, Option.bind_some, w64 (n := (p : Int) + 1) (by omega), w64 (by omega), if_pos (by omega), if_pos (by omega), if_pos (by omega), Int.toNat_natCast, show ((p : Int) + 1 + (fol (bt s p) : Int)).toNat = p + 1 + fol (bt s p) by omega]
    unfold endS
    by_cases z : sz (num (bt s p) v) = fol (bt s p) + 1
    · rw [if_pos z, if_pos (toList_inj.2 (bytes_inj (by rw [bytes_son (enc_by g0), hrow, g z])))]
      simp only [Option.some.injEq, Prod.mk.injEq, and_true, true_and]
      omega
    · rw [if_neg z, if_neg (fun h => z (by
        have h2 := congrArg bytesOf (toList_inj.1 h)
        rw [bytes_son (enc_by g0), hrow] at h2
        have h3 := congrArg List.length h2
        rw [enc_length, List.length_cons, hlen] at h3
        exact h3))]
  obtain ⟨k, rfl⟩ : ∃ m, k = m + 3 := ⟨k - 3, by omega⟩
  simp only [rivuletref01_Get.l0]
  rw [if_neg (by omega)]
  by_cases a : bt s p ≤ 240
  · have f : fol (bt s p) = 0 := by unfold fol; rw [if_pos a]
    have hn : bt s p = num (bt s p) v := by unfold num; rw [if_pos a]
    rw [if_pos (by omega), u64 (n := bt s p) (by omega)]
    simp only [rivuletref01_Get.j5]
    rw [if_neg (by omega)]
    simp only [rivuletref01_Get.j6]
    rw [if_neg (by omega)]
    exact key k _ (by omega) hn
  rw [if_neg (by have : fol (bt s p) ≠ 0 := by unfold fol; split <;> (try split) <;> (try split) <;> omega
                 omega)]
  simp only [rivuletref01_Get.j5]
  by_cases b : bt s p < 249
  · have f : fol (bt s p) = 1 := by unfold fol; rw [if_neg a, if_pos b]
    have hn : 240 + 256 * (bt s p - 241) + v = num (bt s p) v := by unfold num; rw [if_neg a, if_pos b]
    rw [f] at hv
    rw [if_pos (by omega), w64 (by omega), u64 (n := bt s p - 241) (by omega), u64 (n := 256 * (bt s p - 241)) (by omega), u64 (n := 240 + 256 * (bt s p - 241)) (by omega), u64 (by omega)]
    simp only [rivuletref01_Get.j6]
    rw [if_neg (by omega)]
    exact key k _ (by omega) hn
  by_cases d : bt s p = 249
  · have f : fol (bt s p) = 2 := by unfold fol; rw [if_neg a, if_neg b, if_pos d]
    have hn : 2288 + v = num (bt s p) v := by unfold num; rw [if_neg a, if_neg b, if_pos d]
    rw [f] at hv
    rw [if_neg (by omega)]
    simp only [rivuletref01_Get.j6]
    rw [if_pos (by omega), u64 (n := 2288 + v) (by omega)]
    exact key k _ (by omega) hn
  · have f : 3 ≤ fol (bt s p) := by unfold fol; rw [if_neg a, if_neg b, if_neg d]; omega
    have hn : v = num (bt s p) v := by unfold num; rw [if_neg a, if_neg b, if_neg d]
    rw [if_neg (by omega)]
    simp only [rivuletref01_Get.j6]
    rw [if_neg (by omega)]
    exact key k _ (by omega) hn
theorem rget_loop {s : ByteArray} (hs : s.size ≤ 140737488351232) {p : Nat} (hp : p + 1 + fol (bt s p) ≤ s.size) : ∀ (d k i : Nat), i + d = fol (bt s p) → d + 30 ≤ k →
    rivuletref01_Get.l0 k s p (bt s p) (fol (bt s p)) (val ((((bytesOf s).drop (p + 1)).take (fol (bt s p))).take i)) i = some (endS p (bt s p) (val (((bytesOf s).drop (p + 1)).take (fol (bt s p))))) := by
  have hb := bt_range s (p : Int)
  have hf := fol_bd hb.1 (by omega)
  have hby : By (((bytesOf s).drop (p + 1)).take (fol (bt s p))) := ((bytes_by s).drop _).take _
  have hlen : (((bytesOf s).drop (p + 1)).take (fol (bt s p))).length = fol (bt s p) := by rw [List.length_take, List.length_drop, size_bytes]; omega
  have hget : ∀ i, i < fol (bt s p) → (((bytesOf s).drop (p + 1)).take (fol (bt s p))).getD i 0 = (bytesOf s).getD (p + 1 + i) 0 := by
    intro i hi
    simp only [List.getD_eq_getElem?_getD, List.getElem?_take, List.getElem?_drop]
    rw [if_pos hi]
  have hend := fun k hk => rget_end hs hp k hk
  generalize hr : ((bytesOf s).drop (p + 1)).take (fol (bt s p)) = r at *
  clear hr
  intro d
  induction d with
  | zero =>
    intro k i hi hk
    have hi' : i = fol (bt s p) := by omega
    subst hi'
    rw [List.take_of_length_le (by omega)]
    exact hend k (by omega)
  | succ d ih =>
    intro k i hi hk
    obtain ⟨k, rfl⟩ : ∃ m, k = m + 1 := ⟨k - 1, by omega⟩
    simp only [rivuletref01_Get.l0]
    have e : wrap64 (wrap64 ((p : Int) + 1) + (i : Int)) = ((p + 1 + i : Nat) : Int) := by rw [w64 (n := (p : Int) + 1) (by omega), w64 (by omega)]; omega
    have hv := val_take_bd hby i
    have hp7 := pow_mono (show i ≤ 7 by omega)
    have hbb := bt_range s ((p + 1 + i : Nat) : Int)
    rw [if_pos (by omega), e, if_pos (by omega), if_pos (by omega), u64 (n := 256 * val (r.take i)) (by omega), u64 (n := bt s _) (by omega), u64 (by omega), w64 (n := (i : Int) + 1) (by omega), bt_get s (p + 1 + i), ← hget i (by omega), Int.mul_comm 256, ← val_snoc, ← take_snoc (by omega)]
    exact ih k (i + 1) (by omega) (by omega)
theorem rget_getS {s : ByteArray} (hs : s.size ≤ 140737488351232) (a : Int) {k : Nat} (hk : 60 ≤ k) : rivuletref01_Get.f k s a = some (getS s a) := by
  unfold rivuletref01_Get.f getS
  obtain ⟨k, rfl⟩ : ∃ m, k = m + 4 := ⟨k - 4, by omega⟩
  by_cases a0 : a < 0
  · rw [if_pos a0, if_pos (.inl a0)]
    simp only [rivuletref01_Get.j0]
    rfl
  rw [if_neg a0]
  by_cases a1 : (s.size : Int) < a
  · rw [if_pos (.inr a1)]
    simp only [rivuletref01_Get.j0]
    rw [if_pos (decide_eq_true a1)]
  rw [if_neg (by omega)]
  simp only [rivuletref01_Get.j0]
  rw [if_neg (by simp; omega)]
  obtain ⟨p, rfl⟩ := Int.eq_ofNat_of_zero_le (show 0 ≤ a by omega)
  rw [Int.toNat_natCast]
  by_cases e : p = s.size
  · subst e
    rw [if_pos rfl, List.drop_of_length_le (by rw [size_bytes]; exact Nat.le_refl _)]
    rfl
  have hlt : p < s.size := by omega
  have hb := bt_range s (p : Int)
  rw [if_neg (by omega), if_pos (by omega), if_pos (by omega), w64 (n := bt s p) (by omega), drop_cons hlt]
  have hl : ((bytesOf s).drop (p + 1)).length = s.size - (p + 1) := by rw [List.length_drop, size_bytes]
  have hfb := fol_bd hb.1 (show bt s p < 256 by omega)
  have key : ∀ k : Nat, 50 ≤ k → rivuletref01_Get.j3 k s p (bt s p) (fol (bt s p)) = some (if (dec (bt s p :: (bytesOf s).drop (p + 1))).2.2 = 0 then ((dec (bt s p :: (bytesOf s).drop (p + 1))).1, (p : Int) + (dec (bt s p :: (bytesOf s).drop (p + 1))).2.1, 0) else (0, 0, (dec (bt s p :: (bytesOf s).drop (p + 1))).2.2)) := by
    intro k hk
    obtain ⟨k, rfl⟩ : ∃ m, k = m + 1 := ⟨k - 1, by omega⟩
    simp only [rivuletref01_Get.j3]
    rw [w64 (n := (s.size : Int) - p) (by omega), w64 (by omega)]
    by_cases f : s.size - (p + 1) < fol (bt s p)
    · have hd : dec (bt s p :: (bytesOf s).drop (p + 1)) = (0, 0, 3) := by rw [dec, if_pos (by omega)]
      rw [if_pos (by omega), hd]
      rfl
    · have hl0 := rget_loop hs (p := p) (by omega) (fol (bt s p)) k 0 (by omega) (by omega)
      rw [List.take_zero, val_nil, show ((0 : Nat) : Int) = 0 from rfl] at hl0
      rw [if_neg (by omega), hl0]
      unfold endS
      by_cases z : sz (num (bt s p) (val (((bytesOf s).drop (p + 1)).take (fol (bt s p))))) = fol (bt s p) + 1
      · have hd : dec (bt s p :: (bytesOf s).drop (p + 1)) = (num (bt s p) (val (((bytesOf s).drop (p + 1)).take (fol (bt s p)))), fol (bt s p) + 1, 0) := by rw [dec, if_neg (by omega), if_pos z]
        rw [if_pos z, hd]; rfl
      · have hd : dec (bt s p :: (bytesOf s).drop (p + 1)) = (0, 0, 4) := by rw [dec, if_neg (by omega), if_neg z]
        rw [if_neg z, hd]; rfl
  by_cases a : bt s p ≤ 240
  · have f : fol (bt s p) = 0 := by unfold fol; rw [if_pos a]
    rw [if_neg (by omega)]
    simp only [rivuletref01_Get.j1]
    rw [if_neg (by omega)]
    simp only [rivuletref01_Get.j2]
    rw [if_neg (by omega)]
    have := key (k + 1) (by omega)
    rw [f] at this
    exact this
  rw [if_pos (by omega)]
  simp only [rivuletref01_Get.j1]
  by_cases d : bt s p = 249
  · have f : fol (bt s p) = 2 := by rw [d]; decide
    rw [if_pos d]
    simp only [rivuletref01_Get.j2]
    rw [if_neg (by omega)]
    have := key (k + 1) (by omega)
    rw [f] at this
    exact this
  rw [if_neg d]
  simp only [rivuletref01_Get.j2]
  by_cases b : bt s p < 249
  · have f : fol (bt s p) = 1 := by unfold fol; rw [if_neg a, if_pos b]
    rw [if_neg (by omega)]
    have := key (k + 1) (by omega)
    rw [f] at this
    exact this
  · have f : bt s p - 247 = (fol (bt s p) : Int) := by unfold fol; rw [if_neg a, if_neg b, if_neg d]; omega
    rw [if_pos (by omega), w64 (n := bt s p - 247) (by omega), f]
    exact key (k + 1) (by omega)
theorem rcut_cutS {s : ByteArray} (hs : s.size ≤ 140737488351232) (a : Int) {k : Nat} (hk : 60 ≤ k) : rivuletref01_Cut.f k s a = some (cutS s a) := by
  unfold rivuletref01_Cut.f cutS
  rw [rget_getS hs a hk, Option.bind_some]
  rcases getS_cases s a with ⟨h, _, _⟩ | ⟨n, p, rfl, e, h1, h2, h3, h4⟩
  · rw [if_neg h, if_neg h]
  · rw [e]
    simp only [if_true]
    by_cases b : n > 65536
    · rw [if_pos b, if_pos b]
    rw [if_neg b, if_neg b, w64 (n := n) (by omega), w64 (by omega)]
    by_cases c : (s.size : Int) - ((p + sz n : Nat) : Int) < n
    · rw [if_pos (by omega), if_pos c]
    rw [if_neg (by omega), if_neg c, if_pos (by omega), if_pos (by omega), if_pos (by omega)]
end Go.Proofs.YtjjimkmbbifbjaaDoor.VF
