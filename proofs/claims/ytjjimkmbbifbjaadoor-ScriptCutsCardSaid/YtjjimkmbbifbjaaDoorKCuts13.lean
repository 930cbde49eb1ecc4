import Derived.Laws.BytesArg
import Derived.Laws.BitsAllLaws
import Derived.IntWalk
import Derived.Test.YtjjimkmbbifbjaaDoorKCuts6
namespace Go.Proofs.YtjjimkmbbifbjaaDoor.VP
open Go.RowKit Go.Proofs.YtjjimkmbbifbjaaDoorW.PrintWords Go.Proofs.YtjjimkmbbifbjaaDoorW.PrintLast Go.Proofs.YtjjimkmbbifbjaaDoorW.PrintMore
def bg : Nat → Int → List Int
  | 0, _ => []
  | k + 1, n => bg k (n / 256) ++ [n % 256]
theorem bg_length : ∀ k n, (bg k n).length = k
  | 0, _ => rfl
  | k + 1, n => by rw [bg, List.length_append, bg_length k]; rfl
theorem pow_pos256 (k : Nat) : (0 : Int) < 256 ^ k := Int.pow_pos (by decide)
theorem ediv_pow (n : Int) (k : Nat) : n / 256 / 256 ^ k = n / 256 ^ (k + 1) := by
  rw [Int.ediv_ediv_of_nonneg (by decide), Int.pow_succ, Int.mul_comm]
theorem bg_cons : ∀ k n, bg (k + 1) n = (n / 256 ^ k % 256) :: bg k n
  | 0, n => by simp [bg]
  | k + 1, n => by
    rw [bg, bg_cons k (n / 256), ediv_pow]
    rfl
def By (l : List Int) : Prop := ∀ b ∈ l, 0 ≤ b ∧ b < 256
theorem By.nil : By [] := fun _ h => by cases h
theorem By.cons {b : Int} {l : List Int} (h0 : 0 ≤ b) (h1 : b < 256) (h : By l) : By (b :: l) := by
  intro x hx
  rcases List.mem_cons.1 hx with rfl | hx
  · exact ⟨h0, h1⟩
  · exact h x hx
theorem By.append {l m : List Int} (h : By l) (k : By m) : By (l ++ m) := by
  intro x hx
  rcases List.mem_append.1 hx with hx | hx
  · exact h x hx
  · exact k x hx
theorem By.tail {b : Int} {l : List Int} (h : By (b :: l)) : By l := fun x hx => h x (List.mem_cons_of_mem _ hx)
theorem By.take {l : List Int} (h : By l) (n : Nat) : By (l.take n) := fun x hx => h x (List.mem_of_mem_take hx)
theorem By.drop {l : List Int} (h : By l) (n : Nat) : By (l.drop n) := fun x hx => h x (List.mem_of_mem_drop hx)
theorem bg_by : ∀ k n, By (bg k n)
  | 0, _ => By.nil
  | k + 1, n => (bg_by k _).append (By.cons (by omega) (by omega) By.nil)
def val (l : List Int) : Int := l.foldl (fun a b => a * 256 + b) 0
theorem val_nil : val [] = 0 := rfl
theorem val_snoc (l : List Int) (b : Int) : val (l ++ [b]) = val l * 256 + b := by simp [val, List.foldl_append]
theorem bg_val_snoc (l : List Int) (b : Int) (h0 : 0 ≤ b) (h1 : b < 256) : bg (l.length + 1) (val (l ++ [b])) = bg l.length (val l) ++ [b] := by
  rw [bg, val_snoc, show (val l * 256 + b) / 256 = val l by omega, show (val l * 256 + b) % 256 = b by omega]
theorem list_snoc {α : Type} (P : List α → Prop) (h0 : P []) (hs : ∀ l a, P l → P (l ++ [a])) (l : List α) : P l := by
  have h : ∀ r : List α, P r.reverse := by
    intro r
    induction r with
    | nil => simpa using h0
    | cons a r ih => rw [List.reverse_cons]; exact hs _ _ ih
  have := h l.reverse
  rwa [List.reverse_reverse] at this
theorem bg_val (l : List Int) : By l → bg l.length (val l) = l := by
  refine list_snoc (fun l => By l → bg l.length (val l) = l) (fun _ => rfl) (fun l b ih h => ?_) l
  have hb := h b (by simp)
  rw [List.length_append, show [b].length = 1 from rfl, bg_val_snoc l b hb.1 hb.2, ih (fun x hx => h x (by simp [hx]))]
theorem emod_split (a : Int) {p q : Int} (hp : 0 ≤ p) : a % (p * q) = a % p + p * (a / p % q) := by
  rw [Int.emod_def a (p * q), ← Int.ediv_ediv_of_nonneg hp, Int.emod_def a p, Int.emod_def (a / p) q, Int.mul_sub, Int.mul_assoc]
  omega
theorem val_bg : ∀ k n, val (bg k n) = n % 256 ^ k
  | 0, n => by simp [bg, val_nil, Int.emod_one]
  | k + 1, n => by
    have e : (256 : Int) ^ (k + 1) = 256 * 256 ^ k := by rw [Int.pow_succ, Int.mul_comm]
    rw [bg, val_snoc, val_bg k, e, emod_split n (by decide)]
    omega
theorem val_bd (l : List Int) : By l → 0 ≤ val l ∧ val l < 256 ^ l.length := by
  refine list_snoc (fun l => By l → 0 ≤ val l ∧ val l < 256 ^ l.length) (fun _ => by decide) (fun l b ih h => ?_) l
  have hb := h b (by simp)
  have hl := ih (fun x hx => h x (by simp [hx]))
  rw [val_snoc, List.length_append, show [b].length = 1 from rfl, Int.pow_succ]
  omega
def bh (n : Int) : Nat :=
  if n ≤ 16777215 then 3 else if n ≤ 4294967295 then 4 else if n ≤ 1099511627775 then 5 else if n ≤ 281474976710655 then 6 else if n ≤ 72057594037927935 then 7 else 8
def enc (n : Int) : List Int :=
  if n ≤ 240 then [n] else if n ≤ 2287 then [241 + (n - 240) / 256, (n - 240) % 256] else if n ≤ 67823 then [249, (n - 2288) / 256, (n - 2288) % 256]
  else (247 + (bh n : Int)) :: bg (bh n) n
def sz (n : Int) : Nat := if n ≤ 240 then 1 else if n ≤ 2287 then 2 else if n ≤ 67823 then 3 else 1 + bh n
theorem bh_bd (n : Int) : 3 ≤ bh n ∧ bh n ≤ 8 := by unfold bh; split <;> (try split) <;> (try split) <;> (try split) <;> (try split) <;> omega
theorem enc_length (n : Int) : (enc n).length = sz n := by
  unfold enc sz
  split
  · rfl
  split
  · rfl
  split
  · rfl
  rw [List.length_cons, bg_length]; omega
theorem sz_bd (n : Int) : 1 ≤ sz n ∧ sz n ≤ 9 := by have := bh_bd n; unfold sz; split <;> (try split) <;> (try split) <;> omega
theorem enc_by {n : Int} (h0 : 0 ≤ n) : By (enc n) := by
  unfold enc
  have hb := bh_bd n
  split
  · exact By.cons h0 (by omega) By.nil
  split
  · exact By.cons (by omega) (by omega) (By.cons (by omega) (by omega) By.nil)
  split
  · exact By.cons (by omega) (by omega) (By.cons (by omega) (by omega) (By.cons (by omega) (by omega) By.nil))
  exact By.cons (by omega) (by omega) (bg_by _ _)
def fol (c : Int) : Nat := if c ≤ 240 then 0 else if c < 249 then 1 else if c = 249 then 2 else (c - 247).toNat
def num (c v : Int) : Int := if c ≤ 240 then c else if c < 249 then 240 + 256 * (c - 241) + v else if c = 249 then 2288 + v else v
def dec : List Int → Int × Nat × Int
  | [] => (0, 0, 3)
  | c :: r => if r.length < fol c then (0, 0, 3) else if sz (num c (val (r.take (fol c)))) = fol c + 1 then (num c (val (r.take (fol c))), fol c + 1, 0) else (0, 0, 4)
theorem fol_bd {c : Int} (h0 : 0 ≤ c) (h1 : c < 256) : fol c ≤ 8 := by unfold fol; split <;> (try split) <;> (try split) <;> omega
theorem enc_head (n : Int) (h0 : 0 ≤ n) : ∃ c t, enc n = c :: t ∧ fol c = t.length ∧ 0 ≤ c ∧ c < 256 := by
  have hb := bh_bd n
  unfold enc
  split
  · exact ⟨_, _, rfl, by unfold fol; rw [if_pos ‹_›]; rfl, by omega, by omega⟩
  split
  · exact ⟨_, _, rfl, by unfold fol; rw [if_neg (by omega), if_pos (by omega)]; rfl, by omega, by omega⟩
  split
  · exact ⟨_, _, rfl, by unfold fol; rw [if_neg (by omega), if_neg (by omega), if_pos rfl]; rfl, by omega, by omega⟩
  · exact ⟨_, _, rfl, by unfold fol; rw [if_neg (by omega), if_neg (by omega), if_neg (by omega), bg_length]; omega, by omega, by omega⟩
theorem bh_pow {n : Int} (h1 : n ≤ 18446744073709551615) : n < 256 ^ bh n := by
  unfold bh
  split
  · omega
  split
  · omega
  split
  · omega
  split
  · omega
  split
  · omega
  · omega
theorem dec_enc {n : Int} (h0 : 0 ≤ n) (h1 : n ≤ 18446744073709551615) (r : List Int) : dec (enc n ++ r) = (n, sz n, 0) := by
  have hb := bh_bd n
  have hp := bh_pow h1
  unfold enc sz
  split
  · rename_i h
    have hf : fol n = 0 := by unfold fol; rw [if_pos h]
    have hn : ∀ v, num n v = n := fun v => by unfold num; rw [if_pos h]
    show dec (n :: r) = _
    rw [dec, hf, if_neg (by omega), hn, if_pos (by unfold sz; rw [if_pos h])]
  split
  · rename_i h g
    have hf : fol (241 + (n - 240) / 256) = 1 := by unfold fol; rw [if_neg (by omega), if_pos (by omega)]
    have hn : num (241 + (n - 240) / 256) ((n - 240) % 256) = n := by unfold num; rw [if_neg (by omega), if_pos (by omega)]; omega
    show dec ((241 + (n - 240) / 256) :: ((n - 240) % 256) :: r) = _
    have hv : val (List.take 1 ((n - 240) % 256 :: r)) = (n - 240) % 256 := by simp [val]
    rw [dec, hf, if_neg (by simp), hv, hn, if_pos (by unfold sz; rw [if_neg h, if_pos g])]
  split
  · rename_i h g k
    have hf : fol 249 = 2 := by decide
    have hn : num 249 (n - 2288) = n := by unfold num; rw [if_neg (by omega), if_neg (by omega), if_pos rfl]; omega
    show dec (249 :: ((n - 2288) / 256) :: ((n - 2288) % 256) :: r) = _
    have hv : val (List.take 2 ((n - 2288) / 256 :: (n - 2288) % 256 :: r)) = n - 2288 := by simp [val]; omega
    rw [dec, hf, if_neg (by simp), hv, hn, if_pos (by unfold sz; rw [if_neg h, if_neg g, if_pos k])]
  · rename_i h g k
    have hf : fol (247 + (bh n : Int)) = bh n := by unfold fol; rw [if_neg (by omega), if_neg (by omega), if_neg (by omega)]; omega
    have hn : ∀ v, num (247 + (bh n : Int)) v = v := fun v => by unfold num; rw [if_neg (by omega), if_neg (by omega), if_neg (by omega)]
    show dec ((247 + (bh n : Int)) :: (bg (bh n) n ++ r)) = _
    have hv : val (List.take (bh n) (bg (bh n) n ++ r)) = n := by
      rw [List.take_append_of_le_length (by rw [bg_length]; omega), List.take_of_length_le (by rw [bg_length]; omega), val_bg, Int.emod_eq_of_lt h0 hp]
    have hs : sz n = 1 + bh n := by unfold sz; rw [if_neg h, if_neg g, if_neg k]
    rw [dec, hf, if_neg (by rw [List.length_append, bg_length]; omega), hv, hn, if_pos (by omega)]
    rw [Nat.add_comm]
theorem pow_le {k : Nat} (h : k ≤ 8) : (256 : Int) ^ k ≤ 18446744073709551616 := by
  match k, h with
  | 0, _ => decide
  | 1, _ => decide
  | 2, _ => decide
  | 3, _ => decide
  | 4, _ => decide
  | 5, _ => decide
  | 6, _ => decide
  | 7, _ => decide
  | 8, _ => decide
theorem enc_num {c : Int} {t : List Int} (h0 : 0 ≤ c) (h1 : c < 256) (hb : By t) (hl : t.length = fol c) :
    0 ≤ num c (val t) ∧ num c (val t) ≤ 18446744073709551615 ∧ (sz (num c (val t)) = fol c + 1 → enc (num c (val t)) = c :: t) := by
  have hv := val_bd t hb
  by_cases a : c ≤ 240
  · have e : num c (val t) = c := by unfold num; rw [if_pos a]
    have f : fol c = 0 := by unfold fol; rw [if_pos a]
    have ht : t = [] := List.length_eq_zero_iff.1 (by omega)
    rw [e]
    exact ⟨h0, by omega, fun _ => by unfold enc; rw [if_pos a, ht]⟩
  by_cases b : c < 249
  · have f : fol c = 1 := by unfold fol; rw [if_neg a, if_pos b]
    have e : num c (val t) = 240 + 256 * (c - 241) + val t := by unfold num; rw [if_neg a, if_pos b]
    rw [hl, f] at hv
    obtain ⟨x, ht⟩ : ∃ x, t = [x] := List.length_eq_one_iff.1 (by omega)
    subst ht
    have hx : val [x] = x := by simp [val]
    rw [e]
    rw [hx] at hv ⊢
    refine ⟨by omega, by omega, fun hs => ?_⟩
    have hne : ¬ 240 + 256 * (c - 241) + x ≤ 240 := by
      intro z
      unfold sz at hs
      rw [if_pos z, f] at hs
      omega
    unfold enc
    rw [if_neg hne, if_pos (by omega), show 241 + (240 + 256 * (c - 241) + x - 240) / 256 = c by omega, show (240 + 256 * (c - 241) + x - 240) % 256 = x by omega]
  by_cases d : c = 249
  · have f : fol c = 2 := by unfold fol; rw [if_neg a, if_neg b, if_pos d]
    have e : num c (val t) = 2288 + val t := by unfold num; rw [if_neg a, if_neg b, if_pos d]
    rw [hl, f] at hv
    obtain ⟨x, y, ht⟩ : ∃ x y, t = [x, y] := by
      match t, (show t.length = 2 by omega) with
      | [x, y], _ => exact ⟨x, y, rfl⟩
    subst ht
    have hx : val [x, y] = x * 256 + y := by simp [val]
    have hbx := hb x (by simp)
    have hby := hb y (by simp)
    rw [e]
    rw [hx] at hv ⊢
    refine ⟨by omega, by omega, fun _ => ?_⟩
    unfold enc
    rw [if_neg (by omega), if_neg (by omega), if_pos (by omega), show (2288 + (x * 256 + y) - 2288) / 256 = x by omega, show (2288 + (x * 256 + y) - 2288) % 256 = y by omega, d]
  · have f : fol c = (c - 247).toNat := by unfold fol; rw [if_neg a, if_neg b, if_neg d]
    have e : num c (val t) = val t := by unfold num; rw [if_neg a, if_neg b, if_neg d]
    rw [e]
    have hp := pow_le (k := t.length) (by omega)
    refine ⟨by omega, by omega, fun hs => ?_⟩
    have hbh : bh (val t) = t.length ∧ ¬ val t ≤ 67823 := by
      have hg : 4 ≤ fol c + 1 := by omega
      unfold sz at hs
      split at hs
      · omega
      split at hs
      · omega
      split at hs
      · omega
      · exact ⟨by omega, by assumption⟩
    unfold enc
    rw [if_neg (by omega), if_neg (by omega), if_neg (by omega), hbh.1, bg_val t hb, show 247 + (t.length : Int) = c by omega]
theorem dec_cases (l : List Int) (hb : By l) :
    dec l = (0, 0, 3) ∨ dec l = (0, 0, 4) ∨ ∃ n, dec l = (n, sz n, 0) ∧ enc n = l.take (sz n) ∧ sz n ≤ l.length ∧ 0 ≤ n ∧ n ≤ 18446744073709551615 := by
  match l, hb with
  | [], _ => exact .inl rfl
  | c :: r, hb =>
    have hc := hb c (by simp)
    by_cases a : r.length < fol c
    · exact .inl (by rw [dec, if_pos a])
    have hl : (r.take (fol c)).length = fol c := by rw [List.length_take]; omega
    obtain ⟨g0, g1, g⟩ := enc_num hc.1 hc.2 (hb.tail.take (fol c)) hl
    by_cases s : sz (num c (val (r.take (fol c)))) = fol c + 1
    · refine .inr (.inr ⟨num c (val (r.take (fol c))), ?_, ?_, ?_, g0, g1⟩)
      · rw [dec, if_neg a, if_pos s, s]
      · rw [g s, s, List.take_succ_cons]
      · rw [s, List.length_cons]; omega
    · exact .inr (.inl (by rw [dec, if_neg a, if_neg s]))
theorem dec_short {n : Int} (h0 : 0 ≤ n) {j : Nat} (hj : j < sz n) : dec ((enc n).take j) = (0, 0, 3) := by
  obtain ⟨c, t, he, hf, _, _⟩ := enc_head n h0
  have hl := enc_length n
  rw [he, List.length_cons] at hl
  rw [he]
  cases j with
  | zero => rfl
  | succ j => rw [List.take_succ_cons, dec, if_pos (by rw [List.length_take]; omega)]
def lt : List Int → List Int → Bool
  | _, [] => false
  | [], _ :: _ => true
  | a :: x, b :: y => decide (a < b) || (decide (a = b) && lt x y)
theorem lt_irrefl : ∀ l, lt l l = false
  | [] => rfl
  | a :: l => by simp [lt, lt_irrefl l]
end Go.Proofs.YtjjimkmbbifbjaaDoor.VP
