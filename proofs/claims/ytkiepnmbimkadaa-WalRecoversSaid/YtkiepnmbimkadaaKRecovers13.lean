import Derived.WalkKit
namespace Go.Proofs.Ytkiepnmbimkadaa.CP
def st (n : Nat) : Nat := if n % 2 = 1 then (n / 2) ^^^ 3988292384 else n / 2
def stk : Nat → Nat → Nat
  | 0, n => n
  | k + 1, n => stk k (st n)
theorem st_lt {n : Nat} (h : n < 4294967296) : st n < 4294967296 := by
  unfold st
  split
  · exact Nat.xor_lt_two_pow (n := 32) (by omega) (by decide)
  · omega
theorem stk_lt : ∀ (k : Nat) {n : Nat}, n < 4294967296 → stk k n < 4294967296
  | 0, _, h => h
  | k + 1, _, h => stk_lt k (st_lt h)
theorem xor_div2 (a b : Nat) : (a ^^^ b) / 2 = a / 2 ^^^ b / 2 := by
  have := Nat.xor_div_two_pow (a := a) (b := b) (n := 1)
  simpa using this
theorem xor_mod2 (a b : Nat) : (a ^^^ b) % 2 = (a % 2 + b % 2) % 2 := by
  have := Nat.xor_mod_two_pow (a := a) (b := b) (n := 1)
  rw [show (2 : Nat) ^ 1 = 2 from rfl] at this
  rw [this]
  rcases Nat.mod_two_eq_zero_or_one a with h | h <;> rcases Nat.mod_two_eq_zero_or_one b with g | g <;> rw [h, g] <;> rfl
theorem st_xor (a b : Nat) : st (a ^^^ b) = st a ^^^ st b := by
  unfold st
  rw [xor_div2, xor_mod2]
  rcases Nat.mod_two_eq_zero_or_one a with h | h <;> rcases Nat.mod_two_eq_zero_or_one b with g | g <;> rw [h, g]
  · rfl
  · simp [Nat.xor_assoc]
  · rw [if_pos (show (1 + 0) % 2 = 1 from rfl), if_pos rfl, if_neg (by decide), Nat.xor_assoc, Nat.xor_comm (b / 2), ← Nat.xor_assoc]
  · rw [if_neg (by decide), if_pos rfl, if_pos rfl, Nat.xor_assoc, Nat.xor_comm 3988292384, Nat.xor_assoc, Nat.xor_self, Nat.xor_zero]
theorem stk_xor : ∀ (k a b : Nat), stk k (a ^^^ b) = stk k a ^^^ stk k b
  | 0, _, _ => rfl
  | k + 1, a, b => by rw [stk, st_xor, stk_xor k]; rfl
theorem stk_shift : ∀ (k q : Nat), stk k (2 ^ k * q) = q
  | 0, q => by simp [stk]
  | k + 1, q => by
    have h : 2 ^ (k + 1) * q = 2 * (2 ^ k * q) := by rw [Nat.pow_succ, Nat.mul_comm (2 ^ k) 2, Nat.mul_assoc]
    rw [stk, h]
    have : st (2 * (2 ^ k * q)) = 2 ^ k * q := by unfold st; rw [if_neg (by omega)]; omega
    rw [this, stk_shift k]
theorem xor_hi_lo (x : Nat) : 256 * (x / 256) ^^^ x % 256 = x := by
  have h := Nat.two_pow_add_eq_or_of_lt (i := 8) (b := x % 256) (by omega) (x / 256)
  rw [show 2 ^ 8 = 256 from rfl, Nat.div_add_mod] at h
  have h2 : (256 * (x / 256)) &&& (x % 256) = 0 := by
    apply Nat.eq_of_testBit_eq
    intro i
    rw [Nat.testBit_and, Nat.zero_testBit, show 256 * (x / 256) = 2 ^ 8 * (x / 256) from rfl, Nat.testBit_two_pow_mul]
    by_cases hi : 8 ≤ i
    · rw [Nat.testBit_lt_two_pow (x := x % 256) (Nat.lt_of_lt_of_le (show x % 256 < 2 ^ 8 by omega) (Nat.pow_le_pow_right (by decide) hi)), Bool.and_false]
    · rw [decide_eq_false hi, Bool.false_and, Bool.false_and]
  have h3 : ∀ a b : Nat, a &&& b = 0 → a ^^^ b = a ||| b := by
    intro a b hab
    apply Nat.eq_of_testBit_eq
    intro i
    have := congrArg (fun z => Nat.testBit z i) hab
    simp only [Nat.testBit_and, Nat.zero_testBit] at this
    rw [Nat.testBit_xor, Nat.testBit_or]
    revert this
    cases a.testBit i <;> cases b.testBit i <;> decide
  rw [h3 _ _ h2, ← h]
theorem xor_div256 (a b : Nat) : (a ^^^ b) / 256 = a / 256 ^^^ b / 256 := by
  have := Nat.xor_div_two_pow (a := a) (b := b) (n := 8)
  rw [show (2 : Nat) ^ 8 = 256 from rfl] at this
  exact this
theorem xor_mod256 (a b : Nat) : (a ^^^ b) % 256 = a % 256 ^^^ b % 256 := by
  have := Nat.xor_mod_two_pow (a := a) (b := b) (n := 8)
  rw [show (2 : Nat) ^ 8 = 256 from rfl] at this
  exact this
theorem tab_step (n : Nat) {c : Nat} (hc : c < 256) : stk 8 (n ^^^ c) = (n / 256) ^^^ stk 8 ((n % 256) ^^^ c) := by
  have h1 := xor_hi_lo (n ^^^ c)
  have h2 : (n ^^^ c) / 256 = n / 256 := by rw [xor_div256, show c / 256 = 0 by omega, Nat.xor_zero]
  have h3 : (n ^^^ c) % 256 = (n % 256) ^^^ c := by rw [xor_mod256, Nat.mod_eq_of_lt hc]
  rw [h2, h3] at h1
  rw [← h1, stk_xor, show 256 * (n / 256) = 2 ^ 8 * (n / 256) from rfl, stk_shift]
def run (n : Nat) (l : List Nat) : Nat := l.foldl (fun n c => stk 8 (n ^^^ c)) n
theorem run_append (n : Nat) (l m : List Nat) : run n (l ++ m) = run (run n l) m := by simp [run, List.foldl_append]
theorem run_cons (n c : Nat) (l : List Nat) : run n (c :: l) = run (stk 8 (n ^^^ c)) l := rfl
def Bn (l : List Nat) : Prop := ∀ c ∈ l, c < 256
theorem step_lt {n c : Nat} (h : n < 4294967296) (hc : c < 256) : stk 8 (n ^^^ c) < 4294967296 := stk_lt 8 (Nat.xor_lt_two_pow (n := 32) h (by omega))
theorem run_lt : ∀ (l : List Nat) {n : Nat}, n < 4294967296 → Bn l → run n l < 4294967296
  | [], _, h, _ => h
  | c :: l, _, h, hb => run_lt l (step_lt h (hb c (by simp))) (fun x hx => hb x (by simp [hx]))
def add (sum : Nat) (l : List Nat) : Nat := 4294967295 - run (4294967295 - sum) l
theorem add_lt (s : Nat) (l : List Nat) : add s l < 4294967296 := by unfold add; omega
theorem add_add {s : Nat} (l m : List Nat) (hl : Bn l) : add (add s l) m = add s (l ++ m) := by
  unfold add
  have := run_lt l (n := 4294967295 - s) (by omega) hl
  rw [run_append, show 4294967295 - (4294967295 - run (4294967295 - s) l) = run (4294967295 - s) l by omega]
end Go.Proofs.Ytkiepnmbimkadaa.CP
