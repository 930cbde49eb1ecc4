/-
  Chapter 03: levels, topics, filters: what is asked of lists, without the program.
-/
import Derived.Lib.Bytealg
namespace Go.Proofs.YtfakimleoihfgaaDoor.TP
section
variable {α : Type} [DecidableEq α]
/-- The levels of a filter's topics that have n. -/
def rowO (one rest : α) : List α → Nat → Option (List α)
  | [], 0 => some []
  | [], _ + 1 => none
  | x :: f, n => if x = rest then some (List.replicate n one) else
    match n with
    | 0 => none
    | n + 1 => (rowO one rest f n).map (x :: ·)
/-- Row x lets row y by, level by level. -/
def pw (one : α) : List α → List α → Bool
  | [], [] => true
  | x :: xs, y :: ys => (decide (x = one) || decide (x = y)) && pw one xs ys
  | _, _ => false
/-- Two rows have a topic in common. -/
def qw (one : α) : List α → List α → Bool
  | [], [] => true
  | x :: xs, y :: ys => (decide (x = one) || decide (y = one) || decide (x = y)) && qw one xs ys
  | _, _ => false
/-- Match, on levels. -/
def pm (one rest : α) : List α → List α → Bool
  | [], t => t.isEmpty
  | x :: f, t => if x = rest then true else
    match t with
    | [] => false
    | y :: t => if x ≠ one ∧ x ≠ y then false else pm one rest f t
def cov (one rest : α) : List α → List α → Nat → Bool
  | a, [], _ => decide (a.head? = some rest) || a.isEmpty
  | a, b0 :: b, d => if a.head? = some rest then true else if b0 = rest then d == 0 && decide (a = [one, rest]) else
    match a with
    | [] => false
    | a0 :: a => if a0 ≠ one ∧ a0 ≠ b0 then false else cov one rest a b (d + 1)
def mt (one rest : α) : List α → List α → Bool
  | a, [] => decide (a.head? = some rest) || a.isEmpty
  | a, b0 :: b => if a.head? = some rest then true else if b0 = rest then true else
    match a with
    | [] => false
    | a0 :: a => if a0 ≠ one ∧ b0 ≠ one ∧ a0 ≠ b0 then false else mt one rest a b
/-- The rest stands last alone. -/
def Wf (rest : α) : List α → Prop
  | [] => True
  | x :: f => (x = rest → f = []) ∧ Wf rest f
variable {one rest : α}
theorem rowO_len : ∀ (f : List α) (n : Nat) (x : List α), rowO one rest f n = some x → x.length = n
  | [], 0, x, h => by simp [rowO] at h; subst h; rfl
  | [], n + 1, x, h => by simp [rowO] at h
  | c :: f, n, x, h => by
    unfold rowO at h
    split at h
    · simp at h; subst h; simp
    · cases n with
      | zero => simp at h
      | succ n =>
        simp only [Option.map_eq_some_iff] at h
        obtain ⟨y, hy, rfl⟩ := h
        simp [rowO_len f n y hy]
theorem pw_len : ∀ (x y : List α), pw one x y = true → x.length = y.length
  | [], [], _ => rfl
  | _ :: xs, _ :: ys, h => by simp [pw] at h; simp [pw_len xs ys h.2]
  | [], _ :: _, h => by simp [pw] at h
  | _ :: _, [], h => by simp [pw] at h
theorem pw_ones : ∀ (y : List α), pw one (List.replicate y.length one) y = true
  | [] => rfl
  | _ :: ys => by simp [pw, List.replicate_succ, pw_ones ys]
theorem pw_ones' (y : List α) (n : Nat) (h : y.length = n) : pw one (List.replicate n one) y = true := by subst h; exact pw_ones y
theorem qw_ones : ∀ (y : List α), qw one (List.replicate y.length one) y = true
  | [] => rfl
  | _ :: ys => by simp [qw, List.replicate_succ, qw_ones ys]
theorem qw_symm : ∀ (x y : List α), qw one x y = qw one y x
  | [], [] => rfl
  | a :: xs, b :: ys => by simp only [qw, qw_symm xs ys]; congr 1; rw [Bool.or_comm (decide (a = one))]; congr 1; simp [eq_comm]
  | [], _ :: _ => rfl
  | _ :: _, [] => rfl
theorem pw_trans : ∀ (x y z : List α), pw one x y = true → pw one y z = true → pw one x z = true
  | [], [], z, _, h => h
  | a :: xs, b :: ys, c :: zs, h1, h2 => by
    simp [pw] at h1 h2 ⊢
    refine ⟨?_, pw_trans xs ys zs h1.2 h2.2⟩
    rcases h1.1 with e | e
    · exact .inl e
    · rw [e]; exact h2.1
  | _ :: _, _ :: _, [], _, h => by simp [pw] at h
  | [], _ :: _, _, h, _ => by simp [pw] at h
  | _ :: _, [], _, h, _ => by simp [pw] at h
theorem pw_refl : ∀ (x : List α), pw one x x = true
  | [] => rfl
  | _ :: xs => by simp [pw, pw_refl xs]
theorem qw_of_pw : ∀ (x y z : List α), pw one x z = true → pw one y z = true → qw one x y = true
  | [], [], _, _, _ => rfl
  | a :: xs, b :: ys, c :: zs, h1, h2 => by
    simp [pw] at h1 h2
    simp [qw]
    refine ⟨?_, qw_of_pw xs ys zs h1.2 h2.2⟩
    rcases h1.1 with e | e
    · exact .inl (.inl e)
    · rcases h2.1 with g | g
      · exact .inl (.inr g)
      · exact .inr (e.trans g.symm)
  | a :: xs, b :: ys, [], h, _ => by simp [pw] at h
  | [], _ :: _, z, h1, h2 => by cases z <;> simp [pw] at h1 h2
  | _ :: _, [], z, h1, h2 => by cases z <;> simp [pw] at h1 h2
theorem qw_of_pw1 : ∀ (x y : List α), pw one x y = true → qw one x y = true
  | [], [], _ => rfl
  | a :: xs, b :: ys, h => by
    simp [pw] at h
    simp [qw]
    refine ⟨?_, qw_of_pw1 xs ys h.2⟩
    rcases h.1 with e | e
    · exact .inl (.inl e)
    · exact .inr e
  | [], _ :: _, h => by simp [pw] at h
  | _ :: _, [], h => by simp [pw] at h
/-- Match is the row's. -/
theorem pm_row : ∀ (f t : List α), pm one rest f t = (match rowO one rest f t.length with | some x => pw one x t | none => false)
  | [], [] => rfl
  | [], _ :: _ => rfl
  | x :: f, t => by
    unfold pm rowO
    by_cases hx : x = rest
    · simp only [if_pos hx]; rw [pw_ones t]
    · simp only [if_neg hx]
      cases t with
      | nil => rfl
      | cons y t =>
        simp only [List.length_cons]
        rw [pm_row f t]
        cases hr : rowO one rest f t.length with
        | none => simp
        | some r =>
          simp only [Option.map_some, pw]
          by_cases h1 : x = one
          · simp [h1]
          · by_cases h2 : x = y
            · simp [h2]
            · simp [h1, h2]
/-- A filter has a row, of its own length, or a level less. -/
theorem rowO_some : ∀ (f : List α), Wf rest f → ∃ n x, rowO one rest f n = some x ∧ n ≤ f.length ∧ (f ≠ [] → f ≠ [rest] → 1 ≤ n)
  | [], _ => ⟨0, [], rfl, Nat.le_refl _, fun h => absurd rfl h⟩
  | c :: f, hw => by
    by_cases hc : c = rest
    · subst hc
      have := hw.1 rfl
      subst this
      exact ⟨0, [], by simp [rowO], by simp, fun _ h => absurd rfl h⟩
    · obtain ⟨n, x, hx, hn, _⟩ := rowO_some f hw.2
      exact ⟨n + 1, c :: x, by simp [rowO, hc, hx], by simp; omega, fun _ _ => by omega⟩
theorem head_rest {a : List α} (h : a.head? = some rest) (n : Nat) (hw : Wf rest a) : rowO one rest a n = some (List.replicate n one) := by
  cases a with
  | nil => simp at h
  | cons c a =>
    simp at h
    subst h
    simp [rowO]
theorem pw_all_one : ∀ (x : List α) (n : Nat), pw one x (List.replicate n one) = true → x = List.replicate n one
  | [], 0, _ => rfl
  | [], n + 1, h => by simp [List.replicate_succ, pw] at h
  | c :: x, 0, h => by simp [pw] at h
  | c :: x, n + 1, h => by
    simp [List.replicate_succ, pw] at h
    rw [List.replicate_succ, ← pw_all_one x n h.2, h.1]
/-- Covers is: at each number of levels each row that b has is let by. -/
theorem cov_iff : ∀ (b a : List α) (d : Nat), Wf rest a → Wf rest b → a.length + d ≤ 8 → b.length + d ≤ 8 → (d = 0 → b ≠ []) →
    (cov one rest a b d = true ↔ ∀ n, (d = 0 → 1 ≤ n) → n + d ≤ 8 → ∀ y, rowO one rest b n = some y → ∃ x, rowO one rest a n = some x ∧ pw one x y = true)
  | [], a, d, ha, _, hla, hlb, hd => by
    have hd0 : d ≠ 0 := fun e => hd e rfl
    unfold cov
    simp only [Bool.or_eq_true, decide_eq_true_eq, List.isEmpty_iff]
    constructor
    · rintro (h | rfl) n _ _ y hy
      · exact ⟨_, head_rest h n ha, pw_ones' y n (rowO_len _ _ _ hy)⟩
      · exact ⟨y, hy, pw_refl y⟩
    · intro h
      obtain ⟨x, hx, hp⟩ := h 0 (fun e => absurd e hd0) (by simp at hlb; omega) [] rfl
      cases a with
      | nil => exact .inr rfl
      | cons c a =>
        left
        unfold rowO at hx
        by_cases hc : c = rest
        · simp [hc]
        · rw [if_neg hc] at hx
          simp at hx
  | b0 :: b, a, d, ha, hb, hla, hlb, hd => by
    unfold cov
    simp only [List.length_cons] at hlb
    by_cases h1 : a.head? = some rest
    · rw [if_pos h1]
      simp only [true_iff]
      intro n _ _ y hy
      exact ⟨_, head_rest h1 n ha, pw_ones' y n (rowO_len _ _ _ hy)⟩
    rw [if_neg h1]
    by_cases h2 : b0 = rest
    · rw [if_pos h2]
      have hb0 := hb.1 h2
      subst hb0
      subst h2
      simp only [Bool.and_eq_true, beq_iff_eq, decide_eq_true_eq]
      have hrow : ∀ n, rowO one b0 [b0] n = some (List.replicate n one) := fun n => by simp [rowO]
      constructor
      · rintro ⟨rfl, rfl⟩ n hn _ y hy
        rw [hrow] at hy
        cases hy
        obtain ⟨m, rfl⟩ : ∃ m, n = m + 1 := ⟨n - 1, by have := hn rfl; omega⟩
        by_cases ho : one = b0
        · subst ho
          exact ⟨List.replicate (m + 1) one, by simp [rowO], pw_refl _⟩
        · exact ⟨one :: List.replicate m one, by simp [rowO, ho], by rw [← List.replicate_succ]; exact pw_refl _⟩
      · intro h
        have h' := fun n (hn : d = 0 → 1 ≤ n) (hn2 : n + d ≤ 8) => h n hn hn2 _ (hrow n)
        cases a with
        | nil =>
          obtain ⟨x, hx, _⟩ := h' 1 (fun _ => Nat.le_refl _) (by omega)
          simp [rowO] at hx
        | cons a0 a =>
          have ha0 : a0 ≠ b0 := fun e => h1 (by simp [e])
          by_cases hd0 : d = 0
          · subst hd0
            refine ⟨rfl, ?_⟩
            obtain ⟨x, hx, hp⟩ := h' 1 (fun _ => Nat.le_refl _) (by omega)
            have hxx := pw_all_one _ _ hp
            subst hxx
            unfold rowO at hx
            rw [if_neg ha0] at hx
            simp only [Option.map_eq_some_iff] at hx
            obtain ⟨z, hz, he⟩ := hx
            simp [List.replicate_succ] at he
            obtain ⟨rfl, rfl⟩ := he
            cases a with
            | nil =>
              obtain ⟨x, hx, _⟩ := h' 2 (fun _ => by omega) (by omega)
              simp [rowO, ha0] at hx
            | cons a1 a =>
              have : a1 = b0 := by
                by_cases e : a1 = b0
                · exact e
                · unfold rowO at hz
                  rw [if_neg e] at hz
                  simp at hz
              subst this
              have := ha.2.1 rfl
              subst this
              rfl
          · obtain ⟨x, hx, _⟩ := h' 0 (fun e => absurd e hd0) (by omega)
            unfold rowO at hx
            rw [if_neg ha0] at hx
            simp at hx
    · rw [if_neg h2]
      obtain ⟨m, z, hz, hm, _⟩ := rowO_some (one := one) b hb.2
      have hz2 : rowO one rest (b0 :: b) (m + 1) = some (b0 :: z) := by simp [rowO, h2, hz]
      cases a with
      | nil =>
        simp only [Bool.false_eq_true, false_iff]
        intro h
        obtain ⟨x, hx, _⟩ := h (m + 1) (fun _ => by omega) (by omega) _ hz2
        simp [rowO] at hx
      | cons a0 a =>
        have ha0 : a0 ≠ rest := fun e => h1 (by simp [e])
        simp only
        by_cases h3 : a0 ≠ one ∧ a0 ≠ b0
        · rw [if_pos h3]
          simp only [Bool.false_eq_true, false_iff]
          intro h
          obtain ⟨x, hx, hp⟩ := h (m + 1) (fun _ => by omega) (by omega) _ hz2
          unfold rowO at hx
          rw [if_neg ha0] at hx
          simp only [Option.map_eq_some_iff] at hx
          obtain ⟨x2, _, rfl⟩ := hx
          simp [pw, h3.1, h3.2] at hp
        · rw [if_neg h3]
          simp only [List.length_cons] at hla
          rw [cov_iff b a (d + 1) ha.2 hb.2 (by omega) (by omega) (fun e => by omega)]
          have h4 : a0 = one ∨ a0 = b0 := by
            by_cases e : a0 = one
            · exact .inl e
            · exact .inr (Classical.not_not.1 fun g => h3 ⟨e, g⟩)
          constructor
          · intro h n hn hn2 y hy
            cases n with
            | zero => simp [rowO, h2] at hy
            | succ n =>
              unfold rowO at hy
              rw [if_neg h2] at hy
              simp only [Option.map_eq_some_iff] at hy
              obtain ⟨y2, hy2, rfl⟩ := hy
              obtain ⟨x, hx, hp⟩ := h n (fun e => by omega) (by omega) y2 hy2
              exact ⟨a0 :: x, by simp [rowO, ha0, hx], by simp [pw, hp, h4]⟩
          · intro h n hn hn2 y hy
            obtain ⟨x, hx, hp⟩ := h (n + 1) (fun _ => by omega) (by omega) (b0 :: y) (by simp [rowO, h2, hy])
            unfold rowO at hx
            rw [if_neg ha0] at hx
            simp only [Option.map_eq_some_iff] at hx
            obtain ⟨x2, hx2, rfl⟩ := hx
            simp [pw] at hp
            exact ⟨x2, hx2, hp.2⟩
/-- Meet is: at some number of levels both have a row, that have a topic in common. -/
theorem mt_iff : ∀ (b a : List α) (d : Nat), Wf rest a → Wf rest b → a.length + d ≤ 8 → b.length + d ≤ 8 → (d = 0 → a ≠ [] ∧ b ≠ []) →
    (mt one rest a b = true ↔ ∃ n, (d = 0 → 1 ≤ n) ∧ n + d ≤ 8 ∧ ∃ x y, rowO one rest a n = some x ∧ rowO one rest b n = some y ∧ qw one x y = true)
  | [], a, d, ha, _, hla, hlb, hd => by
    have hd0 : d ≠ 0 := fun e => (hd e).2 rfl
    unfold mt
    simp only [Bool.or_eq_true, decide_eq_true_eq, List.isEmpty_iff]
    constructor
    · rintro (h | rfl)
      · exact ⟨0, fun e => absurd e hd0, by simp at hlb; omega, [], [], head_rest h 0 ha, rfl, rfl⟩
      · exact ⟨0, fun e => absurd e hd0, by simp at hlb; omega, [], [], rfl, rfl, rfl⟩
    · rintro ⟨n, _, _, x, y, hx, hy, hq⟩
      cases n with
      | succ n => simp [rowO] at hy
      | zero =>
        cases a with
        | nil => exact .inr rfl
        | cons c a =>
          left
          unfold rowO at hx
          by_cases hc : c = rest
          · simp [hc]
          · rw [if_neg hc] at hx
            simp at hx
  | b0 :: b, a, d, ha, hb, hla, hlb, hd => by
    unfold mt
    simp only [List.length_cons] at hlb
    by_cases h1 : a.head? = some rest
    · rw [if_pos h1]
      simp only [true_iff]
      obtain ⟨m, z, hz, hm, h0⟩ := rowO_some (one := one) (b0 :: b) hb
      by_cases hbr : b0 = rest
      · subst hbr
        exact ⟨1, fun _ => Nat.le_refl _, by omega, _, _, head_rest h1 1 ha, by simp [rowO]; rfl, by simp [qw]⟩
      · refine ⟨m, fun _ => h0 (by simp) (fun e => hbr (by simp at e; exact e.1)), by simp at hm; omega, _, z, head_rest h1 m ha, hz, ?_⟩
        have := rowO_len _ _ _ hz
        subst this
        exact qw_ones z
    rw [if_neg h1]
    by_cases h2 : b0 = rest
    · rw [if_pos h2]
      simp only [true_iff]
      have hb0 := hb.1 h2
      subst hb0
      subst h2
      obtain ⟨m, z, hz, hm, h0⟩ := rowO_some (one := one) a ha
      refine ⟨m, fun e => h0 (hd e).1 (fun e => h1 (by rw [e]; rfl)), by omega, z, _, hz, by simp [rowO]; rfl, ?_⟩
      have := rowO_len _ _ _ hz
      subst this
      rw [qw_symm]
      exact qw_ones z
    · rw [if_neg h2]
      cases a with
      | nil =>
        simp only [Bool.false_eq_true, false_iff]
        rintro ⟨n, _, _, x, y, hx, hy, hq⟩
        cases n with
        | succ n => simp [rowO] at hx
        | zero => simp [rowO, h2] at hy
      | cons a0 a =>
        have ha0 : a0 ≠ rest := fun e => h1 (by simp [e])
        simp only
        by_cases h3 : a0 ≠ one ∧ b0 ≠ one ∧ a0 ≠ b0
        · rw [if_pos h3]
          simp only [Bool.false_eq_true, false_iff]
          rintro ⟨n, _, _, x, y, hx, hy, hq⟩
          cases n with
          | zero => simp [rowO, h2] at hy
          | succ n =>
            unfold rowO at hx hy
            rw [if_neg ha0] at hx
            rw [if_neg h2] at hy
            simp only [Option.map_eq_some_iff] at hx hy
            obtain ⟨x2, _, rfl⟩ := hx
            obtain ⟨y2, _, rfl⟩ := hy
            simp [qw, h3.1, h3.2.1, h3.2.2] at hq
        · rw [if_neg h3]
          simp only [List.length_cons] at hla
          rw [mt_iff b a (d + 1) ha.2 hb.2 (by omega) (by omega) (fun e => by omega)]
          have h4 : (a0 = one ∨ b0 = one) ∨ a0 = b0 := by
            by_cases e : a0 = one
            · exact .inl (.inl e)
            · by_cases e2 : b0 = one
              · exact .inl (.inr e2)
              · exact .inr (Classical.not_not.1 fun g => h3 ⟨e, e2, g⟩)
          constructor
          · rintro ⟨n, _, hn2, x, y, hx, hy, hq⟩
            exact ⟨n + 1, fun _ => by omega, by omega, a0 :: x, b0 :: y, by simp [rowO, ha0, hx], by simp [rowO, h2, hy], by simp [qw, hq, h4]⟩
          · rintro ⟨n, _, hn2, x, y, hx, hy, hq⟩
            cases n with
            | zero => simp [rowO, h2] at hy
            | succ n =>
              unfold rowO at hx hy
              rw [if_neg ha0] at hx
              rw [if_neg h2] at hy
              simp only [Option.map_eq_some_iff] at hx hy
              obtain ⟨x2, hx2, rfl⟩ := hx
              obtain ⟨y2, hy2, rfl⟩ := hy
              simp [qw] at hq
              exact ⟨n, fun e => by omega, by omega, x2, y2, hx2, hy2, hq.2⟩
end
end Go.Proofs.YtfakimleoihfgaaDoor.TP
namespace Go.Proofs.YtfakimleoihfgaaDoor.TP
/-- A text's levels. -/
def onto (c : UInt8) : List (List UInt8) → List (List UInt8)
  | [] => [[c]]
  | h :: t => (c :: h) :: t
def split : List UInt8 → List (List UInt8)
  | [] => [[]]
  | c :: r => if c = 47 then [] :: split r else onto c (split r)
theorem split_cons (c : UInt8) (r : List UInt8) : split (c :: r) = if c = 47 then [] :: split r else onto c (split r) := rfl
theorem onto_ne (c : UInt8) (l : List (List UInt8)) : onto c l ≠ [] := by cases l <;> simp [onto]
theorem split_ne : ∀ s, split s ≠ []
  | [] => by simp [split]
  | c :: r => by
    rw [split_cons]
    split
    · simp
    · exact onto_ne _ _
/-- Levels and their text. -/
def join : List (List UInt8) → List UInt8
  | [] => []
  | [x] => x
  | x :: y :: l => x ++ 47 :: join (y :: l)
theorem join_cons (x : List UInt8) (l : List (List UInt8)) (h : l ≠ []) : join (x :: l) = x ++ 47 :: join l := by
  cases l with
  | nil => exact absurd rfl h
  | cons y l => rfl
theorem join_onto (c : UInt8) (l : List (List UInt8)) (h : l ≠ []) : join (onto c l) = c :: join l := by
  cases l with
  | nil => exact absurd rfl h
  | cons x l => cases l <;> rfl
theorem join_split : ∀ s, join (split s) = s
  | [] => rfl
  | c :: r => by
    rw [split_cons]
    split
    · rename_i h
      subst h
      rw [join_cons _ _ (split_ne r), join_split r]
      rfl
    · rw [join_onto _ _ (split_ne r), join_split r]
theorem split_inj {s t : List UInt8} (h : split s = split t) : s = t := by rw [← join_split s, h, join_split t]
theorem split_plain : ∀ (x : List UInt8), (47 : UInt8) ∉ x → split x = [x]
  | [], _ => rfl
  | c :: r, h => by
    simp at h
    rw [split_cons, if_neg (fun e => h.1 e.symm), split_plain r h.2]
    rfl
theorem split_app : ∀ (x s : List UInt8), (47 : UInt8) ∉ x → split (x ++ 47 :: s) = x :: split s
  | [], s, _ => rfl
  | c :: r, s, h => by
    simp at h
    rw [List.cons_append, split_cons, if_neg (fun e => h.1 e.symm), split_app r s h.2]
    rfl
theorem onto_app (c : UInt8) (l m : List (List UInt8)) (h : l ≠ []) : onto c (l ++ m) = onto c l ++ m := by
  cases l with
  | nil => exact absurd rfl h
  | cons x l => rfl
theorem split_snoc : ∀ (s t : List UInt8), split (s ++ 47 :: t) = split s ++ split t
  | [], t => rfl
  | c :: r, t => by
    rw [List.cons_append, split_cons, split_cons, split_snoc r t]
    split
    · rfl
    · exact onto_app _ _ _ (split_ne r)
theorem onto_parts (c : UInt8) (l : List (List UInt8)) (x : List UInt8) (h : x ∈ onto c l) : (∃ y ∈ l, x = c :: y) ∨ x = [c] ∨ x ∈ l := by
  cases l with
  | nil => simp [onto] at h; exact .inr (.inl h)
  | cons y l =>
    rcases List.mem_cons.1 h with e | e
    · exact .inl ⟨y, by simp, e⟩
    · exact .inr (.inr (by simp [e]))
theorem split_parts : ∀ (s x : List UInt8), x ∈ split s → (47 : UInt8) ∉ x
  | [], x, h => by simp [split] at h; simp [h]
  | c :: r, x, h => by
    rw [split_cons] at h
    split at h
    · rcases List.mem_cons.1 h with e | e
      · simp [e]
      · exact split_parts r x e
    · rename_i hc
      rcases onto_parts _ _ _ h with ⟨y, hy, rfl⟩ | rfl | hx
      · simp only [List.mem_cons, not_or]
        exact ⟨fun e => hc e.symm, split_parts r y hy⟩
      · simp only [List.mem_cons, List.not_mem_nil, or_false]
        exact fun e => hc e.symm
      · exact split_parts r x hx
theorem split_join : ∀ (l : List (List UInt8)), l ≠ [] → (∀ x ∈ l, (47 : UInt8) ∉ x) → split (join l) = l
  | [], h, _ => absurd rfl h
  | [x], _, h => split_plain x (h x (by simp))
  | x :: y :: l, _, h => by
    rw [join_cons _ _ (by simp), split_app _ _ (h x (by simp)), split_join (y :: l) (by simp) (fun z hz => h z (by simp [hz]))]
theorem split_len : ∀ (s : List UInt8), (split s).length ≤ s.length + 1
  | [] => by simp [split]
  | c :: r => by
    have ih := split_len r
    rw [split_cons]
    split
    · simp; omega
    · cases hs : split r with
      | nil => exact absurd hs (split_ne r)
      | cons h t =>
        rw [hs] at ih
        simp [onto] at ih ⊢
        omega
end Go.Proofs.YtfakimleoihfgaaDoor.TP
namespace Go.Proofs.YtfakimleoihfgaaDoor.TP
section
variable {α : Type} [DecidableEq α] {one rest : α}
/-- A filter's row as the document makes it: the levels, whether there are n. -/
def rowR (one rest : α) (l : List α) (n : Nat) : List α × Bool :=
  if l.getLast? = some rest then (l.dropLast ++ List.replicate (n - (l.length - 1)) one, decide (l.length - 1 ≤ n)) else (l, decide (l.length = n))
theorem rowO_rowR : ∀ (l : List α) (n : Nat), Wf rest l → rowO one rest l n = if (rowR one rest l n).2 = true then some (rowR one rest l n).1 else none
  | [], 0, _ => by simp [rowO, rowR]
  | [], n + 1, _ => by simp [rowO, rowR]
  | [x], n, _ => by
    unfold rowO rowR
    by_cases hx : x = rest
    · simp [hx]
    · simp only [hx, if_false, List.getLast?_singleton, Option.some.injEq, List.length_singleton]
      cases n with
      | zero => simp
      | succ n => cases n <;> simp [rowO]
  | x :: y :: l, n, hw => by
    have hx : x ≠ rest := fun e => by have := hw.1 e; simp at this
    unfold rowO
    rw [if_neg hx]
    cases n with
    | zero =>
      unfold rowR
      simp only [List.getLast?_cons_cons, List.length_cons]
      split <;> simp
    | succ n =>
      simp only
      rw [rowO_rowR (y :: l) n hw.2]
      unfold rowR
      simp only [List.getLast?_cons_cons, List.length_cons]
      split
      · simp only [decide_eq_true_eq, Nat.add_sub_cancel, List.dropLast_cons_cons]
        by_cases h : l.length ≤ n
        · simp [h]
        · simp [h]
      · simp only [decide_eq_true_eq]
        by_cases h : l.length + 1 = n
        · simp [h]
        · simp [h]
def matchR (one rest : α) (f t : List α) : Bool := (rowR one rest f t.length).2 && pw one (rowR one rest f t.length).1 t
theorem pm_matchR (f t : List α) (hw : Wf rest f) : pm one rest f t = matchR one rest f t := by
  rw [pm_row, rowO_rowR f t.length hw]
  unfold matchR
  cases h : (rowR one rest f t.length).2 <;> simp
def covR (one rest : α) (a b : List α) : Bool := (List.range' 1 8).all fun n => !(rowR one rest b n).2 || ((rowR one rest a n).2 && pw one (rowR one rest a n).1 (rowR one rest b n).1)
theorem cov_covR (a b : List α) (ha : Wf rest a) (hb : Wf rest b) (hla : a.length ≤ 8) (hlb : b.length ≤ 8) (hn : b ≠ []) : cov one rest a b 0 = covR one rest a b := by
  rw [Bool.eq_iff_iff, cov_iff b a 0 ha hb (by omega) (by omega) (fun _ => hn)]
  unfold covR
  simp only [List.all_eq_true, List.mem_range'_1, Bool.or_eq_true, Bool.not_eq_true', Bool.and_eq_true]
  constructor
  · rintro h n ⟨h1, h2⟩
    cases hs : (rowR one rest b n).2 with
    | false => exact .inl rfl
    | true =>
      obtain ⟨x, hx, hp⟩ := h n (fun _ => h1) (by omega) _ (by rw [rowO_rowR b n hb, if_pos hs])
      rw [rowO_rowR a n ha] at hx
      split at hx
      · rename_i hxa
        cases hx
        exact .inr ⟨hxa, hp⟩
      · cases hx
  · intro h n h1 h2 y hy
    rw [rowO_rowR b n hb] at hy
    split at hy
    · rename_i hs
      cases hy
      rcases h n ⟨h1 trivial, by omega⟩ with e | ⟨e1, e2⟩
      · rw [hs] at e; cases e
      · exact ⟨_, by rw [rowO_rowR a n ha, if_pos e1], e2⟩
    · cases hy
def mtR (one rest : α) (a b : List α) : Bool := (List.range' 1 8).any fun n => (rowR one rest a n).2 && (rowR one rest b n).2 && qw one (rowR one rest a n).1 (rowR one rest b n).1
theorem mt_mtR (a b : List α) (ha : Wf rest a) (hb : Wf rest b) (hla : a.length ≤ 8) (hlb : b.length ≤ 8) (hna : a ≠ []) (hnb : b ≠ []) : mt one rest a b = mtR one rest a b := by
  rw [Bool.eq_iff_iff, mt_iff b a 0 ha hb (by omega) (by omega) (fun _ => ⟨hna, hnb⟩)]
  unfold mtR
  simp only [List.any_eq_true, List.mem_range'_1, Bool.and_eq_true]
  constructor
  · rintro ⟨n, h1, h2, x, y, hx, hy, hq⟩
    rw [rowO_rowR a n ha] at hx
    rw [rowO_rowR b n hb] at hy
    split at hx
    · rename_i hxa
      split at hy
      · rename_i hyb
        cases hx
        cases hy
        exact ⟨n, ⟨h1 trivial, by omega⟩, ⟨hxa, hyb⟩, hq⟩
      · cases hy
    · cases hx
  · rintro ⟨n, ⟨h1, h2⟩, ⟨hx, hy⟩, hq⟩
    exact ⟨n, fun _ => h1, by omega, _, _, by rw [rowO_rowR a n ha, if_pos hx], by rw [rowO_rowR b n hb, if_pos hy], hq⟩
end
end Go.Proofs.YtfakimleoihfgaaDoor.TP
namespace Go.Proofs.YtfakimleoihfgaaDoor.TP
def one : ByteArray := ⟨#[43]⟩
def rest : ByteArray := ⟨#[35]⟩
def nmc (c : UInt8) : Bool := (97 ≤ c && c ≤ 122) || (48 ≤ c && c ≤ 57) || c == 45 || c == 95
def nm (x : ByteArray) : Bool := x.data.toList.all nmc && decide (1 ≤ x.size) && decide (x.size ≤ 16)
def lv (s : ByteArray) : List ByteArray := (split s.data.toList).map fun l => ⟨l.toArray⟩
def fltL : List ByteArray → Bool
  | [] => true
  | x :: l => (nm x || decide (x = one) || (decide (x = rest) && l.isEmpty)) && fltL l
def rightB (s : ByteArray) : Bool := decide ((lv s).length ≤ 8) && (lv s).all nm
def filterB (s : ByteArray) : Bool := decide ((lv s).length ≤ 8) && fltL (lv s)
def matchB (f t : ByteArray) : Bool := filterB f && rightB t && pm one rest (lv f) (lv t)
def covB (a b : ByteArray) : Bool := filterB a && filterB b && cov one rest (lv a) (lv b) 0
def mtB (a b : ByteArray) : Bool := filterB a && filterB b && mt one rest (lv a) (lv b)
theorem one_ne : one ≠ rest := by decide
theorem nm_one : nm one = false := by decide
theorem nm_rest : nm rest = false := by decide
theorem nm_slash {x : ByteArray} (h : nm x = true) : (47 : UInt8) ∉ x.data.toList := fun e => by
  unfold nm at h
  simp only [Bool.and_eq_true, List.all_eq_true] at h
  exact absurd (h.1.1 47 e) (by decide)
theorem flt_wf : ∀ (l : List ByteArray), fltL l = true → Wf rest l
  | [], _ => trivial
  | x :: l, h => by
    simp only [fltL, Bool.and_eq_true, Bool.or_eq_true, decide_eq_true_eq, List.isEmpty_iff] at h
    refine ⟨fun e => ?_, flt_wf l h.2⟩
    rcases h.1 with (h | h) | h
    · rw [e, nm_rest] at h; cases h
    · exact absurd (h.symm.trans e) one_ne
    · exact h.2
theorem lv_ne (s : ByteArray) : lv s ≠ [] := by unfold lv; simp [split_ne]
theorem ba_ext {x y : ByteArray} (h : x.data.toList = y.data.toList) : x = y := by
  cases x; cases y
  congr 1
  exact Array.toList_inj.1 h
theorem lv_data (s : ByteArray) : (lv s).map (fun x => x.data.toList) = split s.data.toList := by
  unfold lv
  rw [List.map_map]
  have : ((fun x : ByteArray => x.data.toList) ∘ fun l : List UInt8 => (⟨l.toArray⟩ : ByteArray)) = id := by funext l; rfl
  rw [this, List.map_id]
theorem lv_inj {s t : ByteArray} (h : lv s = lv t) : s = t := by
  apply ba_ext
  apply split_inj
  rw [← lv_data, ← lv_data, h]
theorem lv_parts {s x : ByteArray} (h : x ∈ lv s) : (47 : UInt8) ∉ x.data.toList := by
  unfold lv at h
  obtain ⟨l, hl, rfl⟩ := List.mem_map.1 h
  exact split_parts _ _ hl
/-- A row's text. -/
def jn (l : List ByteArray) : ByteArray := ⟨(join (l.map fun x => x.data.toList)).toArray⟩
theorem lv_jn (l : List ByteArray) (hn : l ≠ []) (h : ∀ x ∈ l, (47 : UInt8) ∉ x.data.toList) : lv (jn l) = l := by
  unfold lv jn
  simp only
  rw [split_join _ (by simpa using hn) (by intro x hx; obtain ⟨y, hy, rfl⟩ := List.mem_map.1 hx; exact h y hy), List.map_map]
  have : ((fun l : List UInt8 => (⟨l.toArray⟩ : ByteArray)) ∘ fun x : ByteArray => x.data.toList) = id := by funext x; rfl
  rw [this, List.map_id]
theorem jn_lv (s : ByteArray) : jn (lv s) = s := by
  unfold jn
  rw [lv_data, join_split]
/-- Levels of two texts with the sign between. -/
theorem lv_app (s t : ByteArray) (u : ByteArray) (hu : u.data.toList = s.data.toList ++ 47 :: t.data.toList) : lv u = lv s ++ lv t := by
  unfold lv
  rw [hu, split_snoc, List.map_append]
theorem all_flt : ∀ (l : List ByteArray), l.all nm = true → fltL l = true
  | [], _ => rfl
  | x :: l, h => by
    simp only [List.all_cons, Bool.and_eq_true] at h
    simp [fltL, h.1, all_flt l h.2]
theorem right_filter {s : ByteArray} (h : rightB s = true) : filterB s = true := by
  unfold rightB at h
  unfold filterB
  simp only [Bool.and_eq_true] at h ⊢
  exact ⟨h.1, all_flt _ h.2⟩
theorem filter_facts {s : ByteArray} (h : filterB s = true) : (lv s).length ≤ 8 ∧ fltL (lv s) = true ∧ Wf rest (lv s) := by
  unfold filterB at h
  simp only [Bool.and_eq_true, decide_eq_true_eq] at h
  exact ⟨h.1, h.2, flt_wf _ h.2⟩
theorem right_facts {s : ByteArray} (h : rightB s = true) : (lv s).length ≤ 8 ∧ ∀ x ∈ lv s, nm x = true := by
  unfold rightB at h
  simp only [Bool.and_eq_true, decide_eq_true_eq, List.all_eq_true] at h
  exact h
theorem covB_iff {a b : ByteArray} : covB a b = true ↔ filterB a = true ∧ filterB b = true ∧ ∀ n, 1 ≤ n → n ≤ 8 → ∀ y, rowO one rest (lv b) n = some y → ∃ x, rowO one rest (lv a) n = some x ∧ pw one x y = true := by
  unfold covB
  simp only [Bool.and_eq_true, and_assoc]
  constructor
  · rintro ⟨ha, hb, h⟩
    obtain ⟨la, _, wa⟩ := filter_facts ha
    obtain ⟨lb, _, wb⟩ := filter_facts hb
    exact ⟨ha, hb, fun n h1 h2 => (cov_iff _ _ 0 wa wb (by omega) (by omega) (fun _ => lv_ne b)).1 h n (fun _ => h1) (by omega)⟩
  · rintro ⟨ha, hb, h⟩
    obtain ⟨la, _, wa⟩ := filter_facts ha
    obtain ⟨lb, _, wb⟩ := filter_facts hb
    exact ⟨ha, hb, (cov_iff _ _ 0 wa wb (by omega) (by omega) (fun _ => lv_ne b)).2 fun n h1 h2 => h n (h1 rfl) (by omega)⟩
theorem mtB_iff {a b : ByteArray} : mtB a b = true ↔ filterB a = true ∧ filterB b = true ∧ ∃ n, 1 ≤ n ∧ n ≤ 8 ∧ ∃ x y, rowO one rest (lv a) n = some x ∧ rowO one rest (lv b) n = some y ∧ qw one x y = true := by
  unfold mtB
  simp only [Bool.and_eq_true, and_assoc]
  constructor
  · rintro ⟨ha, hb, h⟩
    obtain ⟨la, _, wa⟩ := filter_facts ha
    obtain ⟨lb, _, wb⟩ := filter_facts hb
    obtain ⟨n, h1, h2, r⟩ := (mt_iff _ _ 0 wa wb (by omega) (by omega) (fun _ => ⟨lv_ne a, lv_ne b⟩)).1 h
    exact ⟨ha, hb, n, h1 rfl, by omega, r⟩
  · rintro ⟨ha, hb, n, h1, h2, r⟩
    obtain ⟨la, _, wa⟩ := filter_facts ha
    obtain ⟨lb, _, wb⟩ := filter_facts hb
    exact ⟨ha, hb, (mt_iff _ _ 0 wa wb (by omega) (by omega) (fun _ => ⟨lv_ne a, lv_ne b⟩)).2 ⟨n, fun _ => h1, by omega, r⟩⟩
theorem matchB_iff {f t : ByteArray} : matchB f t = true ↔ filterB f = true ∧ rightB t = true ∧ ∃ x, rowO one rest (lv f) (lv t).length = some x ∧ pw one x (lv t) = true := by
  unfold matchB
  rw [pm_row]
  simp only [Bool.and_eq_true, and_assoc]
  constructor
  · rintro ⟨h1, h2, h⟩
    cases hr : rowO one rest (lv f) (lv t).length with
    | none => rw [hr] at h; cases h
    | some x => rw [hr] at h; exact ⟨h1, h2, x, rfl, h⟩
  · rintro ⟨h1, h2, x, hx, hp⟩
    rw [hx]
    exact ⟨h1, h2, hp⟩
theorem lv_pos (s : ByteArray) : 1 ≤ (lv s).length := List.length_pos_iff.2 (lv_ne s)
/-- A filter has a row of 1 to 8 levels. -/
theorem some_row {a : ByteArray} (h : filterB a = true) : ∃ n x, 1 ≤ n ∧ n ≤ 8 ∧ rowO one rest (lv a) n = some x := by
  obtain ⟨la, _, wa⟩ := filter_facts h
  obtain ⟨m, z, hz, hm, h0⟩ := rowO_some (one := one) (lv a) wa
  by_cases e : lv a = [rest]
  · exact ⟨1, [one], by omega, by omega, by rw [e]; simp [rowO]⟩
  · exact ⟨m, z, h0 (lv_ne a) e, by omega, hz⟩
-- The statement TopicOrder.
theorem order_self {a : ByteArray} (h : filterB a = true) : covB a a = true ∧ mtB a a = true := by
  refine ⟨covB_iff.2 ⟨h, h, fun n _ _ y hy => ⟨y, hy, pw_refl y⟩⟩, mtB_iff.2 ⟨h, h, ?_⟩⟩
  obtain ⟨n, x, h1, h2, hx⟩ := some_row h
  exact ⟨n, h1, h2, x, x, hx, hx, qw_of_pw1 _ _ (pw_refl x)⟩
theorem order_trans {a b c : ByteArray} (h1 : covB a b = true) (h2 : covB b c = true) : covB a c = true := by
  obtain ⟨ha, hb, h1⟩ := covB_iff.1 h1
  obtain ⟨_, hc, h2⟩ := covB_iff.1 h2
  refine covB_iff.2 ⟨ha, hc, fun n g1 g2 z hz => ?_⟩
  obtain ⟨y, hy, p1⟩ := h2 n g1 g2 z hz
  obtain ⟨x, hx, p2⟩ := h1 n g1 g2 y hy
  exact ⟨x, hx, pw_trans _ _ _ p2 p1⟩
theorem order_both {a b c : ByteArray} (h1 : matchB a c = true) (h2 : matchB b c = true) : mtB a b = true := by
  obtain ⟨ha, hc, x, hx, p1⟩ := matchB_iff.1 h1
  obtain ⟨hb, _, y, hy, p2⟩ := matchB_iff.1 h2
  exact mtB_iff.2 ⟨ha, hb, _, lv_pos c, (right_facts hc).1, x, y, hx, hy, qw_of_pw _ _ _ p1 p2⟩
theorem order_meet {a b : ByteArray} (h : covB a b = true) : mtB a b = true := by
  obtain ⟨ha, hb, h⟩ := covB_iff.1 h
  obtain ⟨n, y, h1, h2, hy⟩ := some_row hb
  obtain ⟨x, hx, hp⟩ := h n h1 h2 y hy
  exact mtB_iff.2 ⟨ha, hb, n, h1, h2, x, y, hx, hy, qw_of_pw1 _ _ hp⟩
theorem order_symm (a b : ByteArray) : mtB a b = mtB b a := by
  rw [Bool.eq_iff_iff, mtB_iff, mtB_iff]
  constructor
  all_goals
    rintro ⟨ha, hb, n, h1, h2, x, y, hx, hy, hq⟩
    exact ⟨hb, ha, n, h1, h2, y, x, hy, hx, by rw [qw_symm]; exact hq⟩
theorem order_let {a b c : ByteArray} (h1 : covB a b = true) (h2 : matchB b c = true) : matchB a c = true := by
  obtain ⟨ha, hb, h1⟩ := covB_iff.1 h1
  obtain ⟨_, hc, y, hy, p⟩ := matchB_iff.1 h2
  obtain ⟨x, hx, p2⟩ := h1 _ (lv_pos c) (right_facts hc).1 y hy
  exact matchB_iff.2 ⟨ha, hc, x, hx, pw_trans _ _ _ p2 p⟩
-- The statement TopicPlain.
theorem row_plain : ∀ (l : List ByteArray) (n : Nat), (∀ x ∈ l, nm x = true) → rowO one rest l n = if l.length = n then some l else none
  | [], 0, _ => rfl
  | [], n + 1, _ => rfl
  | x :: l, n, h => by
    have hx : x ≠ rest := fun e => by have := h x (by simp); rw [e, nm_rest] at this; cases this
    unfold rowO
    rw [if_neg hx]
    cases n with
    | zero => simp
    | succ n =>
      simp only
      rw [row_plain l n (fun y hy => h y (by simp [hy]))]
      by_cases e : l.length = n <;> simp [e]
theorem pw_plain : ∀ (x y : List ByteArray), (∀ c ∈ x, nm c = true) → pw one x y = true → x = y
  | [], [], _, _ => rfl
  | a :: xs, b :: ys, h, hp => by
    simp [pw] at hp
    have ha : a ≠ one := fun e => by have := h a (by simp); rw [e, nm_one] at this; cases this
    rw [pw_plain xs ys (fun c hc => h c (by simp [hc])) hp.2]
    rcases hp.1 with e | e
    · exact absurd e ha
    · rw [e]
  | [], _ :: _, _, h => by simp [pw] at h
  | _ :: _, [], _, h => by simp [pw] at h
theorem plain_match {s t : ByteArray} (h : rightB s = true) : matchB s t = decide (s = t) := by
  rw [Bool.eq_iff_iff, matchB_iff, decide_eq_true_eq]
  obtain ⟨hl, hn⟩ := right_facts h
  constructor
  · rintro ⟨_, ht, x, hx, hp⟩
    rw [row_plain _ _ hn] at hx
    split at hx
    · cases hx
      exact lv_inj (pw_plain _ _ hn hp)
    · cases hx
  · rintro rfl
    exact ⟨right_filter h, h, lv s, by rw [row_plain _ _ hn, if_pos rfl], pw_refl _⟩
theorem lv_rest : lv rest = [rest] := by decide
theorem filter_rest : filterB rest = true := by decide
theorem all_match {s : ByteArray} : matchB rest s = rightB s := by
  rw [Bool.eq_iff_iff, matchB_iff]
  constructor
  · exact fun h => h.2.1
  · intro h
    refine ⟨filter_rest, h, List.replicate (lv s).length one, by rw [lv_rest]; simp [rowO], pw_ones _⟩
/-- A text with the rest behind it. -/
def more (s : ByteArray) : ByteArray := ⟨(s.data.toList ++ [47, 35]).toArray⟩
theorem lv_more (s : ByteArray) : lv (more s) = lv s ++ [rest] := by
  rw [lv_app s rest (more s) (by simp [more, rest]), lv_rest]
theorem row_more : ∀ (l : List ByteArray) (n : Nat), (∀ x ∈ l, x ≠ rest) → rowO one rest (l ++ [rest]) n = if l.length ≤ n then some (l ++ List.replicate (n - l.length) one) else none
  | [], n, _ => by simp [rowO]
  | x :: l, n, h => by
    have hx : x ≠ rest := h x (by simp)
    rw [List.cons_append]
    unfold rowO
    rw [if_neg hx]
    cases n with
    | zero => simp
    | succ n =>
      simp only
      rw [row_more l n (fun y hy => h y (by simp [hy]))]
      by_cases e : l.length ≤ n <;> simp [e]
theorem nm_ne_rest {x : ByteArray} (h : nm x = true) : x ≠ rest := fun e => by rw [e, nm_rest] at h; cases h
theorem plain_more {s : ByteArray} (h : rightB s = true) : matchB (more s) s = filterB (more s) := by
  rw [Bool.eq_iff_iff, matchB_iff]
  obtain ⟨hl, hn⟩ := right_facts h
  constructor
  · exact fun h => h.1
  · intro hf
    refine ⟨hf, h, lv s, ?_, pw_refl _⟩
    rw [lv_more, row_more _ _ (fun x hx => nm_ne_rest (hn x hx)), if_pos (Nat.le_refl _)]
    simp
end Go.Proofs.YtfakimleoihfgaaDoor.TP
namespace Go.Proofs.YtfakimleoihfgaaDoor.TP
theorem index_none : ∀ (s : List UInt8), Lib.indexByte s 47 = -1 → split s = [s]
  | [], _ => rfl
  | c :: r, h => by
    unfold Lib.indexByte at h
    by_cases hc : c = 47
    · simp [hc] at h
    · simp only [beq_iff_eq, hc, if_false] at h
      have hr : Lib.indexByte r 47 = -1 := by
        by_cases e : Lib.indexByte r 47 = -1
        · exact e
        · rw [if_neg e] at h
          have := Lib.indexByte_ge r 47
          omega
      rw [split_cons, if_neg hc, index_none r hr]
      rfl
theorem index_some : ∀ (s : List UInt8) (i : Nat), Lib.indexByte s 47 = i → i < s.length ∧ split s = s.take i :: split (s.drop (i + 1))
  | [], i, h => by simp [Lib.indexByte] at h
  | c :: r, i, h => by
    unfold Lib.indexByte at h
    by_cases hc : c = 47
    · simp only [beq_iff_eq, hc, if_true] at h
      have : i = 0 := by omega
      subst this
      subst hc
      exact ⟨by simp, by rw [split_cons, if_pos rfl]; rfl⟩
    · simp only [beq_iff_eq, hc, if_false] at h
      split at h
      · omega
      · obtain ⟨k, rfl⟩ : ∃ k, i = k + 1 := ⟨i - 1, by have := Lib.indexByte_ge r 47; omega⟩
        obtain ⟨h1, h2⟩ := index_some r k (by omega)
        refine ⟨by simp; omega, ?_⟩
        rw [split_cons, if_neg hc, h2]
        rfl
end Go.Proofs.YtfakimleoihfgaaDoor.TP
