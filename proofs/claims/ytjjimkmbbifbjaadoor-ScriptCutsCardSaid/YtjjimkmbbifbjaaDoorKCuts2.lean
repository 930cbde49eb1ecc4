import Derived.Lib.Bytealg
namespace Go.Proofs.YtjjimkmbbifbjaaDoor.TP
section
variable {α : Type} [DecidableEq α]
variable {one rest : α}
end
end Go.Proofs.YtjjimkmbbifbjaaDoor.TP
namespace Go.Proofs.YtjjimkmbbifbjaaDoor.TP
def onto (c : UInt8) : List (List UInt8) → List (List UInt8)
  | [] => [[c]]
  | h :: t => (c :: h) :: t
def split : List UInt8 → List (List UInt8)
  | [] => [[]]
  | c :: r => if c = 47 then [] :: split r else onto c (split r)
theorem split_cons (c : UInt8) (r : List UInt8) : split (c :: r) = if c = 47 then [] :: split r else onto c (split r) := rfl
theorem onto_ne (c : UInt8) (l : List (List UInt8)) : onto c l ≠ [] := by cases l <;> simp [onto]
theorem split_ne : ∀ s, split s ≠ []
  | [] => by simp [split]
  | c :: r => by
    rw [split_cons]
    split
    · simp
    · exact onto_ne _ _
def join : List (List UInt8) → List UInt8
  | [] => []
  | [x] => x
  | x :: y :: l => x ++ 47 :: join (y :: l)
theorem join_cons (x : List UInt8) (l : List (List UInt8)) (h : l ≠ []) : join (x :: l) = x ++ 47 :: join l := by
  cases l with
  | nil => exact absurd rfl h
  | cons y l => rfl
theorem join_onto (c : UInt8) (l : List (List UInt8)) (h : l ≠ []) : join (onto c l) = c :: join l := by
  cases l with
  | nil => exact absurd rfl h
  | cons x l => cases l <;> rfl
theorem join_split : ∀ s, join (split s) = s
  | [] => rfl
  | c :: r => by
    rw [split_cons]
    split
    · rename_i h
      subst h
      rw [join_cons _ _ (split_ne r), join_split r]
      rfl
    · rw [join_onto _ _ (split_ne r), join_split r]
theorem split_plain : ∀ (x : List UInt8), (47 : UInt8) ∉ x → split x = [x]
  | [], _ => rfl
  | c :: r, h => by
    simp at h
    rw [split_cons, if_neg (fun e => h.1 e.symm), split_plain r h.2]
    rfl
theorem split_app : ∀ (x s : List UInt8), (47 : UInt8) ∉ x → split (x ++ 47 :: s) = x :: split s
  | [], s, _ => rfl
  | c :: r, s, h => by
    simp at h
    rw [List.cons_append, split_cons, if_neg (fun e => h.1 e.symm), split_app r s h.2]
    rfl
theorem split_len : ∀ (s : List UInt8), (split s).length ≤ s.length + 1
  | [] => by simp [split]
  | c :: r => by
    have ih := split_len r
    rw [split_cons]
    split
    · simp; omega
    · cases hs : split r with
      | nil => exact absurd hs (split_ne r)
      | cons h t =>
        rw [hs] at ih
        simp [onto] at ih ⊢
        omega
end Go.Proofs.YtjjimkmbbifbjaaDoor.TP
namespace Go.Proofs.YtjjimkmbbifbjaaDoor.TP
section
variable {α : Type} [DecidableEq α] {one rest : α}
end
end Go.Proofs.YtjjimkmbbifbjaaDoor.TP
namespace Go.Proofs.YtjjimkmbbifbjaaDoor.TP
def one : ByteArray := ⟨#[43]⟩
def rest : ByteArray := ⟨#[35]⟩
def nmc (c : UInt8) : Bool := (97 ≤ c && c ≤ 122) || (48 ≤ c && c ≤ 57) || c == 45 || c == 95
def nm (x : ByteArray) : Bool := x.data.toList.all nmc && decide (1 ≤ x.size) && decide (x.size ≤ 16)
def lv (s : ByteArray) : List ByteArray := (split s.data.toList).map fun l => ⟨l.toArray⟩
def fltL : List ByteArray → Bool
  | [] => true
  | x :: l => (nm x || decide (x = one) || (decide (x = rest) && l.isEmpty)) && fltL l
def rightB (s : ByteArray) : Bool := decide ((lv s).length ≤ 8) && (lv s).all nm
def filterB (s : ByteArray) : Bool := decide ((lv s).length ≤ 8) && fltL (lv s)
theorem one_ne : one ≠ rest := by decide
theorem nm_rest : nm rest = false := by decide
theorem lv_ne (s : ByteArray) : lv s ≠ [] := by unfold lv; simp [split_ne]
theorem ba_ext {x y : ByteArray} (h : x.data.toList = y.data.toList) : x = y := by
  cases x; cases y
  congr 1
  exact Array.toList_inj.1 h
def jn (l : List ByteArray) : ByteArray := ⟨(join (l.map fun x => x.data.toList)).toArray⟩
end Go.Proofs.YtjjimkmbbifbjaaDoor.TP
namespace Go.Proofs.YtjjimkmbbifbjaaDoor.TP
theorem index_none : ∀ (s : List UInt8), Lib.indexByte s 47 = -1 → split s = [s]
  | [], _ => rfl
  | c :: r, h => by
    unfold Lib.indexByte at h
    by_cases hc : c = 47
    · simp [hc] at h
    · simp only [beq_iff_eq, hc, if_false] at h
      have hr : Lib.indexByte r 47 = -1 := by
        by_cases e : Lib.indexByte r 47 = -1
        · exact e
        · rw [if_neg e] at h
          have := Lib.indexByte_ge r 47
          omega
      rw [split_cons, if_neg hc, index_none r hr]
      rfl
theorem index_some : ∀ (s : List UInt8) (i : Nat), Lib.indexByte s 47 = i → i < s.length ∧ split s = s.take i :: split (s.drop (i + 1))
  | [], i, h => by simp [Lib.indexByte] at h
  | c :: r, i, h => by
    unfold Lib.indexByte at h
    by_cases hc : c = 47
    · simp only [beq_iff_eq, hc, if_true] at h
      have : i = 0 := by omega
      subst this
      subst hc
      exact ⟨by simp, by rw [split_cons, if_pos rfl]; rfl⟩
    · simp only [beq_iff_eq, hc, if_false] at h
      split at h
      · omega
      · obtain ⟨k, rfl⟩ : ∃ k, i = k + 1 := ⟨i - 1, by have := Lib.indexByte_ge r 47; omega⟩
        obtain ⟨h1, h2⟩ := index_some r k (by omega)
        refine ⟨by simp; omega, ?_⟩
        rw [split_cons, if_neg hc, h2]
        rfl
end Go.Proofs.YtjjimkmbbifbjaaDoor.TP
