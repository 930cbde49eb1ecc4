/-
  Chapter 03: the statements, over what the functions come to.
-/
import Derived.Test.YtfakimleoihfgaaDoorTopFns
import Derived.Test.YtfakimleoihfgaaDoorTopLaws
import Derived.Test.YtfakimleoihfgaaDoorPr7
namespace Go.Proofs.YtfakimleoihfgaaDoor.TF
open Go Go.RowKit Go.Proofs.YtfakimleoihfgaaDoor Go.Proofs.YtfakimleoihfgaaDoor.TP Go.Proofs.YtfakimleoihfgaaDoor.TW Go.Proofs.YtfakimleoihfgaaDoor.Pr Go.Proofs.YtfakimleoihfgaaDoorW.PrintWords

theorem cut200 (a : ByteArray) : 0 ≤ mn (a.size : Int) 200 ∧ mn (a.size : Int) 200 ≤ a.size ∧ (a.extract 0 ((mn (a.size : Int) 200) : Int).toNat).size ≤ 200 := by
  refine ⟨by unfold mn; split <;> omega, by unfold mn; split <;> omega, ?_⟩
  rw [ByteArray.size_extract]
  unfold mn
  split <;> omega
theorem cut150 (a : ByteArray) : 0 ≤ mn (a.size : Int) 150 ∧ mn (a.size : Int) 150 ≤ a.size ∧ (a.extract 0 ((mn (a.size : Int) 150) : Int).toNat).size ≤ 150 := by
  refine ⟨by unfold mn; split <;> omega, by unfold mn; split <;> omega, ?_⟩
  rw [ByteArray.size_extract]
  unfold mn
  split <;> omega
section
variable {s t : ByteArray} (hs : s.size ≤ 900000) (ht : t.size ≤ 900000)
include hs
theorem tf_right : topic_Right.f s = some (rightB s) := if_pos hs
theorem tf_filter : topic_Filter.f s = some (filterB s) := if_pos hs
theorem tf_levels : topic_Levels.f s = some (lv s) := if_pos hs
include ht
theorem tf_less : topic_Less.f s t = some (lessB s t) := if_pos ⟨hs, ht⟩
theorem tf_match : topic_Match.f s t = some (matchB s t) := if_pos ⟨hs, ht⟩
theorem tf_covers : topic_Covers.f s t = some (covB s t) := if_pos ⟨hs, ht⟩
theorem tf_meet : topic_Meet.f s t = some (mtB s t) := if_pos ⟨hs, ht⟩
end
theorem tf_fixed : ((rivuletlaw03_fixed.f).bind fun t => (some t)) = some true := rfl
-- Rows of levels as texts.
theorem join_snoc : ∀ (l : List (List UInt8)) (x : List UInt8), l ≠ [] → join (l ++ [x]) = join l ++ 47 :: x
  | [], _, h => absurd rfl h
  | [a], x, _ => by
    rw [List.singleton_append, join_cons _ _ (by simp)]
    rfl
  | a :: b :: l, x, _ => by
    rw [List.cons_append, join_cons _ _ (by simp), join_snoc (b :: l) x (by simp), join_cons a (b :: l) (by simp)]
    simp
theorem jn_snoc (l : List ByteArray) (x : ByteArray) (h : l ≠ []) : jn (l ++ [x]) = (jn l ++ (⟨#[47]⟩ : ByteArray)) ++ x := by
  apply ba_ext
  unfold jn
  rw [List.map_append, List.map_cons, List.map_nil, join_snoc _ _ (by simpa using h)]
  simp
theorem jn_one (x : ByteArray) : jn [x] = (⟨#[]⟩ : ByteArray) ++ x := by
  apply ba_ext
  unfold jn
  simp [join]
theorem jn_nil : jn [] = ⟨#[]⟩ := rfl
theorem jn_size (M : Nat) (l : List ByteArray) (h : ∀ x ∈ l, x.size ≤ M) : (jn l).size ≤ l.length * (M + 1) := by
  have key : ∀ (m : List (List UInt8)), (∀ x ∈ m, x.length ≤ M) → (join m).length ≤ m.length * (M + 1) := by
    intro m
    induction m with
    | nil => intro _; simp [join]
    | cons a m ih =>
      intro hm
      have h1 := hm a (by simp)
      have h2 := ih (fun x hx => hm x (by simp [hx]))
      cases m with
      | nil => simp [join]; omega
      | cons b m =>
        rw [join_cons _ _ (by simp), List.length_append, List.length_cons]
        rw [List.length_cons, Nat.add_mul]
        omega
  have := key (l.map fun x => x.data.toList) (fun x hx => by
    obtain ⟨y, hy, rfl⟩ := List.mem_map.1 hx
    rw [dsz]
    exact h y hy)
  rw [List.length_map] at this
  unfold jn
  rw [show (⟨(join (l.map fun x => x.data.toList)).toArray⟩ : ByteArray).size = (join (l.map fun x => x.data.toList)).length from by simp [ByteArray.size]]
  exact this
-- fresh.
theorem tl_zz {x : ByteArray} : x.toList = [122, 122, 95, 57, 45, 122, 122, 95, 57, 45, 122, 122] ↔ x = zz := by
  rw [← tl_inj, Lib.toList_data zz]
  rfl
theorem fresh_no (l : List ByteArray) (k : Nat) (hk : 2 ≤ k) : rivuletlaw03_fresh.l0 k l false ⟨#[]⟩ 0 = some (⟨#[]⟩, false) := by
  obtain ⟨k, rfl⟩ : ∃ m, k = m + 2 := ⟨k - 2, by omega⟩
  simp only [rivuletlaw03_fresh.l0]
  split
  · simp only [rivuletlaw03_fresh.j1]
    rw [if_neg (by decide)]
  · simp only [rivuletlaw03_fresh.j1]
    rw [if_neg (by decide)]
theorem subs_take (l : List ByteArray) {i : Nat} (h : i < l.length) : subs (l.take (i + 1)) = subs (l.take i) ++ [if l[i]'h = TP.one then zz else l[i]'h] := by
  unfold subs
  rw [List.take_succ_eq_append_getElem h, List.map_append]
  rfl
theorem fresh_loop (l : List ByteArray) (hl : l.length ≤ 1000) (hz : ∀ x ∈ l, x.size ≤ 1000) : ∀ (d k i : Nat), i + d = l.length → 2 * d + 4 ≤ k → rivuletlaw03_fresh.l0 k l true (jn (subs (l.take i))) i = some (jn (subs l), true) := by
  intro d
  induction d with
  | zero =>
    intro k i hi hk
    obtain ⟨k, rfl⟩ : ∃ m, k = m + 2 := ⟨k - 2, by omega⟩
    simp only [rivuletlaw03_fresh.l0]
    rw [if_neg (by omega)]
    simp only [rivuletlaw03_fresh.j1]
    rw [if_neg (by decide), List.take_of_length_le (by omega)]
  | succ d ih =>
    intro k i hi hk
    obtain ⟨k, rfl⟩ : ∃ m, k = m + 2 := ⟨k - 2, by omega⟩
    have hil : i < l.length := by omega
    have hx := hz _ (List.getElem_mem hil)
    have hsz : (jn (subs (l.take i))).size ≤ 1001000 := by
      have h1 := jn_size 1000 (subs (l.take i)) (fun x hx => by
        unfold subs at hx
        obtain ⟨y, hy, rfl⟩ := List.mem_map.1 hx
        split
        · decide
        · exact hz y (List.mem_of_mem_take hy))
      have h2 : (subs (l.take i)).length ≤ 1000 := by unfold subs; rw [List.length_map, List.length_take]; omega
      have h3 : (subs (l.take i)).length * (1000 + 1) ≤ 1000 * (1000 + 1) := Nat.mul_le_mul_right _ h2
      omega
    have hq := ih k (i + 1) (by omega) (by omega)
    rw [subs_take l hil] at hq
    simp only [rivuletlaw03_fresh.l0]
    rw [if_pos (by omega)]
    simp only [rivuletlaw03_fresh.j1]
    rw [if_pos trivial]
    simp only [tl_one]
    by_cases h0 : i = 0
    · subst h0
      have e0 : subs (l.take 0) = [] := rfl
      rw [e0, List.nil_append, jn_one] at hq
      rw [e0] at hsz
      rw [e0, if_neg (by omega), if_pos (by omega), if_pos (by omega), rd_at l hil, w1 (by omega), jn_nil]
      by_cases e : l[0]'hil = TP.one
      · rw [if_pos e, if_pos (by decide)]
        rw [if_pos e] at hq
        exact hq
      · rw [if_neg e, if_pos (by show 0 + _ ≤ _; omega)]
        rw [if_neg e] at hq
        exact hq
    · have hne : subs (l.take i) ≠ [] := fun e => by
        have := congrArg List.length e
        unfold subs at this
        rw [List.length_map, List.length_take, List.length_nil] at this
        omega
      rw [jn_snoc _ _ hne] at hq
      have h1 : (jn (subs (l.take i)) ++ (⟨#[47]⟩ : ByteArray)).size = (jn (subs (l.take i))).size + 1 := by rw [ByteArray.size_append]; rfl
      rw [if_pos (by omega), if_pos (by omega), if_pos (by omega), if_pos (by omega), rd_at l hil, w1 (by omega), h1]
      by_cases e : l[i]'hil = TP.one
      · rw [if_pos e, if_pos (by omega)]
        rw [if_pos e] at hq
        exact hq
      · rw [if_neg e, if_pos (by omega)]
        rw [if_neg e] at hq
        exact hq
theorem row_sizes {s : ByteArray} {n : Nat} : ∀ x ∈ (rowR TP.one TP.rest (lv s) n).1, x.size ≤ max s.size 1 := by
  intro x hx
  unfold rowR at hx
  split at hx
  · rcases List.mem_append.1 hx with h | h
    · have := lv_size (List.dropLast_subset _ h)
      omega
    · rw [List.eq_of_mem_replicate h]
      have : TP.one.size = 1 := rfl
      omega
  · have := lv_size hx
    omega
theorem fresh_f {s : ByteArray} (hs : s.size ≤ 200) {n : Nat} (hn : n ≤ 100) {k : Nat} (hk : 3000 ≤ k) : rivuletlaw03_fresh.f k s n = some (freshB s n) := by
  unfold rivuletlaw03_fresh.f freshB
  have hl := lv_len s
  rw [row_f (by omega) (by omega) (by omega), Option.bind_some]
  cases hr : (rowR TP.one TP.rest (lv s) n).2 with
  | false => rw [fresh_no _ _ (by omega), if_neg (by decide)]
  | true =>
    have hlen := rowR_len hr
    have := fresh_loop (rowR TP.one TP.rest (lv s) n).1 (by omega) (fun x hx => by have := row_sizes x hx; omega) n k 0 (by omega) (by omega)
    rw [show subs (List.take 0 (rowR TP.one TP.rest (lv s) n).1) = [] from rfl, jn_nil, show ((0 : Nat) : Int) = 0 from rfl] at this
    rw [this, if_pos rfl]
theorem freshB_size {s : ByteArray} (hs : s.size ≤ 200) {n : Nat} (hn : n ≤ 100) : (freshB s n).1.size ≤ 100000 := by
  unfold freshB
  split
  · rename_i h
    have hlen := rowR_len h
    have h1 := jn_size 300 (subs (rowR TP.one TP.rest (lv s) n).1) (fun x hx => by
      unfold subs at hx
      obtain ⟨y, hy, rfl⟩ := List.mem_map.1 hx
      split
      · decide
      · have := row_sizes y hy; omega)
    have h2 : (subs (rowR TP.one TP.rest (lv s) n).1).length ≤ 100 := by unfold subs; rw [List.length_map]; omega
    have h3 := Nat.mul_le_mul_right (300 + 1) h2
    simp only
    omega
  · decide
end Go.Proofs.YtfakimleoihfgaaDoor.TF
