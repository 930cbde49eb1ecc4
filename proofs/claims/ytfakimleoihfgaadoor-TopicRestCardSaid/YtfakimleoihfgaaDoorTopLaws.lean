/-
  Chapter 03: what the laws TopicCovers, TopicWider and TopicRest say, without the program.
-/
import Derived.Test.YtfakimleoihfgaaDoorTopPure
namespace Go.Proofs.YtfakimleoihfgaaDoor.TP
/-- The law's own name. -/
def zz : ByteArray := ⟨#[122, 122, 95, 57, 45, 122, 122, 95, 57, 45, 122, 122]⟩
theorem nm_zz : nm zz = true := by decide
theorem one_zz : one ≠ zz := by decide
def subs (l : List ByteArray) : List ByteArray := l.map fun x => if x = one then zz else x
theorem rowO_mem : ∀ (l : List ByteArray) (n : Nat) (y : List ByteArray), fltL l = true → rowO one rest l n = some y → ∀ x ∈ y, nm x = true ∨ x = one
  | [], 0, y, _, h, x, hx => by simp [rowO] at h; subst h; cases hx
  | [], n + 1, y, _, h, x, hx => by simp [rowO] at h
  | c :: l, n, y, hf, h, x, hx => by
    unfold rowO at h
    by_cases hc : c = rest
    · rw [if_pos hc] at h
      simp at h
      subst h
      exact .inr (List.eq_of_mem_replicate hx)
    · rw [if_neg hc] at h
      cases n with
      | zero => simp at h
      | succ n =>
        simp only [Option.map_eq_some_iff] at h
        obtain ⟨z, hz, rfl⟩ := h
        simp only [fltL, Bool.and_eq_true, Bool.or_eq_true, decide_eq_true_eq] at hf
        rcases List.mem_cons.1 hx with e | e
        · subst e
          rcases hf.1 with (g | g) | g
          · exact .inl g
          · exact .inr g
          · exact absurd g.1 hc
        · exact rowO_mem l n z hf.2 hz x e
theorem rowO_of : ∀ (l : List ByteArray) (n : Nat) (y : List ByteArray), rowO one rest l n = some y → ∀ x ∈ y, x = one ∨ x ∈ l
  | [], 0, y, h, x, hx => by simp [rowO] at h; subst h; cases hx
  | [], n + 1, y, h, x, hx => by simp [rowO] at h
  | c :: l, n, y, h, x, hx => by
    unfold rowO at h
    by_cases hc : c = rest
    · rw [if_pos hc] at h
      simp at h
      subst h
      exact .inl (List.eq_of_mem_replicate hx)
    · rw [if_neg hc] at h
      cases n with
      | zero => simp at h
      | succ n =>
        simp only [Option.map_eq_some_iff] at h
        obtain ⟨z, hz, rfl⟩ := h
        rcases List.mem_cons.1 hx with e | e
        · exact .inr (by rw [e]; simp)
        · rcases rowO_of l n z hz x e with g | g
          · exact .inl g
          · exact .inr (List.mem_cons_of_mem _ g)
theorem pw_subs : ∀ (x y : List ByteArray), (∀ c ∈ x, c ≠ zz) → pw one x (subs y) = pw one x y
  | [], [], _ => rfl
  | [], _ :: _, _ => rfl
  | _ :: _, [], _ => rfl
  | a :: x, b :: y, h => by
    have ih := pw_subs x y (fun c hc => h c (List.mem_cons_of_mem _ hc))
    have ha := h a (by simp)
    unfold subs at ih ⊢
    rw [List.map_cons]
    unfold pw
    rw [ih]
    by_cases e : b = one
    · rw [if_pos e, e]
      simp [ha]
    · rw [if_neg e]
theorem pw_own : ∀ (y : List ByteArray), pw one y (subs y) = true
  | [] => rfl
  | b :: y => by
    have ih := pw_own y
    unfold subs at ih ⊢
    rw [List.map_cons]
    unfold pw
    rw [ih]
    by_cases e : b = one
    · simp [e]
    · simp [e]
theorem subs_nm {y : List ByteArray} (h : ∀ x ∈ y, nm x = true ∨ x = one) : ∀ x ∈ subs y, nm x = true := by
  intro x hx
  unfold subs at hx
  obtain ⟨z, hz, rfl⟩ := List.mem_map.1 hx
  by_cases e : z = one
  · rw [if_pos e]; exact nm_zz
  · rw [if_neg e]
    rcases h z hz with g | g
    · exact g
    · exact absurd g e
/-- The law's fresh. -/
def freshB (b : ByteArray) (n : Nat) : ByteArray × Bool := if (rowR one rest (lv b) n).2 = true then (jn (subs (rowR one rest (lv b) n).1), true) else (⟨#[]⟩, false)
theorem fresh_lv {y : List ByteArray} (h : ∀ x ∈ y, nm x = true ∨ x = one) (hn : 1 ≤ y.length) : lv (jn (subs y)) = subs y :=
  lv_jn _ (fun e => by unfold subs at e; rw [List.map_eq_nil_iff] at e; rw [e] at hn; simp at hn) (fun x hx => nm_slash (subs_nm h x hx))
theorem fresh_at {b : ByteArray} (hb : filterB b = true) {n : Nat} (h1 : 1 ≤ n) {y : List ByteArray} (hy : rowO one rest (lv b) n = some y) :
    lv (jn (subs y)) = subs y ∧ (subs y).length = n := by
  obtain ⟨_, fb, wb⟩ := filter_facts hb
  have hm := rowO_mem _ _ _ fb hy
  have hl := rowO_len _ _ _ hy
  exact ⟨fresh_lv hm (by omega), by unfold subs; rw [List.length_map, hl]⟩
theorem fresh_row {b : ByteArray} (hb : filterB b = true) {n : Nat} (h : (freshB b n).2 = true) : ∃ y, rowO one rest (lv b) n = some y ∧ (freshB b n).1 = jn (subs y) := by
  obtain ⟨_, _, wb⟩ := filter_facts hb
  unfold freshB at h ⊢
  rw [rowO_rowR (lv b) n wb]
  by_cases e : (rowR one rest (lv b) n).2 = true
  · simp only [if_pos e]
    exact ⟨_, rfl, rfl⟩
  · rw [if_neg e] at h
    cases h
theorem fresh_ok {b : ByteArray} (hb : filterB b = true) {n : Nat} (h1 : 1 ≤ n) (h8 : n ≤ 8) (h : (freshB b n).2 = true) : matchB b (freshB b n).1 = true ∧ rightB (freshB b n).1 = true := by
  obtain ⟨y, hy, e⟩ := fresh_row hb h
  obtain ⟨hlv, hlen⟩ := fresh_at hb h1 hy
  obtain ⟨_, fb, wb⟩ := filter_facts hb
  have hr : rightB (jn (subs y)) = true := by
    unfold rightB
    rw [hlv, hlen]
    simp only [Bool.and_eq_true, decide_eq_true_eq, List.all_eq_true]
    exact ⟨h8, subs_nm (rowO_mem _ _ _ fb hy)⟩
  rw [e]
  exact ⟨matchB_iff.2 ⟨hb, hr, y, by rw [hlv, hlen]; exact hy, by rw [hlv]; exact pw_own y⟩, hr⟩
theorem fresh_all {a b : ByteArray} (ha : filterB a = true) (hb : filterB b = true) (hz : ∀ c ∈ lv a, c ≠ zz) :
    covB a b = (List.range' 1 8).all fun n => !(freshB b n).2 || matchB a (freshB b n).1 := by
  have key : ∀ (n : Nat) (x y : List ByteArray), rowO one rest (lv a) n = some x → pw one x (subs y) = pw one x y := fun n x y hx =>
    pw_subs x y (fun c hc => by
      rcases rowO_of _ _ _ hx c hc with e | e
      · rw [e]; exact one_zz
      · exact hz c e)
  rw [Bool.eq_iff_iff, covB_iff]
  simp only [List.all_eq_true, List.mem_range'_1, Bool.or_eq_true, Bool.not_eq_true']
  obtain ⟨_, fb, wb⟩ := filter_facts hb
  constructor
  · rintro ⟨_, _, h⟩ n ⟨h1, h2⟩
    cases hf : (freshB b n).2 with
    | false => exact .inl rfl
    | true =>
      right
      obtain ⟨y, hy, e⟩ := fresh_row hb hf
      obtain ⟨hlv, hlen⟩ := fresh_at hb h1 hy
      obtain ⟨x, hx, hp⟩ := h n h1 (by omega) y hy
      rw [e]
      have hr := (fresh_ok hb h1 (by omega) hf).2
      rw [e] at hr
      exact matchB_iff.2 ⟨ha, hr, x, by rw [hlv, hlen]; exact hx, by rw [hlv, key n x y hx]; exact hp⟩
  · intro h
    refine ⟨ha, hb, fun n h1 h2 y hy => ?_⟩
    obtain ⟨hlv, hlen⟩ := fresh_at hb h1 hy
    have hf : freshB b n = (jn (subs y), true) := by
      unfold freshB
      rw [rowO_rowR (lv b) n wb] at hy
      by_cases e : (rowR one rest (lv b) n).2 = true
      · rw [if_pos e] at hy ⊢
        cases hy
        rfl
      · rw [if_neg e] at hy
        cases hy
    rcases h n ⟨h1, by omega⟩ with e | e
    · rw [hf] at e; cases e
    · rw [hf] at e
      obtain ⟨_, _, x, hx, hp⟩ := matchB_iff.1 e
      simp only at hx hp
      rw [hlv, hlen] at hx
      rw [hlv, key n x y hx] at hp
      exact ⟨x, hx, hp⟩
-- The statement TopicWider.
def xx : ByteArray := ⟨#[120]⟩
def yy : ByteArray := ⟨#[121]⟩
theorem wide_filter {f u c : ByteArray} (hf : (lv f).length < 8) (hu : lv u = c :: lv f) (hc : nm c = true ∨ c = one) : filterB u = filterB f := by
  unfold filterB
  rw [hu]
  have : (nm c || decide (c = one)) = true := by rcases hc with h | h <;> simp [h]
  simp only [List.length_cons, fltL, this, Bool.true_or, Bool.true_and]
  rw [decide_eq_true (show (lv f).length + 1 ≤ 8 by omega), decide_eq_true (show (lv f).length ≤ 8 by omega)]
theorem wide_right {s u : ByteArray} (hs : (lv s).length < 8) (hu : lv u = xx :: lv s) : rightB u = rightB s := by
  unfold rightB
  rw [hu]
  simp only [List.length_cons, List.all_cons, show nm xx = true from by decide, Bool.true_and]
  rw [decide_eq_true (show (lv s).length + 1 ≤ 8 by omega), decide_eq_true (show (lv s).length ≤ 8 by omega)]
theorem wide_one {f s pf xs : ByteArray} (hf : (lv f).length < 8) (hs : (lv s).length < 8) (h1 : lv pf = one :: lv f) (h2 : lv xs = xx :: lv s) : matchB pf xs = matchB f s := by
  unfold matchB
  rw [wide_filter hf h1 (.inr rfl), wide_right hs h2, h1, h2]
  congr 1
theorem wide_same {f s xf xs : ByteArray} (hf : (lv f).length < 8) (hs : (lv s).length < 8) (h1 : lv xf = xx :: lv f) (h2 : lv xs = xx :: lv s) : matchB xf xs = matchB f s := by
  unfold matchB
  rw [wide_filter hf h1 (.inl (by decide)), wide_right hs h2, h1, h2]
  congr 1
theorem wide_not {f s yf xs : ByteArray} (h1 : lv yf = yy :: lv f) (h2 : lv xs = xx :: lv s) : matchB yf xs = false := by
  unfold matchB
  rw [h1, h2, pm, if_neg (by decide), if_pos (by decide)]
  simp
theorem wide_cov {f pf xf : ByteArray} (hf : (lv f).length < 8) (h1 : lv pf = one :: lv f) (h2 : lv xf = xx :: lv f) : covB pf xf = filterB f := by
  unfold covB
  rw [wide_filter hf h1 (.inr rfl), wide_filter hf h2 (.inl (by decide)), h1, h2]
  cases hff : filterB f with
  | false => rfl
  | true =>
    obtain ⟨_, _, wf⟩ := filter_facts hff
    simp only [Bool.true_and]
    rw [cov, if_neg (by simp; decide), if_neg (by decide), if_neg (by simp)]
    rw [cov_iff _ _ _ wf wf (by omega) (by omega) (fun e => by omega)]
    exact fun n _ _ y hy => ⟨y, hy, pw_refl y⟩
-- The statement TopicRest.
theorem flt_more : ∀ (l : List ByteArray), fltL (l ++ [rest]) = true → fltL l = true ∧ ∀ x ∈ l, x ≠ rest
  | [], _ => ⟨rfl, fun _ h => by cases h⟩
  | x :: l, h => by
    rw [List.cons_append] at h
    simp only [fltL, Bool.and_eq_true, Bool.or_eq_true, decide_eq_true_eq] at h
    obtain ⟨h1, h2⟩ := h
    obtain ⟨h3, h4⟩ := flt_more l h2
    have hx : nm x = true ∨ x = one := by
      rcases h1 with h1 | h1
      · exact h1
      · simp at h1
    refine ⟨?_, fun y hy => ?_⟩
    · simp only [fltL, h3, Bool.and_true]
      rcases hx with g | g <;> simp [g]
    · rcases List.mem_cons.1 hy with e | e
      · rw [e]
        rcases hx with g | g
        · exact nm_ne_rest g
        · rw [g]; exact one_ne
      · exact h4 y e
theorem rest_not {f g s : ByteArray} (hg : lv g = lv f ++ [rest]) (h : filterB g = false ∨ filterB f = false) : matchB g s = false := by
  have hgf : filterB g = false := by
    rcases h with h | h
    · exact h
    · cases e : filterB g with
      | false => rfl
      | true =>
        obtain ⟨l8, fl, _⟩ := filter_facts e
        rw [hg] at l8 fl
        have := (flt_more _ fl).1
        unfold filterB at h
        rw [this, decide_eq_true (show (lv f).length ≤ 8 by simp at l8; omega)] at h
        cases h
  unfold matchB
  rw [hgf]
  rfl
theorem row_exact : ∀ (l : List ByteArray) (n : Nat), (∀ x ∈ l, x ≠ rest) → rowO one rest l n = if l.length = n then some l else none
  | [], 0, _ => rfl
  | [], n + 1, _ => rfl
  | x :: l, n, h => by
    unfold rowO
    rw [if_neg (h x (by simp))]
    cases n with
    | zero => simp
    | succ n =>
      simp only
      rw [row_exact l n (fun y hy => h y (by simp [hy]))]
      by_cases e : l.length = n <;> simp [e]
theorem pw_take : ∀ (l t : List ByteArray), l.length ≤ t.length → pw one (l ++ List.replicate (t.length - l.length) one) t = pw one l (t.take l.length)
  | [], t, _ => by simp [pw_ones, pw]
  | x :: l, [], h => by simp at h
  | x :: l, y :: t, h => by
    simp only [List.length_cons] at h
    have ih := pw_take l t (by omega)
    rw [List.cons_append]
    simp only [List.length_cons, List.take_succ_cons, pw]
    rw [show t.length + 1 - (l.length + 1) = t.length - l.length by omega, ih]
/-- Some first levels of a text are let by. -/
def someB (f s : ByteArray) : Bool := (List.range (lv s).length).any fun i => matchB f (jn ((lv s).take (i + 1)))
theorem rest_law {f g s : ByteArray} (hg : lv g = lv f ++ [rest]) (h1 : filterB g = true) (h2 : filterB f = true) : matchB g s = (someB f s && rightB s) := by
  obtain ⟨l8, fl, wl⟩ := filter_facts h1
  have hl8 := l8
  rw [hg] at l8 fl
  have l9 : (lv f).length + 1 ≤ 8 := by simpa using l8
  obtain ⟨ff, fr⟩ := flt_more _ fl
  cases hr : rightB s with
  | false => unfold matchB; rw [hr]; simp
  | true =>
    obtain ⟨r8, rn⟩ := right_facts hr
    rw [Bool.and_true, Bool.eq_iff_iff, matchB_iff, hg]
    unfold someB
    simp only [List.any_eq_true, List.mem_range]
    rw [row_more _ _ fr]
    have htake : ∀ i, i < (lv s).length → lv (jn ((lv s).take (i + 1))) = (lv s).take (i + 1) := fun i hi =>
      lv_jn _ (fun e => by have h0 := congrArg List.length e; rw [List.length_take, List.length_nil] at h0; omega) (fun x hx => nm_slash (rn x (List.mem_of_mem_take hx)))
    constructor
    · rintro ⟨_, _, x, hx, hp⟩
      split at hx
      · rename_i hle
        cases hx
        rw [pw_take _ _ hle] at hp
        have hpos := lv_pos f
        refine ⟨(lv f).length - 1, by omega, matchB_iff.2 ⟨h2, ?_, lv f, ?_, ?_⟩⟩
        · unfold rightB
          rw [htake _ (by omega)]
          simp only [Bool.and_eq_true, decide_eq_true_eq, List.all_eq_true]
          exact ⟨by rw [List.length_take]; omega, fun x hx => rn x (List.mem_of_mem_take hx)⟩
        · rw [htake _ (by omega), row_exact _ _ fr, if_pos (by rw [List.length_take]; omega)]
        · rw [htake _ (by omega), show (lv f).length - 1 + 1 = (lv f).length by omega]
          exact hp
      · cases hx
    · rintro ⟨i, hi, hm⟩
      obtain ⟨_, _, x, hx, hp⟩ := matchB_iff.1 hm
      rw [htake i hi, row_exact _ _ fr] at hx
      rw [htake i hi] at hp
      split at hx
      · rename_i hle
        cases hx
        rw [List.length_take] at hle
        refine ⟨h1, hr, _, if_pos (by omega), ?_⟩
        rw [pw_take _ _ (by omega), show (lv f).length = i + 1 by omega]
        exact hp
      · cases hx
theorem rest_cov {f g : ByteArray} (hg : lv g = lv f ++ [rest]) (h1 : filterB g = true) (h2 : filterB f = true) : covB g f = true := by
  obtain ⟨l8, fl, wl⟩ := filter_facts h1
  rw [hg] at l8 fl
  obtain ⟨ff, fr⟩ := flt_more _ fl
  refine covB_iff.2 ⟨h1, h2, fun n _ _ y hy => ?_⟩
  rw [row_exact _ _ fr] at hy
  split at hy
  · rename_i hle
    cases hy
    exact ⟨lv f, by rw [hg, row_more _ _ fr, if_pos (by omega), show n - (lv f).length = 0 by omega]; simp, pw_refl _⟩
  · cases hy
end Go.Proofs.YtfakimleoihfgaaDoor.TP
