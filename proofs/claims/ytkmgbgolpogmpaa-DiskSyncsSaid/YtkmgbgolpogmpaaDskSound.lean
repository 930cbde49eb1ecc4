/-
  Chapter 09: what calls do to a disk's state, and what stays true of it. Plain Lean.
-/
import Derived.Test.YtkmgbgolpogmpaaDskTorn
namespace Go.Proofs.Ytkmgbgolpogmpaa.DK
open Go.RowKit Go.Proofs.Ytkmgbgolpogmpaa

theorem extract_none (s : ByteArray) : s.extract 0 0 = ⟨#[]⟩ := by
  apply ByteArray.ext
  simp
theorem extract_whole (s : ByteArray) : s.extract 0 s.size = s := by
  apply ByteArray.ext
  simp
theorem append_none (s : ByteArray) : s ++ ⟨#[]⟩ = s := by
  apply ByteArray.ext
  simp
theorem to_at (r : Four) (i : Int) : r.to i (r.at i) = r := by
  by_cases h : 0 ≤ i ∧ i < 4
  · rcases at_cases h.1 h.2 with rfl | rfl | rfl | rfl <;> rfl
  · unfold Four.to
    rw [if_neg (by omega), if_neg (by omega), if_neg (by omega), if_neg (by omega)]
theorem act_zero (x : Wr) (r : Four) : x.act r 0 = r := by
  unfold Wr.act
  split
  · rfl
  · rw [extract_none, append_none, to_at]
theorem stays_zero : ∀ (l : List Wr) (r : Four), stays l 0 r = r
  | [], r => rfl
  | x :: l, r => by
    by_cases h : x.whole = true ∧ min 0 x.units < x.units
    · exact stays_cut h
    · rw [stays_on h, Nat.zero_min, act_zero]
      exact stays_zero l r
theorem stays_append : ∀ (l m : List Wr) (u : Nat) (r : Four), stays (l ++ m) u r = stays m (u - unitsOf l) (stays l u r)
  | [], m, u, r => rfl
  | x :: l, m, u, r => by
    show stays (x :: (l ++ m)) u r = _
    by_cases h : x.whole = true ∧ min u x.units < x.units
    · have hu : x.units = 1 := by unfold Wr.units; rw [if_pos h.1]
      obtain rfl : u = 0 := by have := h.2; omega
      rw [stays_zero, stays_zero, Nat.zero_sub, stays_zero]
    · rw [stays_on h, stays_on h, stays_append l m]
      show stays m (u - min u x.units - unitsOf l) _ = stays m (u - (x.units + unitsOf l)) _
      rw [show u - min u x.units - unitsOf l = u - (x.units + unitsOf l) by omega]
theorem stays_full : ∀ (l : List Wr) (u : Nat) (r : Four), unitsOf l ≤ u → stays l u r = stays l (unitsOf l) r
  | [], u, r, _ => rfl
  | x :: l, u, r, h => by
    have h2 : x.units + unitsOf l ≤ u := h
    show _ = stays (x :: l) (x.units + unitsOf l) r
    rw [stays_on (by omega), stays_on (by omega), show min u x.units = x.units by omega, show min (x.units + unitsOf l) x.units = x.units by omega]
    rw [stays_full l (u - x.units) _ (by omega), stays_full l (x.units + unitsOf l - x.units) _ (by omega)]
/-- A disk's state. -/
structure St where
  n : Four
  k : Four
  l : List Wr
/-- What is true of a disk on which there are at most so many writes. -/
structure Sound (b : Nat) (st : St) : Prop where
  len : st.l.length ≤ b
  ok : ∀ x ∈ st.l, x.ok
  small : ∀ u i, ((stays st.l u st.k).at i).size ≤ 65536
  now : stays st.l (unitsOf st.l) st.k = st.n
theorem Sound.now_le {b : Nat} {st : St} (h : Sound b st) (i : Int) : (st.n.at i).size ≤ 65536 := by
  rw [← h.now]
  exact h.small _ i
theorem Sound.kept_le {b : Nat} {st : St} (h : Sound b st) (i : Int) : (st.k.at i).size ≤ 65536 := by
  have := h.small 0 i
  rw [stays_zero] at this
  exact this
theorem Sound.fine {b : Nat} {st : St} (h : Sound b st) (hb : b ≤ 1000) : Fine st.n st.k st.l := ⟨h.now_le, h.kept_le, Nat.le_trans h.len hb, h.ok⟩
theorem Sound.mono {b c : Nat} {st : St} (h : Sound b st) (hb : b ≤ c) : Sound c st := ⟨Nat.le_trans h.len hb, h.ok, h.small, h.now⟩
theorem Sound.sure {r : Four} (b : Nat) (h : ∀ i, (r.at i).size ≤ 65536) : Sound b ⟨r, r, []⟩ := ⟨Nat.zero_le _, (fun x hx => by simp at hx), (fun _ i => h i), rfl⟩
theorem Sound.zero (b : Nat) : Sound b ⟨zero4, zero4, []⟩ := Sound.sure b (at_le _ (by decide) (by decide) (by decide) (by decide))
theorem stays_one (x : Wr) (u : Nat) (r : Four) : stays [x] u r = r ∨ stays [x] u r = x.act r (min u x.units) := by
  by_cases h : x.whole = true ∧ min u x.units < x.units
  · exact .inl (stays_cut h)
  · exact .inr (stays_on h)
theorem Sound.put {b : Nat} {st : St} (h : Sound b st) (x : Wr) (hx : x.ok) (hs : ∀ m i, m ≤ x.units → ((x.act st.n m).at i).size ≤ 65536) : Sound (b + 1) ⟨x.act st.n x.units, st.k, st.l ++ [x]⟩ := by
  refine ⟨?_, ?_, ?_, ?_⟩
  · have := h.len
    show (st.l ++ [x]).length ≤ _
    rw [List.length_append]
    exact Nat.succ_le_succ this
  · intro y hy
    rcases List.mem_append.1 hy with hy | hy
    · exact h.ok y hy
    · simp at hy
      subst hy
      exact hx
  · intro u i
    show ((stays (st.l ++ [x]) u st.k).at i).size ≤ 65536
    rw [stays_append]
    by_cases hu : u ≤ unitsOf st.l
    · rw [show u - unitsOf st.l = 0 by omega, stays_zero]
      exact h.small u i
    · rw [stays_full st.l u st.k (by omega), h.now]
      rcases stays_one x (u - unitsOf st.l) st.n with e | e
      · rw [e]; exact h.now_le i
      · rw [e]; exact hs _ i (Nat.min_le_right _ _)
  · show stays (st.l ++ [x]) (unitsOf (st.l ++ [x])) st.k = x.act st.n x.units
    have hu : unitsOf (st.l ++ [x]) = unitsOf st.l + x.units := by rw [unitsOf_append]; simp [unitsOf]
    rw [stays_append, hu, stays_full st.l _ st.k (by omega), h.now, show unitsOf st.l + x.units - unitsOf st.l = x.units by omega, stays_on (by omega), Nat.min_self]
    rfl
/-- A call of a script. -/
structure OpV where
  kind : Int
  file : Int
  s : ByteArray
  n : Int
def OpV.val (o : OpV) : Value := .agg #[.int .i64 o.kind, .int .i64 o.file, .string o.s, .int .i64 o.n]
def OpV.cut (o : OpV) : ByteArray := o.s.extract 0 (min o.s.size 60)
theorem OpV.cut_le (o : OpV) : o.cut.size ≤ 60 := by unfold OpV.cut; rw [ByteArray.size_extract]; omega
/-- The disk behind an Append, a Replace. -/
def appendT (st : St) (i : Int) (s : ByteArray) : St := if appendS st.n i s = 0 then ⟨st.n.to i (st.n.at i ++ s), st.k, st.l ++ [⟨false, i, s⟩]⟩ else st
def replaceT (st : St) (i : Int) (s : ByteArray) : St := if replaceS i s = 0 then ⟨st.n.to i s, st.k, st.l ++ [⟨true, i, s⟩]⟩ else st
def crashT (st : St) (u : Int) : St := ⟨stays st.l (staysN u (unitsOf st.l)) st.k, stays st.l (staysN u (unitsOf st.l)) st.k, []⟩
/-- What a call answers, and the disk behind it. -/
def ans (st : St) (o : OpV) : Int := if o.kind = 0 then appendS st.n o.file o.cut else if o.kind = 1 then replaceS o.file o.cut else if o.kind = 3 then staysN o.n (unitsOf st.l) else 0
def next (st : St) (o : OpV) : St := if o.kind = 0 then appendT st o.file o.cut else if o.kind = 1 then replaceT st o.file o.cut else if o.kind = 2 then ⟨st.n, st.n, []⟩ else if o.kind = 3 then crashT st o.n else st
theorem appendS_ok {n : Four} {i : Int} {s : ByteArray} (h : appendS n i s = 0) : (0 ≤ i ∧ i < 4) ∧ (n.at i).size + s.size ≤ 65536 := by
  unfold appendS at h
  split at h
  · simp at h
  · rename_i h1
    split at h
    · simp at h
    · exact ⟨by simpa using h1, by omega⟩
theorem replaceS_ok {i : Int} {s : ByteArray} (h : replaceS i s = 0) : (0 ≤ i ∧ i < 4) ∧ s.size ≤ 65536 := by
  unfold replaceS at h
  split at h
  · simp at h
  · rename_i h1
    split at h
    · simp at h
    · exact ⟨by simpa using h1, by omega⟩
theorem Sound.append {b : Nat} {st : St} (h : Sound b st) (i : Int) (s : ByteArray) : Sound (b + 1) (appendT st i s) := by
  unfold appendT
  split
  · rename_i h0
    obtain ⟨hi, hz⟩ := appendS_ok h0
    have hp := h.put ⟨false, i, s⟩ ⟨hi.1, hi.2, by show s.size ≤ 65536; omega⟩ (fun m j hm => by
      show ((st.n.to i (st.n.at i ++ s.extract 0 m)).at j).size ≤ 65536
      rw [at_to]
      split
      · rw [ByteArray.size_append, ByteArray.size_extract]
        omega
      · exact h.now_le j)
    have e : (Wr.mk false i s).act st.n (Wr.mk false i s).units = st.n.to i (st.n.at i ++ s) := by
      show st.n.to i (st.n.at i ++ s.extract 0 s.size) = _
      rw [extract_whole]
    rw [e] at hp
    exact hp
  · exact h.mono (Nat.le_succ _)
theorem Sound.replace {b : Nat} {st : St} (h : Sound b st) (i : Int) (s : ByteArray) : Sound (b + 1) (replaceT st i s) := by
  unfold replaceT
  split
  · rename_i h0
    obtain ⟨hi, hz⟩ := replaceS_ok h0
    exact h.put ⟨true, i, s⟩ ⟨hi.1, hi.2, hz⟩ (fun m j hm => by
      show ((if m = 1 then st.n.to i s else st.n).at j).size ≤ 65536
      split
      · rw [at_to]
        split
        · exact hz
        · exact h.now_le j
      · exact h.now_le j)
  · exact h.mono (Nat.le_succ _)
theorem Sound.crash {b : Nat} {st : St} (h : Sound b st) (u : Int) : Sound b (crashT st u) := Sound.sure b (h.small _)
theorem Sound.sync {b : Nat} {st : St} (h : Sound b st) : Sound b ⟨st.n, st.n, []⟩ := Sound.sure b h.now_le
theorem Sound.next {b : Nat} {st : St} (h : Sound b st) (o : OpV) : Sound (b + 1) (next st o) := by
  unfold DK.next
  split
  · exact h.append _ _
  · split
    · exact h.replace _ _
    · split
      · exact h.sync.mono (Nat.le_succ _)
      · split
        · exact (h.crash _).mono (Nat.le_succ _)
        · exact h.mono (Nat.le_succ _)
end Go.Proofs.Ytkmgbgolpogmpaa.DK
