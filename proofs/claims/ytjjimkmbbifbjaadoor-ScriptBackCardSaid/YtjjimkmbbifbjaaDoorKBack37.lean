import Derived.Test.YtjjimkmbbifbjaaDoorKBack33
import Derived.Test.YtjjimkmbbifbjaaDoorKBack36
namespace Go.Proofs.YtjjimkmbbifbjaaDoor.Pure
open Go Go.RowKit Go.Proofs.YtjjimkmbbifbjaaDoor Go.Proofs.YtjjimkmbbifbjaaDoor.VF Go.Proofs.YtjjimkmbbifbjaaDoor.SP Go.Proofs.YtjjimkmbbifbjaaDoor.SW Go.Proofs.YtjjimkmbbifbjaaDoor.SR Go.Proofs.YtjjimkmbbifbjaaDoor.Pr Go.Proofs.YtjjimkmbbifbjaaDoorW.PrintWords
theorem fixed_bind {k : Nat} (hk : 10 ≤ k) : ((rivuletlaw23_fixed.f k).bind fun t => some t) = some true := by rw [fixed_true hk]; rfl
theorem app_none (s : ByteArray) : s ++ (⟨#[]⟩ : ByteArray) = s := by
  apply bytes_inj
  rw [bytes_append]
  exact List.append_nil _
theorem back_l0 (l : List A) (s : ByteArray) (hl : ∀ x ∈ l, fit x) (hn : l.length ≤ 40) : ∀ (d k i : Nat) (acc : ByteArray) (m : List A), i + d = l.length → acc.size ≤ 400 * i → m.length ≤ i →
    rivuletlaw23_ScriptBack.l0 (k + d) l s acc m (i : Int) = rivuletlaw23_ScriptBack.l0 k l s (((l.drop i).map bareA).foldl (fun s x => s ++ pA x) acc) (m ++ rights ((l.drop i).map bareA)) (l.length : Int) := by
  intro d
  induction d with
  | zero =>
    intro k i acc m hi ha hm
    rw [List.drop_of_length_le (by omega), show i = l.length by omega]
    simp [rights]
  | succ d ih =>
    intro k i acc m hi ha hm
    have hil : i < l.length := by omega
    have hx := fit_bare (hl _ (List.getElem_mem hil))
    rw [show k + (d + 1) = (k + d) + 1 by omega]
    simp only [rivuletlaw23_ScriptBack.l0.eq_2]
    rw [if_pos (by omega), if_pos (by omega), rd23 l hil, bare_fA, Option.bind_some, put_t8 _ hx, Option.bind_some, right_t8 _ hx, Option.bind_some, List.drop_eq_getElem_cons hil, List.map_cons, List.foldl_cons, w1i (by omega)]
    generalize bareA (l[i]'hil) = x at hx
    have hsz := pA_le hx
    cases hr : rA x with
    | false =>
      have hp := pA_list.2 hr
      rw [hp, if_neg (by decide), if_pos rfl, ih k (i + 1) acc m (by omega) (by omega) (by omega), pA_none hr, app_none]
      rw [show rights (x :: List.map bareA (List.drop (i + 1) l)) = rights (List.map bareA (List.drop (i + 1) l)) from List.filter_cons_of_neg (by rw [hr]; decide)]
    | true =>
      have hp : (pA x).toList ≠ [] := fun g => by
        have := pA_list.1 g
        rw [hr] at this
        cases this
      rw [show ((pA x).toList != ([] : List UInt8)) = true from by simpa using hp, if_neg (by decide), if_neg hp, if_pos (by omega), if_pos (by omega)]
      rw [show (⟨(t8 x).1, (t8 x).2.1, (t8 x).2.2.1, (t8 x).2.2.2.1, (t8 x).2.2.2.2.1, (t8 x).2.2.2.2.2.1, (t8 x).2.2.2.2.2.2.1, (t8 x).2.2.2.2.2.2.2⟩ : A) = x from rfl]
      rw [ih k (i + 1) (acc ++ pA x) (m ++ [x]) (by omega) (by rw [ByteArray.size_append]; omega) (by rw [List.length_append, List.length_singleton]; omega)]
      rw [show rights (x :: List.map bareA (List.drop (i + 1) l)) = x :: rights (List.map bareA (List.drop (i + 1) l)) from List.filter_cons_of_pos hr, List.append_assoc, List.singleton_append]
theorem ok_size {x : A} (h : okA x) : (pA x).size ≤ 70000 := by
  rw [pA_size h.1]
  obtain ⟨_, _, _, _, _, _, _, hy⟩ := rightA_all h.1
  unfold pL putL
  simp only [List.length_append, List.length_singleton]
  have := eL_len (hasB x.f0) 0 x.f1
  have := eL_len (hasB x.f0) 1 x.f2
  have := eL_len (hasB x.f0) 2 x.f3
  have := eL_len (hasB x.f0) 3 x.f7
  have := fL_len (hasB x.f0) x.f6
  have := xL_len (hasB x.f0) 5 x.f4
  have := xL_len (hasB x.f0) 6 x.f5
  have := h.2
  omega
theorem back_l1 (s : ByteArray) (m : List A) (q : Int) (hm : ∀ x ∈ m, okA x) (hn : m.length ≤ 400) : ∀ (d k i : Nat) (acc : ByteArray), i + d = m.length → acc.size ≤ 70000 * i →
    rivuletlaw23_ScriptBack.l1 (k + d) s m q acc (i : Int) = rivuletlaw23_ScriptBack.l1 k s m q ((m.drop i).foldl (fun s x => s ++ pA x) acc) (m.length : Int) := by
  intro d
  induction d with
  | zero =>
    intro k i acc hi ha
    rw [List.drop_of_length_le (by omega), show i = m.length by omega]
    rfl
  | succ d ih =>
    intro k i acc hi ha
    have hil : i < m.length := by omega
    have hx := hm _ (List.getElem_mem hil)
    rw [show k + (d + 1) = (k + d) + 1 by omega]
    simp only [rivuletlaw23_ScriptBack.l1.eq_2]
    rw [if_pos (by omega), if_pos (by omega), rd23 m hil, List.drop_eq_getElem_cons hil, List.foldl_cons, w1i (by omega)]
    generalize m[i]'hil = x at hx
    have h4 := hx.2
    have hsz := ok_size hx
    rw [right_fA x (by omega), Option.bind_some, if_pos hx.1, put_fA x (by omega), Option.bind_some, if_pos (by omega), ih k (i + 1) _ (by omega) (by rw [ByteArray.size_append]; omega)]
theorem rights_all {m : List A} (h : ∀ x ∈ m, okA x) : rights m = m := List.filter_eq_self.2 fun x hx => (h x hx).1
theorem ScriptBack (l0 : List A) (a1 : ByteArray) (_ : a1.size ≤ 140737488351232) : ∃ k, rivuletlaw23_ScriptBack.f k l0 a1 = some true := by
  refine ⟨2000, ?_⟩
  unfold rivuletlaw23_ScriptBack.f
  obtain ⟨l, hl, hn, hf⟩ := Cut_f l0 (k := 2000) (by decide)
  have hm : 0 ≤ mn (a1.size : Int) 400 ∧ mn (a1.size : Int) 400 ≤ a1.size ∧ mn (a1.size : Int) 400 ≤ 400 := by unfold mn; split <;> omega
  rw [hl, Option.bind_some, if_pos hm.1, if_pos hm.2.1]
  have hs : (a1.extract 0 ((mn (a1.size : Int) 400) : Int).toNat).size ≤ 400 := by rw [ByteArray.size_extract]; omega
  generalize a1.extract 0 ((mn (a1.size : Int) 400) : Int).toNat = s at *
  obtain ⟨K, hK⟩ : ∃ K, 2000 - l.length = K + 1 + 1 := ⟨1998 - l.length, by omega⟩
  have h0 := back_l0 l s hf hn l.length (K + 1 + 1) 0 ⟨#[]⟩ [] (by omega) (by decide) (by simp)
  rw [show K + 1 + 1 + l.length = 2000 by omega, List.drop_zero, List.nil_append] at h0
  refine h0.trans ?_
  have hfb : ∀ x ∈ l.map bareA, fit x := fun x hx => by
    obtain ⟨y, hy, rfl⟩ := List.mem_map.1 hx
    exact fit_bare (hf y hy)
  have hrl : (rights (l.map bareA)).length ≤ 40 := by
    have := List.length_filter_le (fun x => rA x) (l.map bareA)
    rw [List.length_map] at this
    unfold rights
    omega
  have hok := rights_ok hfb
  have hb : bytesOf (putAll (l.map bareA)) = bL (rights (l.map bareA)) := by
    have := putAll_bytes (l.map bareA) ⟨#[]⟩
    exact this
  have hsz : (putAll (l.map bareA)).size ≤ 16000 := by
    have : ∀ (m : List A) (acc : ByteArray), (∀ x ∈ m, fit x) → (m.foldl (fun s x => s ++ pA x) acc).size ≤ acc.size + 400 * m.length := by
      intro m
      induction m with
      | nil => intro acc _; exact Nat.le_refl _
      | cons x m ih =>
        intro acc hx
        have h1 := pA_le (hx x (by simp))
        have h2 := ih (acc ++ pA x) (fun y hy => hx y (List.mem_cons_of_mem _ hy))
        rw [ByteArray.size_append] at h2
        rw [List.foldl_cons, List.length_cons]
        omega
    have := this (l.map bareA) ⟨#[]⟩ hfb
    rw [List.length_map] at this
    have e : (⟨#[]⟩ : ByteArray).size = 0 := rfl
    unfold putAll
    omega
  have hR : Rds (putAll (l.map bareA)) 0 (rights (l.map bareA)) (putAll (l.map bareA)).size := by
    have := rds_put (s := putAll (l.map bareA)) (rights (l.map bareA)) 0 [] [] (putAll (l.map bareA)).size hok (by rw [List.drop_zero, hb, List.append_nil]) (by
      rw [Nat.zero_add, ← hb, size_bytes]
      exact rds_end _)
    rw [List.append_nil] at this
    exact this
  change rivuletlaw23_ScriptBack.l0 (K + 1 + 1) l s (putAll (l.map bareA)) (rights (l.map bareA)) (l.length : Int) = some true
  generalize hacc : putAll (l.map bareA) = acc at *
  generalize rights (l.map bareA) = R at *
  obtain ⟨x, q, hr, hxl, q0, q1⟩ := rds_some s s.size 0 (by omega) (by omega) (by omega)
  obtain ⟨ok2, sg, hq⟩ := rds_got hr 0 rfl (by omega)
  rw [rivuletlaw23_ScriptBack.l0.eq_2, if_neg (by omega), all_f (by omega) hR (by omega) (by omega), Option.bind_some]
  simp only []
  rw [same_f R R (by omega) (by omega), Option.bind_some, if_pos (by simp), show ((acc.size : Int) != (acc.size : Int)) = false by simp]
  rw [rivuletlaw23_ScriptBack.j1.eq_2, if_neg (by decide), all_f (by omega) hr (by omega) (by omega), Option.bind_some]
  simp only []
  have h1 := back_l1 s x q ok2 (by omega) x.length (K - x.length) 0 ⟨#[]⟩ (by omega) (by decide)
  rw [show K - x.length + x.length = K by omega, List.drop_zero] at h1
  have h2 : rivuletlaw23_ScriptBack.l1 K s x q ⟨#[]⟩ 0 = rivuletlaw23_ScriptBack.l1 (K - x.length) s x q (putAll x) (x.length : Int) := h1
  rw [h2]
  obtain ⟨K2, hK2⟩ : ∃ K2, K - x.length = K2 + 1 := ⟨K - x.length - 1, by omega⟩
  rw [hK2, rivuletlaw23_ScriptBack.l1.eq_2, if_neg (by omega), if_pos (by omega), if_pos (by omega), if_pos (by omega)]
  have he : putAll x = s.extract 0 (q : Int).toNat := by
    apply bytes_inj
    have hb2 : bytesOf (putAll x) = bL (rights x) := putAll_bytes x ⟨#[]⟩
    rw [hb2, rights_all ok2, bytes_extract, List.drop_zero, Nat.sub_zero, hq, Nat.zero_add, Int.toNat_natCast]
    have := sg.1
    rw [List.drop_zero] at this
    exact this
  rw [if_pos (by rw [he]), fixed_bind (by omega)]
end Go.Proofs.YtjjimkmbbifbjaaDoor.Pure
