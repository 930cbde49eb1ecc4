import Derived.Test.YtdoaomoocikmaaaDoorKBack38
import Derived.Test.YtdoaomoocikmaaaDoorKBack41
import Derived.Test.YtdoaomoocikmaaaDoorKBack42
namespace Go.Proofs.YtdoaomoocikmaaaDoor.Pure
open Go Go.RowKit Go.Proofs.YtdoaomoocikmaaaDoor Go.Proofs.YtdoaomoocikmaaaDoor.VP Go.Proofs.YtdoaomoocikmaaaDoor.VF Go.Proofs.YtdoaomoocikmaaaDoor.EB Go.Proofs.YtdoaomoocikmaaaDoor.EW Go.Proofs.YtdoaomoocikmaaaDoor.ER Go.Proofs.YtdoaomoocikmaaaDoor.EP Go.Proofs.YtdoaomoocikmaaaDoor.Pr Go.Proofs.YtdoaomoocikmaaaDoorW.PrintWords
theorem putE_by' {o q : Int} {t l : ByteArray} {m : Int} (hr : rightE o q t l m = true) : By (putE o q t l m) := by
  obtain ⟨⟨o0, o1⟩, ⟨q0, q1⟩, ⟨m0, m1⟩, _, l1⟩ := rbd hr
  unfold putE
  exact (enc_by o0).append ((enc_by (by omega)).append ((enc_by m0).append (((enc_by (by omega)).append (bytes_by t)).append ((enc_by (by omega)).append (bytes_by l)))))
theorem marksE_by' {l : List (Int × Int)} (h : sortedB l = true) : By (marksE l) := (enc_by (by omega)).append (encM_by l (sorted_all h).2)
theorem seg_eq {s : ByteArray} {e : List Int} (he : By e) (h : Seg s 0 e) : (strOfNums e).toList = (s.extract 0 ((e.length : Int)).toNat).toList := by
  rw [toList_inj]
  apply bytes_inj
  rw [bytes_son he, bytes_extract]
  have := h.1
  simpa using this
theorem back1 {k : Nat} (hk : 10 ≤ k) (s : ByteArray) (hs : s.size ≤ 300) : rivuletlaw06_EventBack.j1 k s = some true := by
  obtain ⟨k, rfl⟩ : ∃ j, k = j + 1 := ⟨k - 1, by omega⟩
  simp only [rivuletlaw06_EventBack.j1]
  have hfix : ((rivuletlaw06_fixed.f k).bind fun c => some c) = some true := by rw [fixed_true (by omega)]; rfl
  rw [show event_Get.f s 0 = some (getE s 0) from if_pos (by omega), Option.bind_some, show event_Cut.f s 0 = some (reM (cutE s 0).1, (cutE s 0).2.1, (cutE s 0).2.2) from if_pos (by omega), Option.bind_some]
  have second : (if (cutE s 0).2.2 = 0 then (if (cutE s 0).2.1 > (s.size : Int) then (some false) else (if (cutE s 0).2.1 < 0 then (some false) else ((event_Marks.f (reM (cutE s 0).1)).bind fun t396 => (if 0 ≤ (cutE s 0).2.1 then (if (cutE s 0).2.1 ≤ (s.size : Int) then (if t396.toList = (s.extract 0 ((cutE s 0).2.1 : Int).toNat).toList then ((rivuletlaw06_fixed.f k).bind fun t397 => (some t397)) else (some false)) else (none)) else (none))))) else ((rivuletlaw06_fixed.f k).bind fun t398 => (some t398))) = some true := by
    by_cases g : (cutE s 0).2.2 = 0
    · obtain ⟨p, l, e0, e1, hl, sg⟩ := cutE_zero g
      have e0' : p = 0 := by omega
      subst e0'
      rw [e1]
      have hz := sg.2
      simp only [Nat.zero_add] at hz ⊢
      rw [if_pos trivial, if_neg (by omega), if_neg (by omega), show event_Marks.f (reM l) = some (marksB (unM (reM l))) from if_pos (by rw [re_len]; have := (sorted_all hl).1; omega), Option.bind_some, if_pos (by omega), if_pos (by omega), un_re, if_pos (by
        have : marksB l = strOfNums (marksE l) := by unfold marksB; rw [hl]; rfl
        rw [this]
        exact seg_eq (marksE_by' hl) sg)]
      exact hfix
    · rw [if_neg g]
      exact hfix
  by_cases g : (getE s 0).2.2.2.2.2.2 = 0
  · obtain ⟨p, o, q, t, l, m, e0, e1, hr, sg⟩ := getE_zero g
    have e0' : p = 0 := by omega
    subst e0'
    have hz := sg.2
    have hb : t.size ≤ 300 ∧ l.size ≤ 300 := by
      have h := hz
      unfold putE at h
      simp only [List.length_append, size_bytes] at h
      omega
    rw [e1]
    simp only [Nat.zero_add] at hz ⊢
    rw [if_pos trivial, if_neg (by omega), if_neg (by omega), show event_Put.f o q t l m = some (putB o q t l m) from if_pos ⟨by omega, by omega⟩, Option.bind_some, if_pos (by omega), if_pos (by omega), if_pos (by
      have : putB o q t l m = strOfNums (putE o q t l m) := by unfold putB; rw [hr]; rfl
      rw [this]
      exact seg_eq (putE_by' hr) sg)]
    exact second
  · rw [if_neg g]
    exact second
theorem back0 {k : Nat} (hk : 100 ≤ k) (l : List MK) (hl : l.length ≤ 40) (s : ByteArray) (hs : s.size ≤ 300) : rivuletlaw06_EventBack.j0 k l s = some true := by
  obtain ⟨k, rfl⟩ : ∃ j, k = j + 1 := ⟨k - 1, by omega⟩
  simp only [rivuletlaw06_EventBack.j0]
  rw [show event_Sorted.f l = some (sortedB (unM l)) from if_pos (by omega), Option.bind_some]
  cases h : sortedB (unM l) with
  | false => rw [if_neg (by decide)]; exact back1 (by omega) s hs
  | true =>
    have hM : marksB (unM l) = strOfNums (marksE (unM l)) := by unfold marksB; rw [h]; rfl
    have hsz : (strOfNums (marksE (unM l))).size = (marksE (unM l)).length := strOfNums_size _
    have hz : (marksE (unM l)).length ≤ 900 := by
      obtain ⟨b1, _⟩ := sorted_all h
      have := encM_len (unM l)
      unfold marksE
      rw [List.length_append, enc_length]
      have := sz_bd (unM l).length
      omega
    rw [if_pos rfl, show event_Marks.f l = some (marksB (unM l)) from if_pos (by omega), Option.bind_some, hM, if_pos (by omega), if_pos (by rw [ByteArray.size_append]; omega)]
    have hd : (bytesOf ((s ++ strOfNums (marksE (unM l))) ++ s)).drop s.size = marksE (unM l) ++ bytesOf s := by
      rw [bytes_append, bytes_append, bytes_son (marksE_by' h), List.append_assoc, ← size_bytes s, List.drop_left]
    have hc := cutE_marks h hd
    rw [show event_Cut.f ((s ++ strOfNums (marksE (unM l))) ++ s) (s.size : Int) = some (reM (unM l), (((s.size + (marksE (unM l)).length : Nat)) : Int), 0) from (if_pos (by rw [ByteArray.size_append, ByteArray.size_append]; omega)).trans (by rw [hc]), Option.bind_some]
    simp only []
    rw [if_pos trivial, requal_f _ _ (by omega) (by omega), Option.bind_some, re_un, if_pos (by simp), if_pos (by rw [hsz, w64 (by omega)]; omega)]
    exact back1 (by omega) s hs
theorem EventBack (o q : Int) (t l : ByteArray) (m : Int) (ms : List MK) (s : ByteArray) (_ : (Lit.int .i64 o).wf = true) (_ : (Lit.int .i64 q).wf = true) (_ : t.size ≤ maxLen) (_ : l.size ≤ maxLen) (_ : (Lit.int .i64 m).wf = true) (_ : s.size ≤ 140737488351232) :
    ∃ k, rivuletlaw06_EventBack.f k o q t l m ms s = some true := by
  refine ⟨200, ?_⟩
  have hm : 0 ≤ mn (ms.length : Int) 40 ∧ mn (ms.length : Int) 40 ≤ ms.length ∧ mn (ms.length : Int) 40 ≤ 40 := by unfold mn; split <;> omega
  have hn : 0 ≤ mn (s.size : Int) 300 ∧ mn (s.size : Int) 300 ≤ s.size ∧ mn (s.size : Int) 300 ≤ 300 := by unfold mn; split <;> omega
  unfold rivuletlaw06_EventBack.f
  obtain ⟨t', l', ht, hl, e⟩ := cut_f o q t l m
  rw [e, Option.bind_some, if_pos hm.1, if_pos hm.2.1, Option.bind_some, if_pos hn.1, if_pos hn.2.1]
  clear e
  have hms : (ms.take ((mn (ms.length : Int) 40) : Int).toNat).length ≤ 40 := by rw [List.length_take]; omega
  have hs : (s.extract 0 ((mn (s.size : Int) 300) : Int).toNat).size ≤ 300 := by rw [ByteArray.size_extract]; omega
  generalize ms.take ((mn (ms.length : Int) 40) : Int).toNat = ms at *
  generalize s.extract 0 ((mn (s.size : Int) 300) : Int).toNat = s at *
  simp only []
  rw [er o q t' l' m (by omega), Option.bind_some]
  have hend := back0 (k := 200) (by omega) ms hms s hs
  cases hr : rightE o q t' l' m with
  | false => rw [if_neg (by decide)]; exact hend
  | true =>
    have hP : putB o q t' l' m = strOfNums (putE o q t' l' m) := by unfold putB; rw [hr]; rfl
    have hsz : (strOfNums (putE o q t' l' m)).size = (putE o q t' l' m).length := strOfNums_size _
    have hz : (putE o q t' l' m).length ≤ 900 := by
      unfold putE
      simp only [List.length_append, enc_length, size_bytes]
      have := sz_bd o
      have := sz_bd q
      have := sz_bd m
      have := sz_bd t'.size
      have := sz_bd l'.size
      omega
    rw [if_pos rfl, show event_Put.f o q t' l' m = some (putB o q t' l' m) from if_pos ⟨by omega, by omega⟩, Option.bind_some, hP, if_pos (by omega), if_pos (by rw [ByteArray.size_append]; omega)]
    have hd : (bytesOf ((s ++ strOfNums (putE o q t' l' m)) ++ s)).drop s.size = putE o q t' l' m ++ bytesOf s := by
      rw [bytes_append, bytes_append, bytes_son (putE_by' hr), List.append_assoc, ← size_bytes s, List.drop_left]
    have hg := getE_put hr (by omega) hd
    rw [show event_Get.f ((s ++ strOfNums (putE o q t' l' m)) ++ s) (s.size : Int) = some (o, q, t', l', m, (((s.size + (putE o q t' l' m).length : Nat)) : Int), 0) from (if_pos (by rw [ByteArray.size_append, ByteArray.size_append]; omega)).trans (by rw [hg]), Option.bind_some]
    simp only []
    rw [if_pos trivial, if_neg (by simp), if_pos (by rw [hsz, w64 (by omega)]; omega)]
    exact hend
end Go.Proofs.YtdoaomoocikmaaaDoor.Pure
