import Derived.Test.YtdoaomoocikmaaaDoorKCuts38
import Derived.Test.YtdoaomoocikmaaaDoorKCuts41
import Derived.Test.YtdoaomoocikmaaaDoorKCuts42
namespace Go.Proofs.YtdoaomoocikmaaaDoor.Pure
open Go Go.RowKit Go.Proofs.YtdoaomoocikmaaaDoor Go.Proofs.YtdoaomoocikmaaaDoor.VP Go.Proofs.YtdoaomoocikmaaaDoor.VF Go.Proofs.YtdoaomoocikmaaaDoor.EB Go.Proofs.YtdoaomoocikmaaaDoor.EW Go.Proofs.YtdoaomoocikmaaaDoor.ER Go.Proofs.YtdoaomoocikmaaaDoor.EP Go.Proofs.YtdoaomoocikmaaaDoor.Pr Go.Proofs.YtdoaomoocikmaaaDoorW.PrintWords
theorem putE_by {o q : Int} {t l : ByteArray} {m : Int} (hr : rightE o q t l m = true) : By (putE o q t l m) := by
  obtain ⟨⟨o0, o1⟩, ⟨q0, q1⟩, ⟨m0, m1⟩, _, l1⟩ := rbd hr
  unfold putE
  exact (enc_by o0).append ((enc_by (by omega)).append ((enc_by m0).append (((enc_by (by omega)).append (bytes_by t)).append ((enc_by (by omega)).append (bytes_by l)))))
theorem marksE_by {l : List (Int × Int)} (h : sortedB l = true) : By (marksE l) := (enc_by (by omega)).append (encM_by l (sorted_all h).2)
theorem putE_pos (o q : Int) (t l : ByteArray) (m : Int) : 0 < (putE o q t l m).length := by
  unfold putE
  rw [List.length_append, enc_length]
  have := sz_bd o
  omega
theorem marksE_pos (l : List (Int × Int)) : 0 < (marksE l).length := by
  unfold marksE
  rw [List.length_append, enc_length]
  have := sz_bd l.length
  omega
theorem cut_son {e : List Int} (he : By e) (j : Nat) : (bytesOf ((strOfNums e).extract 0 ((j : Int)).toNat)).drop 0 = e.take j := by
  rw [bytes_extract, bytes_son he]
  simp
theorem cuts_end {k : Nat} (hk : 10 ≤ k) (s : List MK) (hs : s.length ≤ 40) (x : Int) (o q : Int) (t l : ByteArray) (m : Int) (ht : t.size ≤ 200) (hl : l.size ≤ 200) :
    rivuletlaw06_EventCuts.j0 k s x (putB o q t l m) (marksB (unM s)) o q t l m = some true := by
  obtain ⟨k, rfl⟩ : ∃ j, k = j + 1 := ⟨k - 1, by omega⟩
  simp only [rivuletlaw06_EventCuts.j0]
  have hx := bits_nonneg x
  have hfix : ((rivuletlaw06_fixed.f k).bind fun c => some c) = some true := by rw [fixed_true (by omega)]; rfl
  have hp : rightE o q t l m = false → (putB o q t l m).toList = [] := fun h => by
    unfold putB
    rw [h, if_neg (by decide), toList_eq]
  rw [show event_Sorted.f s = some (sortedB (unM s)) from if_pos (by omega), Option.bind_some, er o q t l m (by omega)]
  cases hs2 : sortedB (unM s) with
  | true =>
    have hM : marksB (unM s) = strOfNums (marksE (unM s)) := by unfold marksB; rw [hs2]; rfl
    have hsz : (marksB (unM s)).size = (marksE (unM s)).length := by rw [hM, strOfNums_size]
    have hpos := marksE_pos (unM s)
    obtain ⟨j, hj, hj1⟩ := tmod_bd hx hpos
    rw [if_pos rfl, if_neg (by omega), hsz, hj, if_pos (by omega), if_pos (by omega)]
    have hz : (marksB (unM s)).size ≤ 900000 := by
      obtain ⟨b1, _⟩ := sorted_all hs2
      have := encM_len (unM s)
      rw [hsz]
      unfold marksE
      rw [List.length_append, enc_length]
      have := sz_bd (unM s).length
      omega
    have h3 := cutE_short (s := (marksB (unM s)).extract 0 ((j : Int)).toNat) (p := 0) hs2 (by omega) hj1 (by rw [hM]; exact cut_son (marksE_by hs2) j)
    rw [show event_Cut.f ((marksB (unM s)).extract 0 ((j : Int)).toNat) 0 = some (reM (cutE ((marksB (unM s)).extract 0 ((j : Int)).toNat) 0).1, (cutE ((marksB (unM s)).extract 0 ((j : Int)).toNat) 0).2.1, (cutE ((marksB (unM s)).extract 0 ((j : Int)).toNat) 0).2.2) from if_pos (by rw [ByteArray.size_extract]; omega), Option.bind_some]
    rw [if_pos (show (cutE ((marksB (unM s)).extract 0 ((j : Int)).toNat) 0).2.2 = 3 from h3), Option.bind_some]
    cases hr : rightE o q t l m with
    | true => rw [if_pos rfl]; exact hfix
    | false => rw [if_neg (by decide), if_pos (hp hr)]; exact hfix
  | false =>
    have hM : (marksB (unM s)).toList = [] := by unfold marksB; rw [hs2, if_neg (by decide), toList_eq]
    rw [if_neg (by decide), Option.bind_some]
    cases hr : rightE o q t l m with
    | true => rw [if_pos rfl, if_pos hM]; exact hfix
    | false => rw [if_neg (by decide), if_pos (hp hr), if_pos hM]; exact hfix
theorem EventCuts (o q : Int) (t l : ByteArray) (m : Int) (s : List MK) (x : Int) (_ : (Lit.int .i64 o).wf = true) (_ : (Lit.int .i64 q).wf = true) (_ : t.size ≤ maxLen) (_ : l.size ≤ maxLen) (_ : (Lit.int .i64 m).wf = true) (_ : (Lit.int .i64 x).wf = true) :
    ∃ k, rivuletlaw06_EventCuts.f k o q t l m s x = some true := by
  refine ⟨100, ?_⟩
  have hm : 0 ≤ mn (s.length : Int) 40 ∧ mn (s.length : Int) 40 ≤ s.length ∧ mn (s.length : Int) 40 ≤ 40 := by unfold mn; split <;> omega
  have hx := bits_nonneg x
  unfold rivuletlaw06_EventCuts.f
  obtain ⟨t', l', ht, hl, e⟩ := cut_f o q t l m
  rw [e, Option.bind_some, if_pos hm.1, if_pos hm.2.1, Option.bind_some]
  clear e
  have hs : (s.take ((mn (s.length : Int) 40) : Int).toNat).length ≤ 40 := by rw [List.length_take]; omega
  generalize s.take ((mn (s.length : Int) 40) : Int).toNat = s at *
  simp only []
  rw [show event_Put.f o q t' l' m = some (putB o q t' l' m) from if_pos ⟨by omega, by omega⟩, Option.bind_some, show event_Marks.f s = some (marksB (unM s)) from if_pos (by omega), Option.bind_some, er o q t' l' m (by omega), Option.bind_some]
  have hend := cuts_end (k := 100) (by omega) s hs x o q t' l' m ht hl
  cases hr : rightE o q t' l' m with
  | false => rw [if_neg (by decide)]; exact hend
  | true =>
    have hP : putB o q t' l' m = strOfNums (putE o q t' l' m) := by unfold putB; rw [hr]; rfl
    have hsz : (putB o q t' l' m).size = (putE o q t' l' m).length := by rw [hP, strOfNums_size]
    have hpos := putE_pos o q t' l' m
    obtain ⟨j, hj, hj1⟩ := tmod_bd hx hpos
    rw [if_pos rfl, if_neg (by omega), hsz, hj, if_pos (by omega), if_pos (by omega)]
    have hz : (putB o q t' l' m).size ≤ 900000 := by
      rw [hsz]
      unfold putE
      simp only [List.length_append, enc_length, size_bytes]
      have := sz_bd o
      have := sz_bd q
      have := sz_bd m
      have := sz_bd t'.size
      have := sz_bd l'.size
      omega
    have h3 := getE_short (s := (putB o q t' l' m).extract 0 ((j : Int)).toNat) (p := 0) hr (by omega) (by omega) hj1 (by rw [hP]; exact cut_son (putE_by hr) j)
    rw [show event_Get.f ((putB o q t' l' m).extract 0 ((j : Int)).toNat) 0 = some (getE ((putB o q t' l' m).extract 0 ((j : Int)).toNat) 0) from if_pos (by rw [ByteArray.size_extract]; omega), Option.bind_some, if_pos (show (getE ((putB o q t' l' m).extract 0 ((j : Int)).toNat) 0).2.2.2.2.2.2 = 3 from h3)]
    exact hend
end Go.Proofs.YtdoaomoocikmaaaDoor.Pure
