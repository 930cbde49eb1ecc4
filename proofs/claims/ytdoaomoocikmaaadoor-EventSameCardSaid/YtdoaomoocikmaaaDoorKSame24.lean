import Derived.Test.YtdoaomoocikmaaaDoorKSame16
import Derived.Test.YtdoaomoocikmaaaDoorKSame8
import Derived.Test.YtdoaomoocikmaaaDoorKSame13
import Derived.Test.YtdoaomoocikmaaaDoorKSame19
import Derived.Test.YtdoaomoocikmaaaDoorKSame6
import Derived.Test.YtdoaomoocikmaaaDoorKSame21
import Derived.Test.YtdoaomoocikmaaaDoorKSame23
import Derived.Test.YtdoaomoocikmaaaDoorKSame18
namespace Go.Proofs.YtdoaomoocikmaaaDoor.EB
open Go Go.RowKit Go.Proofs.YtdoaomoocikmaaaDoor Go.Proofs.YtdoaomoocikmaaaDoor.VP Go.Proofs.YtdoaomoocikmaaaDoor.VF Go.Proofs.YtdoaomoocikmaaaDoor.TP Go.Proofs.YtdoaomoocikmaaaDoor.TF Go.Proofs.YtdoaomoocikmaaaDoor.Pv Go.Proofs.YtdoaomoocikmaaaDoorW.PrintWords
def rightE (o s : Int) (t l : ByteArray) (m : Int) : Bool := decide (0 ≤ o ∧ o ≤ 1099511627776) && (decide (1 ≤ s ∧ s ≤ 1099511627776) && (decide (0 ≤ m ∧ m ≤ 1000) && (rightB t && decide (l.size ≤ 64))))
def putE (o s : Int) (t l : ByteArray) (m : Int) : List Int := enc o ++ (enc s ++ (enc m ++ ((enc t.size ++ bytesOf t) ++ (enc l.size ++ bytesOf l))))
def putB (o s : Int) (t l : ByteArray) (m : Int) : ByteArray := if rightE o s t l m = true then strOfNums (putE o s t l m) else ⟨#[]⟩
def numS (s : ByteArray) (a bad : Int) : Int × Int × Int := if bad ≠ 0 then (-1, a, bad) else if (VF.getS s a).2.2 ≠ 0 then (-1, a, (VF.getS s a).2.2) else (if 1099511627777 ≤ (VF.getS s a).1 then 1099511627777 else (VF.getS s a).1, (VF.getS s a).2.1, 0)
def textS (s : ByteArray) (a bad : Int) : ByteArray × Int × Int := if bad ≠ 0 then (⟨#[]⟩, a, bad) else if (VF.cutS s a).2.2 ≠ 0 then (⟨#[]⟩, a, (VF.cutS s a).2.2) else ((VF.cutS s a).1, (VF.cutS s a).2.1, 0)
def read5 (s : ByteArray) (a : Int) : Int × Int × Int × ByteArray × ByteArray × Int × Int :=
  let n1 := numS s a 0
  let n2 := numS s n1.2.1 n1.2.2
  let n3 := numS s n2.2.1 n2.2.2
  let t1 := textS s n3.2.1 n3.2.2
  let t2 := textS s t1.2.1 t1.2.2
  (n1.1, n2.1, n3.1, t1.1, t2.1, t2.2.1, t2.2.2)
def getE (s : ByteArray) (a : Int) : Int × Int × ByteArray × ByteArray × Int × Int × Int :=
  match read5 s a with
  | (o, q, m, t, l, to_, e) => if e ≠ 0 then (0, 0, ⟨#[]⟩, ⟨#[]⟩, 0, 0, e) else if rightE o q t l m = true then (o, q, t, l, m, to_, 0) else (0, 0, ⟨#[]⟩, ⟨#[]⟩, 0, 0, 4)
def srt : Int → List (Int × Int) → Bool
  | _, [] => true
  | last, m :: l => (decide (last < m.1) && decide (m.1 ≤ 1099511627776)) && ((decide (1 ≤ m.2) && decide (m.2 ≤ 1099511627776)) && srt m.1 l)
def sortedB (l : List (Int × Int)) : Bool := srt (-1) l && decide (l.length ≤ 32)
def encM : List (Int × Int) → List Int
  | [] => []
  | m :: l => (enc m.1 ++ enc m.2) ++ encM l
def marksE (l : List (Int × Int)) : List Int := enc l.length ++ encM l
def marksB (l : List (Int × Int)) : ByteArray := if sortedB l = true then strOfNums (marksE l) else ⟨#[]⟩
def readM (s : ByteArray) : Nat → Int → Int → List (Int × Int) × Int × Int
  | 0, a, bad => ([], a, bad)
  | n + 1, a, bad =>
    let n1 := numS s a bad
    let n2 := numS s n1.2.1 n1.2.2
    let r := readM s n n2.2.1 n2.2.2
    ((n1.1, n2.1) :: r.1, r.2)
def cutE (s : ByteArray) (a : Int) : List (Int × Int) × Int × Int :=
  let n := numS s a 0
  if n.1 > 32 then ([], 0, 2) else
  let r := readM s n.1.toNat n.2.1 n.2.2
  if r.2.2 ≠ 0 then ([], 0, r.2.2) else if sortedB r.1 = true then (r.1, r.2.1, 0) else ([], 0, 4)
theorem srt_head {last : Int} {l : List (Int × Int)} (h : srt last l = true) (h0 : -1 ≤ last) : ∀ m ∈ l, 0 ≤ m.1 ∧ m.1 ≤ 1099511627776 ∧ 1 ≤ m.2 ∧ m.2 ≤ 1099511627776 := by
  induction l generalizing last with
  | nil => intro m hm; cases hm
  | cons x l ih =>
    simp only [srt, Bool.and_eq_true, decide_eq_true_eq] at h
    intro m hm
    rcases List.mem_cons.1 hm with e | e
    · subst e; omega
    · exact ih h.2.2 (by omega) m e
theorem sorted_all {l : List (Int × Int)} (h : sortedB l = true) : l.length ≤ 32 ∧ ∀ m ∈ l, 0 ≤ m.1 ∧ m.1 ≤ 1099511627776 ∧ 1 ≤ m.2 ∧ m.2 ≤ 1099511627776 := by
  unfold sortedB at h
  simp only [Bool.and_eq_true, decide_eq_true_eq] at h
  exact ⟨h.2, srt_head h.1 (by omega)⟩
def MRow (w : World) (o : Option Addr) (l : List (Int × Int)) : Prop := l.length ≤ 4611686018427387904 ∧ ∀ j (h : j < l.length), ∃ a, o = some a ∧ a.block < w.heap.size ∧ w.cell? (a.add (j * 2)) = some (.int .i64 (l[j]'h).1) ∧ w.cell? (a.add (j * 2 + 1)) = some (.int .i64 (l[j]'h).2)
section
variable {w : World}
theorem within_f (a b c : Int) : event_within.f a b c = some (decide (b ≤ a ∧ a ≤ c)) := by
  unfold event_within.f
  by_cases h : a ≥ b
  · rw [if_pos h]
    congr 1
    rw [decide_eq_decide]
    omega
  · rw [if_neg h, decide_eq_false (by omega)]
theorem right_f (o s : Int) (t l : ByteArray) (m : Int) (ht : t.size ≤ 900000) : event_Right.f o s t l m = some (rightE o s t l m) := by
  unfold event_Right.f rightE
  rw [within_f, Option.bind_some]
  cases h1 : decide (0 ≤ o ∧ o ≤ 1099511627776) with
  | false => rw [if_neg (by decide)]; rfl
  | true =>
    rw [if_pos rfl, within_f, Option.bind_some]
    cases h2 : decide (1 ≤ s ∧ s ≤ 1099511627776) with
    | false => rw [if_neg (by decide)]; rfl
    | true =>
      rw [if_pos rfl, within_f, Option.bind_some]
      cases h3 : decide (0 ≤ m ∧ m ≤ 1000) with
      | false => rw [if_neg (by decide)]; rfl
      | true =>
        rw [if_pos rfl, show topic_Right.f t = some (rightB t) from if_pos ht, Option.bind_some]
        cases h4 : rightB t with
        | false => rw [if_neg (by decide)]; rfl
        | true =>
          rw [if_pos rfl]
          simp only [Bool.true_and, Option.some.injEq, decide_eq_decide]
          omega
theorem right_walk (o s : Int) (t l : ByteArray) (m : Int) (ht : t.size ≤ 900000) (w : World) :
    Calls Tryd.prog 11 #[.agg #[.int .i64 o, .int .i64 s, .string t, .string l, .int .i64 m]] w fun e w' => e = .returned (.bool (rightE o s t l m)) ∧ Below w.heap.size w w' :=
  event_Right.calls o s t l m _ w (right_f o s t l m ht)
theorem vput_walk (n : Int) (h0 : 0 ≤ n) (h1 : n ≤ 18446744073709551615) (w : World) : Calls Tryd.prog 35 #[.int .u64 n] w fun e w' => e = .returned (.string (strOfNums (enc n))) ∧ Below w.heap.size w w' :=
  varint_Put.calls 10 n _ w (put_enc h0 h1 (Nat.le_refl _))
theorem vtext_walk (s : ByteArray) (hs : s.size ≤ 140737488351232) (w : World) : Calls Tryd.prog 36 #[.string s] w fun e w' => e = .returned (.string (strOfNums (enc s.size) ++ s)) ∧ Below w.heap.size w w' :=
  varint_Text.calls 10 s _ w (text_enc hs (Nat.le_refl _))
theorem vget_walk (s : ByteArray) (hs : s.size ≤ 140737488351232) (a : Int) (w : World) : Calls Tryd.prog 55 #[.string s, .int .i64 a] w fun e w' => e = .returned (.tuple #[.int .u64 (VF.getS s a).1, .int .i64 (VF.getS s a).2.1, .int .i64 (VF.getS s a).2.2]) ∧ Below w.heap.size w w' :=
  varint_Get.calls 12 s a _ _ _ w (get_getS hs a (Nat.le_refl _))
theorem vcut_walk (s : ByteArray) (hs : s.size ≤ 140737488351232) (a : Int) (w : World) : Calls Tryd.prog 57 #[.string s, .int .i64 a] w fun e w' => e = .returned (.tuple #[.string (VF.cutS s a).1, .int .i64 (VF.cutS s a).2.1, .int .i64 (VF.cutS s a).2.2]) ∧ Below w.heap.size w w' :=
  varint_Cut.calls 12 s a _ _ _ w (cut_cutS hs a (Nat.le_refl _))
theorem get_bd {s : ByteArray} (a : Int) : 0 ≤ (VF.getS s a).1 := by
  rcases VF.getS_cases s a with h | h
  · rw [h.2.1]; exact Int.le_refl _
  · obtain ⟨n, p, _, h, _, _, h0, _⟩ := h
    rw [h]
    exact h0
theorem get_hi {s : ByteArray} (a : Int) : (VF.getS s a).1 ≤ 18446744073709551615 := by
  rcases VF.getS_cases s a with h | h
  · rw [h.2.1]; decide
  · obtain ⟨n, p, _, h, _, _, _, h1⟩ := h
    rw [h]
    exact h1
def mk (p : Int × Int) : S55 := ⟨p.1, p.2⟩
theorem rdT (l : List (Int × Int)) {i : Nat} (h : i < l.length) : rd_T55 (l.map mk) (i : Int) = mk (l[i]'h) := by
  unfold rd_T55
  rw [Int.toNat_natCast, List.getD_eq_getElem?_getD, List.getElem?_map, List.getElem?_eq_getElem h]
  rfl
theorem w1i {i : Nat} (h : i ≤ 4611686018427387904) : wrap64 ((i : Int) + 1) = ((i + 1 : Nat) : Int) := by rw [VF.w64 (by omega)]; rfl
theorem sorted_loop (L : List S55) (l : List (Int × Int)) (hl : l.length ≤ 4611686018427387904) (hL : L.length = l.length) : ∀ (d k i : Nat) (last : Int), i + d = l.length → d < k → event_Sorted.l0 k L last (l.map mk) (l.length : Int) i = some (srt last (l.drop i) && decide (l.length ≤ 32)) := by
  intro d
  induction d with
  | zero =>
    intro k i last hi hk
    obtain ⟨k, rfl⟩ : ∃ m, k = m + 1 := ⟨k - 1, by omega⟩
    simp only [event_Sorted.l0]
    rw [if_neg (by omega), List.drop_of_length_le (by omega), hL]
    simp only [srt, Bool.true_and, Option.some.injEq, decide_eq_decide]
    omega
  | succ d ih =>
    intro k i last hi hk
    obtain ⟨k, rfl⟩ : ∃ m, k = m + 1 := ⟨k - 1, by omega⟩
    have hil : i < l.length := by omega
    simp only [event_Sorted.l0]
    rw [if_pos (by omega), if_pos (by omega), if_pos (by rw [List.length_map]; omega), rdT l hil, w1i (by omega), within_f, Option.bind_some, List.drop_eq_getElem_cons hil]
    simp only [srt]
    generalize l[i]'hil = m
    show (if m.1 ≤ last then some false else if m.1 > 1099511627776 then some false else if decide (1 ≤ m.2 ∧ m.2 ≤ 1099511627776) = true then event_Sorted.l0 k L m.1 (l.map mk) (l.length : Int) ((i + 1 : Nat) : Int) else some false) = _
    by_cases h1 : m.1 ≤ last
    · rw [if_pos h1, decide_eq_false (show ¬ last < m.1 by omega)]
      rfl
    · rw [if_neg h1, decide_eq_true (show last < m.1 by omega)]
      by_cases h2 : m.1 > 1099511627776
      · rw [if_pos h2, decide_eq_false (show ¬ m.1 ≤ 1099511627776 by omega)]
        rfl
      · rw [if_neg h2, decide_eq_true (show m.1 ≤ 1099511627776 by omega)]
        by_cases h3 : 1 ≤ m.2 ∧ m.2 ≤ 1099511627776
        · rw [if_pos (decide_eq_true h3), decide_eq_true h3.1, decide_eq_true h3.2, ih k (i + 1) m.1 (by omega) (by omega)]
          simp
        · rw [if_neg (by simpa using h3)]
          by_cases h4 : 1 ≤ m.2
          · rw [decide_eq_true h4, decide_eq_false (show ¬ m.2 ≤ 1099511627776 from fun g => h3 ⟨h4, g⟩)]
            simp
          · rw [decide_eq_false h4]
            simp
theorem sorted_f (l : List (Int × Int)) (hl : l.length ≤ 4611686018427387904) {k : Nat} (hk : l.length < k) : event_Sorted.f k (l.map mk) = some (sortedB l) := by
  unfold event_Sorted.f sortedB
  have := sorted_loop (l.map mk) l hl (List.length_map _) l.length k 0 (-1) (by omega) hk
  rw [show ((0 : Nat) : Int) = 0 from rfl, List.drop_zero] at this
  rw [List.length_map]
  exact this
theorem son_size (l : List Int) : (strOfNums l).size = l.length := strOfNums_size l
theorem marks_loop (l : List (Int × Int)) (hl : l.length ≤ 32) (hb : ∀ m ∈ l, 0 ≤ m.1 ∧ m.1 ≤ 1099511627776 ∧ 1 ≤ m.2 ∧ m.2 ≤ 1099511627776) : ∀ (d k i : Nat) (acc : List Int), i + d = l.length → d + 12 < k → acc.length + d * 18 ≤ 100000 →
    event_Marks.l0 k (strOfNums acc) (l.map mk) (l.length : Int) i = some (strOfNums (acc ++ encM (l.drop i))) := by
  intro d
  induction d with
  | zero =>
    intro k i acc hi hk ha
    obtain ⟨k, rfl⟩ : ∃ m, k = m + 1 := ⟨k - 1, by omega⟩
    simp only [event_Marks.l0]
    rw [if_neg (by omega), List.drop_of_length_le (by omega)]
    simp [encM]
  | succ d ih =>
    intro k i acc hi hk ha
    obtain ⟨k, rfl⟩ : ∃ m, k = m + 1 := ⟨k - 1, by omega⟩
    have hil : i < l.length := by omega
    have hm := hb _ (List.getElem_mem hil)
    simp only [event_Marks.l0]
    rw [if_pos (by omega), if_pos (by omega), if_pos (by rw [List.length_map]; omega), rdT l hil, w1i (by omega), List.drop_eq_getElem_cons hil]
    generalize l[i]'hil = m at *
    rw [show (mk m).f0 = m.1 from rfl, show (mk m).f1 = m.2 from rfl, u64 (by omega), u64 (by omega), put_enc (by omega) (by omega) (by omega), Option.bind_some, put_enc (by omega) (by omega) (by omega), Option.bind_some]
    have z1 := sz_bd m.1
    have z2 := sz_bd m.2
    have y1 := enc_length m.1
    have y2 := enc_length m.2
    rw [if_pos (by rw [son_size, son_size]; omega), son_append, son_append, if_pos (by rw [son_size, son_size, List.length_append]; omega), ih k (i + 1) _ (by omega) (by omega) (by simp only [List.length_append]; omega)]
    simp only [encM, List.append_assoc]
theorem marks_f (l : List (Int × Int)) (hl : l.length ≤ 4611686018427387904) {k : Nat} (hk : l.length + 60 < k) : event_Marks.f k (l.map mk) = some (marksB l) := by
  unfold event_Marks.f marksB
  rw [sorted_f l hl (by omega), Option.bind_some]
  cases h : sortedB l with
  | false => rw [if_neg (by decide), if_neg (by decide)]
  | true =>
    obtain ⟨h1, h2⟩ := sorted_all h
    rw [if_pos rfl, if_pos rfl, List.length_map, u64 (by omega), put_enc (by omega) (by omega) (by omega), Option.bind_some]
    have := marks_loop l h1 h2 l.length k 0 (enc l.length) (by omega) (by omega) (by have := sz_bd l.length; rw [enc_length]; omega)
    rw [show ((0 : Nat) : Int) = 0 from rfl, List.drop_zero] at this
    exact this
theorem mk_C {o : Option Addr} {l : List (Int × Int)} (h : MRow w o l) : Kd.C k55 w o (l.map mk).length (l.map mk) := by
  refine ⟨rfl, by rw [List.length_map]; have := h.1; omega, fun hn => ?_⟩
  rw [List.length_map] at hn
  obtain ⟨a, ha, _, _⟩ := h.2 0 hn
  refine ⟨a, ha, fun j p hj => ?_⟩
  rw [List.getElem?_map] at hj
  obtain ⟨m, hm, rfl⟩ := Option.map_eq_some_iff.1 hj
  obtain ⟨hjl, rfl⟩ := List.getElem?_eq_some_iff.1 hm
  obtain ⟨a2, ha2, _, c0, c1⟩ := h.2 j hjl
  rw [ha] at ha2
  obtain rfl := Option.some.inj ha2
  refine ⟨_, rfl, k55_mk w _, fun i u hu => ?_⟩
  rw [show k55.sz = 2 from rfl]
  cases i with
  | zero => simp at hu; subst hu; exact c0
  | succ i =>
    cases i with
    | zero => simp at hu; subst hu; exact c1
    | succ i => simp at hu
theorem sorted_walk {o : Option Addr} {l : List (Int × Int)} (h : MRow w o l) {n c : Nat} (hn : l.length = n) (hc : n ≤ c) : Calls Tryd.prog 27 #[.slice o n c] w fun e w' => e = .returned (.bool (sortedB l)) ∧ Below w.heap.size w w' := by
  subst hn
  have := event_Sorted.calls (l.length + 1) o c (l.map mk) _ w (mk_C h) (by rw [List.length_map]; exact hc) (sorted_f l h.1 (by omega))
  rw [List.length_map] at this
  exact this
theorem marks_walk {o : Option Addr} {l : List (Int × Int)} (h : MRow w o l) {n c : Nat} (hn : l.length = n) (hc : n ≤ c) : Calls Tryd.prog 29 #[.slice o n c] w fun e w' => e = .returned (.string (marksB l)) ∧ Below w.heap.size w w' := by
  subst hn
  have := event_Marks.calls (l.length + 61) o c (l.map mk) _ w (mk_C h) (by rw [List.length_map]; exact hc) (marks_f l h.1 (by omega))
  rw [List.length_map] at this
  exact this
end
end Go.Proofs.YtdoaomoocikmaaaDoor.EB
