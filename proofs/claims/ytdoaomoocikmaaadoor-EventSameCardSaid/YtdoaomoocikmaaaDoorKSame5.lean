import Derived.Lib.OthersKept
import Derived.Handy
import Derived.Deep.AppendLies
import Derived.Laws.OwnMore
import Derived.Test.YtdoaomoocikmaaaDoorKSame4
namespace Go.Proofs.YtdoaomoocikmaaaDoor.TW
open Go Go.RowKit Go.Proofs.YtdoaomoocikmaaaDoor Go.Proofs.YtdoaomoocikmaaaDoor.TP
def okc (c : Int) : Bool := decide ((97 ≤ c ∧ c ≤ 122) ∨ (48 ≤ c ∧ c ≤ 57) ∨ c = 45 ∨ c = 95)
set_option maxHeartbeats 2000000 in
theorem name1_walk (c : Int) (w : World) : Calls Tryd.prog 61 #[.int .i32 c] w fun e w' => e = .returned (.bool (okc c)) ∧ w = w' := by
  have hc : (97 ≤ c ∧ c ≤ 122) ∨ (¬ c ≤ 122 ∧ 97 ≤ c ∧ ¬ c ≤ 57 ∧ 48 ≤ c ∧ ¬ c = 45 ∧ ¬ c = 95) ∨ (¬ 97 ≤ c ∧ ¬ c ≤ 57 ∧ 48 ≤ c ∧ ¬ c = 45 ∧ ¬ c = 95) ∨ c = 95 ∨ (¬ 97 ≤ c ∧ 48 ≤ c ∧ c ≤ 57) ∨ (¬ 97 ≤ c ∧ ¬ 48 ≤ c ∧ ¬ c = 45 ∧ ¬ c = 95) ∨ c = 45 := by omega
  rcases hc with ⟨h1, h2⟩ | ⟨h1, h2, h3, h4, h5, h6⟩ | ⟨h1, h2, h3, h4, h5⟩ | rfl | ⟨h1, h2, h3⟩ | ⟨h1, h2, h3, h4⟩ | rfl
  · have e : okc c = true := by unfold okc; simp only [decide_eq_true_eq]; omega
    rw [e]; clear e
    go_enter Tryd.func61, Tryd.ntmps61
    go_wp2
    go_returns
    exact ⟨rfl, rfl⟩
  · have e : okc c = false := by unfold okc; simp only [decide_eq_false_iff_not]; omega
    rw [e]; clear e
    have b1 : (c == 45) = false := by simp; omega
    have b2 : (c == 95) = false := by simp; omega
    go_enter Tryd.func61, Tryd.ntmps61
    go_wp2
    go_returns
    exact ⟨rfl, rfl⟩
  · have e : okc c = false := by unfold okc; simp only [decide_eq_false_iff_not]; omega
    rw [e]; clear e
    have b1 : (c == 45) = false := by simp; omega
    have b2 : (c == 95) = false := by simp; omega
    go_enter Tryd.func61, Tryd.ntmps61
    go_wp2
    go_returns
    exact ⟨rfl, rfl⟩
  · go_enter Tryd.func61, Tryd.ntmps61
    go_wp2
    go_returns
    exact ⟨rfl, rfl⟩
  · have e : okc c = true := by unfold okc; simp only [decide_eq_true_eq]; omega
    rw [e]; clear e
    go_enter Tryd.func61, Tryd.ntmps61
    go_wp2
    go_returns
    exact ⟨rfl, rfl⟩
  · have e : okc c = false := by unfold okc; simp only [decide_eq_false_iff_not]; omega
    rw [e]; clear e
    have b1 : (c == 45) = false := by simp; omega
    have b2 : (c == 95) = false := by simp; omega
    go_enter Tryd.func61, Tryd.ntmps61
    go_wp2
    go_returns
    exact ⟨rfl, rfl⟩
  · go_enter Tryd.func61, Tryd.ntmps61
    go_wp2
    go_returns
    exact ⟨rfl, rfl⟩
set_option maxRecDepth 100000 in
theorem okc_nmc (b : UInt8) : okc (b.toNat : Int) = nmc b := by
  have h : ∀ n : Fin 256, okc ((UInt8.ofNat n.val).toNat : Int) = nmc (UInt8.ofNat n.val) := by decide
  have := h ⟨b.toNat, b.toNat_lt⟩
  simpa using this
theorem okc_high {n : Nat} (h : 128 ≤ n) : okc (n : Int) = false := by unfold okc; simp only [decide_eq_false_iff_not]; omega
theorem nm_bad {s : ByteArray} {i : Nat} (h : i < s.size) (hb : nmc (s[i]'h) = false) : nm s = false := by
  cases hn : nm s with
  | false => rfl
  | true =>
    unfold nm at hn
    simp only [Bool.and_eq_true, List.all_eq_true] at hn
    have := hn.1.1 (s[i]'h) (by simp [ByteArray.getElem_eq_getElem_data])
    rw [hb] at this
    cases this
set_option maxHeartbeats 2000000 in
theorem name_walk (s : ByteArray) (hs : s.size ≤ 1000000) (w : World) : Calls Tryd.prog 48 #[.string s] w fun e w' => e = .returned (.bool (nm s)) ∧ Below w.heap.size w w' := by
  go_enter Tryd.func48, Tryd.ntmps48
  go_wp2
  go_loopw [] (fun wr => ∃ pos : Nat, wr.heap[w.heap.size]? = some (.stringIter s pos) ∧ Below w.heap.size w wr ∧ pos ≤ s.size ∧ ∀ i (h : i < s.size), i < pos → nmc (s[i]'h) = true) (fun wr => s.size - wr.iterPos w.heap.size)
  case atStart => exact ⟨0, by have := World.iter_heap w s 0; simpa using this, (Below.refl _ w).alloc (Nat.le_refl _) _, Nat.zero_le _, fun i _ h => by omega⟩
  case round =>
    obtain ⟨pos, hit, hb, hps, hall⟩ := hrel
    by_cases hp : pos < s.size
    · by_cases ha : (s[pos]'hp).toNat < 128
      · have hnx : ∀ ty, (Instr.next (.pointer (some ⟨w.heap.size, 0, none⟩)) true ty).run Tryd.prog wr = _ := fun ty => Lib.run_next_ascii_at wr w.heap.size s pos ty hit hp ha
        have hit2 := Lib.iterAt_heap wr w.heap.size s pos (pos + 1) hit
        have hb2 := Lib.below_iterAt hb (k := w.heap.size) (Nat.le_refl _) s (pos + 1)
        have hok := name1_walk ((s[pos]'hp).toNat : Int)
        rw [okc_nmc] at hok
        cases hc : nmc (s[pos]'hp) with
        | true =>
          rw [hc] at hok
          generalize (s[pos]'hp).toNat = cc at *
          go_wp2_with (go_at_call 61; (with_reducible refine (hok _).mono ?_); rintro e w3 ⟨rfl, rfl⟩)
          go_roundw
          case rel => exact ⟨pos + 1, hit2, hb2, hp, fun i h hi => by
            by_cases e : i = pos
            · subst e; exact hc
            · exact hall i h (by omega)⟩
          case measure => simp only [World.iterPos, hit2, hit]; omega
        | false =>
          rw [hc] at hok
          have hbad := nm_bad hp hc
          generalize (s[pos]'hp).toNat = cc at *
          go_wp2_with (go_at_call 61; (with_reducible refine (hok _).mono ?_); rintro e w3 ⟨rfl, rfl⟩)
          go_returns
          exact ⟨by rw [hbad]; rfl, hb2⟩
      · have hd := decode_high s pos hp (by omega)
        have hnx : ∀ ty, (Instr.next (.pointer (some ⟨w.heap.size, 0, none⟩)) true ty).run Tryd.prog wr = _ := fun ty => Lib.run_next_any_at wr w.heap.size s pos ty hit hp
        have hb2 := Lib.below_iterAt hb (k := w.heap.size) (Nat.le_refl _) s (pos + (Utf8.decode s pos).2)
        have hok := name1_walk ((Utf8.decode s pos).1 : Int)
        rw [okc_high hd.1] at hok
        have hc : nmc (s[pos]'hp) = false := by
          rw [← okc_nmc, okc_high (by omega)]
        have hbad := nm_bad hp hc
        generalize (Utf8.decode s pos).1 = cc at *
        generalize (Utf8.decode s pos).2 = dd at *
        go_wp2_with (go_at_call 61; (with_reducible refine (hok _).mono ?_); rintro e w3 ⟨rfl, rfl⟩)
        go_returns
        exact ⟨by rw [hbad]; rfl, hb2⟩
    · have hnx : ∀ ty, (Instr.next (.pointer (some ⟨w.heap.size, 0, none⟩)) true ty).run Tryd.prog wr = _ := fun ty => Lib.run_next_end_at wr w.heap.size s pos ty hit hp
      have hal : s.data.toList.all nmc = true := by
        rw [List.all_eq_true]
        intro x hx
        obtain ⟨i, hi, rfl⟩ := List.getElem_of_mem hx
        have hi2 : i < s.size := by rw [Array.length_toList] at hi; exact hi
        have := hall i hi2 (by omega)
        simpa [ByteArray.getElem_eq_getElem_data] using this
      have hn : nm s = (decide (1 ≤ s.size) && decide (s.size ≤ 16)) := by unfold nm; rw [hal]; simp
      clear hal hall
      have hem : s.toList.isEmpty = decide (s.size = 0) := by
        rw [Lib.toList_data, Bool.eq_iff_iff, List.isEmpty_iff, decide_eq_true_eq, ← List.length_eq_zero_iff, Array.length_toList]
        rfl
      have hc : s.size = 0 ∨ (1 ≤ s.size ∧ s.size ≤ 16) ∨ 16 < s.size := by omega
      rcases hc with h0 | ⟨h1, h16⟩ | h16
      · have he : s.toList.isEmpty = true := by rw [hem]; simpa using h0
        replace hn : nm s = false := by rw [hn]; simp [h0]
        clear hem
        go_wp2
        go_returns
        exact ⟨by rw [hn]; rfl, hb⟩
      · have he : s.toList.isEmpty = false := by rw [hem, decide_eq_false_iff_not]; omega
        replace hn : nm s = true := by rw [hn]; simp [h1, h16]
        have g16 : (s.size : Int) ≤ 16 := by omega
        clear hem
        go_wp2
        go_returns
        exact ⟨by rw [hn]; rfl, hb⟩
      · have he : s.toList.isEmpty = false := by rw [hem, decide_eq_false_iff_not]; omega
        replace hn : nm s = false := by rw [hn]; simp; omega
        have g16 : ¬ (s.size : Int) ≤ 16 := by omega
        have g16b : ¬ s.size ≤ 16 := by omega
        clear hem
        go_wp2
        go_returns
        exact ⟨rfl, hb⟩
def SRow (w : World) (o : Option Addr) (l : List ByteArray) : Prop := ∀ j (hj : j < l.length), ∃ a, o = some a ∧ w.cell? (a.add j) = some (.string (l[j]'hj)) ∧ a.block < w.heap.size
theorem add0 (g : Nat) (j : Nat) : (⟨g, 0, none⟩ : Addr).add j = ⟨g, j, none⟩ := by
  unfold Addr.add
  split
  · rename_i h; rw [h]
  · simp
theorem add_block (a : Addr) (j : Nat) : (a.add j).block = a.block := by
  unfold Addr.add
  split <;> rfl
theorem SRow.below {w w2 : World} {o : Option Addr} {l : List ByteArray} (h : SRow w o l) (hb : Below w.heap.size w w2) : SRow w2 o l := fun j hj => by
  obtain ⟨a, ha, hc, hlt⟩ := h j hj
  exact ⟨a, ha, (hb.cell (by rw [add_block]; exact hlt)).trans hc, Nat.lt_of_lt_of_le hlt hb.size⟩
theorem SRow.own {w : World} {N : Nat} {o : Option Addr} {k : Nat} {l : List ByteArray} (h : w.ownsRow N 9 1 (.slice o l.length k) l.length (l.map Value.string)) : SRow w o l := fun j hj => by
  obtain ⟨g, cap, hf, _, hlt⟩ := h.form (by omega)
  obtain ⟨ho, _, hk⟩ := Value.slice.inj hf
  subst ho
  subst hk
  refine ⟨⟨g, 0, none⟩, rfl, ?_, hlt⟩
  rw [add0, h.cellAt j (by omega)]
  simp [hj]
theorem levels_calls (s : ByteArray) (hs : s.size ≤ 1000000) (w : World) :
    Calls Tryd.prog 45 #[.string s] w fun e w' => ∃ o k, e = .returned (.slice o (lv s).length k) ∧ SRow w' o (lv s) ∧ Below w.heap.size w w' := by
  refine (levels_walk s hs w).mono ?_
  rintro e w2 ⟨o, k, rfl, hr, hb⟩
  exact ⟨o, k, rfl, .own hr, hb⟩
set_option maxHeartbeats 1000000 in
theorem right1_walk (s : ByteArray) (hs : s.size ≤ 1000000) (w : World) : Calls Tryd.prog 47 #[.string s] w fun e w' => e = .returned (.bool (!nm s)) ∧ Below w.heap.size w w' := by
  go_enter Tryd.func47, Tryd.ntmps47
  go_wp2_with (go_at_call 48; (with_reducible refine (name_walk s hs _).mono ?_); rintro e w2 ⟨rfl, hb⟩)
  go_returns
  exact ⟨rfl, hb⟩
def badAt : List ByteArray → Int
  | [] => -1
  | x :: l => if nm x = false then 0 else if badAt l = -1 then -1 else badAt l + 1
theorem badAt_ge : ∀ l, -1 ≤ badAt l
  | [] => by simp [badAt]
  | x :: l => by
    have := badAt_ge l
    unfold badAt
    split
    · omega
    · split <;> omega
theorem badAt_all : ∀ l, (0 ≤ badAt l) ↔ l.all nm = false
  | [] => by simp [badAt]
  | x :: l => by
    have ih := badAt_all l
    have hg := badAt_ge l
    unfold badAt
    rw [List.all_cons]
    cases hx : nm x with
    | false => simp
    | true =>
      simp only [Bool.true_and]
      rw [if_neg (by simp), ← ih]
      split <;> omega
theorem badAt_drop : ∀ (l : List ByteArray) (j : Nat), (∀ i (h : i < l.length), i < j → nm (l[i]'h) = true) → (hj : j < l.length) → nm (l[j]'hj) = false → badAt l = j
  | [], j, _, hj, _ => by simp at hj
  | x :: l, 0, _, _, hb => by simp at hb; simp [badAt, hb]
  | x :: l, j + 1, ha, hj, hb => by
    have h0 := ha 0 (by simp) (by omega)
    simp at h0 hb
    have := badAt_drop l j (fun i h hi => by have := ha (i + 1) (by simp; omega) (by omega); simpa using this) (by simpa using hj) hb
    unfold badAt
    rw [if_neg (by simp [h0]), this, if_neg (by omega)]
    omega
theorem badAt_none : ∀ (l : List ByteArray), (∀ i (h : i < l.length), nm (l[i]'h) = true) → badAt l = -1
  | [], _ => rfl
  | x :: l, ha => by
    have h0 := ha 0 (by simp)
    simp at h0
    have := badAt_none l (fun i h => by have := ha (i + 1) (by simp; omega); simpa using this)
    unfold badAt
    rw [if_neg (by simp [h0]), if_pos this]
set_option maxHeartbeats 2000000 in
theorem indexf_walk {w : World} {o : Option Addr} {l : List ByteArray} (h : SRow w o l) (k : Nat) (hl : l.length ≤ 1000000) (hz : ∀ x ∈ l, x.size ≤ 1000000) :
    Calls Tryd.prog 60 #[.slice o l.length k, .func (.func 47) #[] #[]] w fun e w' => e = .returned (.int .i64 (badAt l)) ∧ Below w.heap.size w w' := by
  go_enter Tryd.func60, Tryd.ntmps60
  go_wp2
  go_loopw [8] (fun v8 wr => ∃ j : Nat, v8 = .int .i64 j ∧ j ≤ l.length ∧ Below w.heap.size w wr ∧ ∀ i (h : i < l.length), i < j → nm (l[i]'h) = true) (fun i _ => l.length - (intOf i).toNat)
  case atStart => exact ⟨0, rfl, Nat.zero_le _, Below.refl _ _, fun i _ h => by omega⟩
  case round =>
    obtain ⟨j, rfl, hj, hb, hall⟩ := hrel
    by_cases hlt : j < l.length
    · obtain ⟨a, rfl, ha, _⟩ := (h.below hb) j hlt
      have hx := hz (l[j]'hlt) (List.getElem_mem hlt)
      have hbad := badAt_drop l j hall hlt
      cases hn : nm (l[j]'hlt) with
      | true =>
        have hall2 : ∀ i (h : i < l.length), i < j + 1 → nm (l[i]'h) = true := fun i h hi => by
          by_cases e : i = j
          · subst e; exact hn
          · exact hall i h (by omega)
        have hr := fun w => right1_walk (l[j]'hlt) hx w
        rw [hn] at hr
        generalize l[j]'hlt = x at ha hr
        clear hbad hall h
        go_wp2_with (go_at_call 47; (with_reducible refine (hr _).mono ?_); rintro e w2 ⟨rfl, hb2⟩
                     have hb3 := hb.trans (hb2.mono hb.size))
        go_roundw
        case rel => exact ⟨j + 1, by go_num, by omega, hb3, hall2⟩
        case measure => simp [intOf]; omega
      | false =>
        replace hbad := hbad hn
        have hr := fun w => right1_walk (l[j]'hlt) hx w
        rw [hn] at hr
        generalize l[j]'hlt = x at ha hr
        clear hall h hn
        go_wp2_with (go_at_call 47; (with_reducible refine (hr _).mono ?_); rintro e w2 ⟨rfl, hb2⟩
                     have hb3 := hb.trans (hb2.mono hb.size))
        go_returns
        exact ⟨by rw [hbad]; rfl, hb3⟩
    · have hbad := badAt_none l (fun i h => hall i h (by omega))
      clear hall h
      go_wp2
      go_returns
      exact ⟨by rw [hbad]; rfl, hb⟩
set_option maxHeartbeats 1000000 in
theorem contains_walk {w : World} {o : Option Addr} {l : List ByteArray} (h : SRow w o l) (k : Nat) (hl : l.length ≤ 1000000) (hz : ∀ x ∈ l, x.size ≤ 1000000) :
    Calls Tryd.prog 46 #[.slice o l.length k, .func (.func 47) #[] #[]] w fun e w' => e = .returned (.bool (!l.all nm)) ∧ Below w.heap.size w w' := by
  have hi := indexf_walk h k hl hz
  have hb := badAt_all l
  have hq : decide (0 ≤ badAt l) = !l.all nm := by
    rw [Bool.eq_iff_iff, decide_eq_true_eq, hb]
    cases l.all nm <;> simp
  rw [← hq]
  generalize badAt l = b at *
  clear h hb hq
  go_enter Tryd.func46, Tryd.ntmps46
  go_wp2_with (go_at_call 60; (with_reducible refine hi.mono ?_); rintro e w2 ⟨rfl, hb2⟩)
  go_returns
  exact ⟨rfl, hb2⟩
theorem lv_size {s x : ByteArray} (h : x ∈ lv s) : x.size ≤ s.size := by
  have hj : ∀ (l : List (List UInt8)) (y : List UInt8), y ∈ l → y.length ≤ (join l).length := by
    intro l
    induction l with
    | nil => intro y hy; cases hy
    | cons z l ih =>
      intro y hy
      cases l with
      | nil => rw [List.mem_singleton.1 hy]; exact Nat.le_refl _
      | cons u l =>
        rw [join_cons _ _ (by simp), List.length_append, List.length_cons]
        rcases List.mem_cons.1 hy with e | e
        · rw [e]; omega
        · have := ih y e; omega
  unfold lv at h
  obtain ⟨y, hy, rfl⟩ := List.mem_map.1 h
  have := hj _ _ hy
  rw [join_split, Array.length_toList] at this
  exact this
set_option maxHeartbeats 1000000 in
theorem right_walk (s : ByteArray) (hs : s.size ≤ 900000) (w : World) : Calls Tryd.prog 32 #[.string s] w fun e w' => e = .returned (.bool (rightB s)) ∧ Below w.heap.size w w' := by
  have hll := lv_len s
  have hlc := levels_calls s (by omega) w
  have hz : ∀ x ∈ lv s, x.size ≤ 1000000 := fun x hx => by have := lv_size hx; omega
  unfold rightB
  generalize lv s = l at *
  by_cases h8 : l.length ≤ 8
  · have g8 : (l.length : Int) ≤ 8 := by omega
    have e : (decide (l.length ≤ 8) && l.all nm) = l.all nm := by simp [h8]
    rw [e]
    clear e
    have hco := fun (w : World) (o : Option Addr) (k : Nat) (h : SRow w o l) => contains_walk h k (by omega) hz
    generalize l.all nm = b at *
    clear hz
    go_enter Tryd.func32, Tryd.ntmps32
    go_wp2_with (first
      | (go_at_call 45; (with_reducible refine hlc.mono ?_); rintro e w2 ⟨o, k, rfl, hr, hb⟩)
      | (go_at_call 46; (with_reducible refine (hco _ _ _ hr).mono ?_); rintro e w3 ⟨rfl, hb2⟩
         have hb3 := hb.trans (hb2.mono hb.size)))
    go_returns
    exact ⟨by simp, hb3⟩
  · have g8 : ¬ (l.length : Int) ≤ 8 := by omega
    have e : (decide (l.length ≤ 8) && l.all nm) = false := by simp [h8]
    rw [e]
    clear e hz
    go_enter Tryd.func32, Tryd.ntmps32
    go_wp2_with (go_at_call 45; (with_reducible refine hlc.mono ?_); rintro e w2 ⟨o, k, rfl, hr, hb⟩)
    go_returns
    exact ⟨rfl, hb⟩
end Go.Proofs.YtdoaomoocikmaaaDoor.TW
