import Derived.Test.YtkiepnmbimkadaaKRecovers4
import Derived.Test.YtkiepnmbimkadaaKRecovers5
import Derived.Test.YtkiepnmbimkadaaKRecovers6
namespace Go.Proofs.Ytkiepnmbimkadaa.DK
open Go.RowKit Go.Proofs.Ytkiepnmbimkadaa
theorem max2_int (k k' : IntKind) (x y : Int) : Builtin.max2 (.int k x) (.int k' y) = pure (.int k (if x < y then y else x)) := by simp only [Builtin.max2, gt_iff_lt]
theorem min2_int (k k' : IntKind) (x y : Int) : Builtin.min2 (.int k x) (.int k' y) = pure (.int k (if y < x then y else x)) := by simp only [Builtin.min2]
theorem max_two (ats : Array TypeId) (ty : TypeId) (a b : Value) : Builtin.max_ ats ty #[a, b] = (Builtin.max2 a b >>= fun s => pure s) := by simp only [Builtin.max_, List.foldlM_cons, List.foldlM_nil]
theorem min_two (ats : Array TypeId) (ty : TypeId) (a b : Value) : Builtin.min_ ats ty #[a, b] = (Builtin.min2 a b >>= fun s => pure s) := by simp only [Builtin.min_, List.foldlM_cons, List.foldlM_nil]
attribute [local go_sem] max2_int min2_int max_two min_two
theorem At.other4 {w : World} {A L : Nat} {W : Value} {n k : Four} {l : List Wr} (h : At w A W n k l) (h1 : A ≠ L) (h2 : W.ownBlock ≠ some L) (r : Four) :
    At ((((w.setCell ⟨L, 0, none⟩ (.string r.a)).setCell ⟨L, 1, none⟩ (.string r.b)).setCell ⟨L, 2, none⟩ (.string r.c)).setCell ⟨L, 3, none⟩ (.string r.d)) A W n k l :=
  ⟨by rw [Below.heap_setCell _ _ _ _ h1, Below.heap_setCell _ _ _ _ h1, Below.heap_setCell _ _ _ _ h1, Below.heap_setCell _ _ _ _ h1]; exact h.cells,
   h.row.kept (row := some L) ⟨rfl, rfl, rfl, by simp [World.setCell], fun j _ hj => by
     have hj2 : j ≠ L := fun e => hj (by rw [e])
     rw [Below.heap_setCell _ _ _ _ hj2, Below.heap_setCell _ _ _ _ hj2, Below.heap_setCell _ _ _ _ hj2, Below.heap_setCell _ _ _ _ hj2]⟩ (.inr h2), h.apart⟩
theorem block4 {w : World} {L : Nat} {a b c d : Value} (h : w.heap[L]? = some (.cells #[a, b, c, d] 58 (0, 0))) (r : Four) :
    ((((w.setCell ⟨L, 0, none⟩ (.string r.a)).setCell ⟨L, 1, none⟩ (.string r.b)).setCell ⟨L, 2, none⟩ (.string r.c)).setCell ⟨L, 3, none⟩ (.string r.d)).heap[L]? = some (.cells #[.string r.a, .string r.b, .string r.c, .string r.d] 58 (0, 0)) :=
  (set_self (set_self (set_self (set_self h)))).trans (by simp)
theorem Keeps.setNew {w w' : World} {A L : Nat} {W : Value} (h : Keeps w w' A W) (hL : w.heap.size ≤ L) (j : Nat) (v : Value) : Keeps w (w'.setCell ⟨L, j, none⟩ v) A W :=
  ⟨h.os, h.tape, h.output, by rw [set_size]; exact h.size, fun k hk ha hw => (Below.heap_setCell _ _ _ _ (by show k ≠ L; omega)).trans (h.block k hk ha hw)⟩
theorem Keeps.after {w w1 w2 : World} {A : Nat} {W : Value} (h2 : Keeps w1 w2 A W) (h1 : Keeps w w1 A W) : Keeps w w2 A W :=
  ⟨h2.os.trans h1.os, h2.tape.trans h1.tape, h2.output.trans h1.output, Nat.le_trans h1.size h2.size, fun k hk ha hw => (h2.block k (Nat.lt_of_lt_of_le hk h1.size) ha hw).trans (h1.block k hk ha hw)⟩
theorem stays_cut {x : Wr} {l : List Wr} {left : Nat} {r : Four} (h : x.whole = true ∧ min left x.units < x.units) : stays (x :: l) left r = r := by
  show (if _ then _ else _) = _
  rw [if_pos h]
theorem stays_on {x : Wr} {l : List Wr} {left : Nat} {r : Four} (h : ¬ (x.whole = true ∧ min left x.units < x.units)) : stays (x :: l) left r = stays l (left - min left x.units) (x.act r (min left x.units)) := by
  show (if _ then _ else _) = _
  rw [if_neg h]
def staysN (u : Int) (t : Nat) : Nat := (max 0 (min u (t : Int))).toNat
set_option maxHeartbeats 8000000 in
theorem crash_walk {w : World} {A : Nat} {W : Value} {n k : Four} {l : List Wr} (h : At w A W n k l) (hf : Fine n k l) (u : Int) :
    Calls Try.prog 17 #[.pointer (some ⟨A, 0, none⟩), .int .i64 u] w fun e w' => e = .returned (.int .i64 (staysN u (unitsOf l))) ∧
      At w' A (.slice none 0 0) (stays l (staysN u (unitsOf l)) k) (stays l (staysN u (unitsOf l)) k) [] ∧ Keeps w w' A W := by
  obtain ⟨o, c, rfl⟩ := own_form h.row
  have hul := unitsOf_le l hf.ok
  have hln := hf.len
  have huw := units_walk h (by omega) (by omega)
  obtain ⟨m, hm⟩ : ∃ m : Int, (if (unitsOf l : Int) < u then (unitsOf l : Int) else u) = m := ⟨_, rfl⟩
  obtain ⟨T, hT⟩ : ∃ T : Nat, (if 0 < m then m else 0) = (T : Int) := ⟨(if 0 < m then m else 0).toNat, by split <;> omega⟩
  have hTT : staysN u (unitsOf l) = T := by
    unfold staysN
    have : (max 0 (min u (unitsOf l : Int))) = (T : Int) := by
      rw [← hT, ← hm]
      (repeat' split) <;> omega
    rw [this]
    rfl
  rw [hTT]
  clear hTT
  have hA := h.lt
  go_enter Try.func17, Try.ntmps17
  go_wp2_with (go_at_call 11; refine huw.mono ?_; rintro e w2 ⟨rfl, hb⟩
               have h2 := h.below hb
               have hA2 := h2.lt
               have c4 : w2.cell? ⟨A, 4, none⟩ = some (.string k.a) := h2.cell 4
               have c5 : w2.cell? ⟨A, 5, none⟩ = some (.string k.b) := h2.cell 5
               have c6 : w2.cell? ⟨A, 6, none⟩ = some (.string k.c) := h2.cell 6
               have c7 : w2.cell? ⟨A, 7, none⟩ = some (.string k.d) := h2.cell 7
               have c8 : w2.cell? ⟨A, 8, none⟩ = some (.slice o l.length c) := h2.cell 8)
  have hs2 := hb.size
  clear c4 c5 c6 c7 c8
  have hWlt := Lib.hid (fun b e => (h.row.lt b e).2 : ∀ b, (Value.slice o l.length c).ownBlock = some b → b < w.heap.size)
  have hgo0 := Lib.hid (show stays (l.drop 0) T k = stays l T k by rw [List.drop_zero])
  go_loopw [5, 26] (fun v5 v26 wr => ∃ (j : Nat) (left : Nat) (r : Four), j ≤ l.length ∧ v26 = .int .i64 j ∧ v5 = .int .i64 left ∧ left ≤ unitsOf l ∧ Hid (stays (l.drop j) left r = stays l T k) ∧ (∀ i, (r.at i).size ≤ 65536 * (j + 1)) ∧
    wr.heap[w2.heap.size]? = some (.cells #[.string r.a, .string r.b, .string r.c, .string r.d] 58 (0, 0)) ∧ At wr A (.slice o l.length c) n k l ∧ Keeps w wr A (.slice o l.length c)) (fun _ i _ => l.length - (intOf i).toNat)
  case atStart => exact ⟨0, T, k, Nat.zero_le _, rfl, rfl, by rw [← Int.ofNat_le, ← hT, ← hm]; (repeat' split) <;> omega, hgo0, fun i => by have := hf.kept i; omega, heap_alloc_new w2 _, h2.alloc _, ((Keeps.refl w A _).below hb).alloc _⟩
  case round =>
    obtain ⟨j, left, r, hj, rfl, rfl, hle, hgo, hsz, hL, hAt, hK⟩ := hrel
    have hLs : w2.heap.size < wr.heap.size := (Array.getElem?_eq_some_iff.1 hL).1
    have e0 : wr.cell? ⟨w2.heap.size, 0, none⟩ = some (.string r.a) := by simp [World.cell?, hL]
    have e1 : wr.cell? ⟨w2.heap.size, 1, none⟩ = some (.string r.b) := by simp [World.cell?, hL]
    have e2 : wr.cell? ⟨w2.heap.size, 2, none⟩ = some (.string r.c) := by simp [World.cell?, hL]
    have e3 : wr.cell? ⟨w2.heap.size, 3, none⟩ = some (.string r.d) := by simp [World.cell?, hL]
    have c0 : wr.cell? ⟨A, 0, none⟩ = some (.string n.a) := hAt.cell 0
    have c1 : wr.cell? ⟨A, 1, none⟩ = some (.string n.b) := hAt.cell 1
    have c2 : wr.cell? ⟨A, 2, none⟩ = some (.string n.c) := hAt.cell 2
    have c3 : wr.cell? ⟨A, 3, none⟩ = some (.string n.d) := hAt.cell 3
    have hAr := hAt.lt
    have f0 := hAt.frozen 0
    have f1 := hAt.frozen 1
    have f2 := hAt.frozen 2
    have f3 := hAt.frozen 3
    by_cases hlt : j < l.length
    · rcases hAt.wr with ⟨hnil, he⟩ | ⟨g, cap, hsl, hg, hc⟩
      · rw [he] at hlt
        simp at hlt
      obtain ⟨ho, _, hcc⟩ := Value.slice.inj hsl
      subst ho
      subst hcc
      have hcj := hc j hlt
      have hx := hf.ok _ (List.getElem_mem hlt)
      have hdr : l.drop j = l[j]'hlt :: l.drop (j + 1) := List.drop_eq_getElem_cons hlt
      rw [hdr] at hgo
      generalize l[j]'hlt = x at *
      clear hc hsl hdr huw h h2 hm hT
      rcases wr_units x with ⟨e, hw⟩ | ⟨e, hw⟩
      · rw [e] at hcj
        have hwh := whole_walk x
        rw [e, hw] at hwh
        have hun := units_instead x.file x.s
        by_cases hz : left = 0
        · subst hz
          go_wp2_with (first | (go_at_call 100; refine (hun _).mono ?_; rintro e w4 ⟨rfl, rfl⟩) | (go_at_call 41; refine (hwh _).mono ?_; rintro e w4 ⟨rfl, rfl⟩))
          have hfin : stays l T k = r := by
            rw [← hgo.out]
            exact stays_cut ⟨hw, by unfold Wr.units; rw [if_pos hw]; omega⟩
          clear hgo hun hwh hcj hle hsz
          obtain ⟨b, hbq, hbr⟩ := eq_four n r
          have hbr := Lib.hid hbr
          have hfin := Lib.hid hfin
          go_region
          cases b
          · go_wp2_with (go_at_call 40; refine (sync_walk (A := A) (W := .slice (some ⟨g, 0, none⟩) l.length c) (n := r) (k := k) (l := l) (by repeat (first | exact hAt | apply At.store4 | apply At.drew | apply At.alloc))).mono ?_; rintro e w5 ⟨rfl, hAt5, hK5⟩)
            go_returns
            exact ⟨rfl, by rw [hfin.out]; exact hAt5, hK5.after (by repeat (first | exact hK | apply Keeps.setCell | apply Keeps.drew | apply Keeps.alloc))⟩
          · obtain rfl := hbr.out rfl
            go_wp2_with (go_at_call 40; refine (sync_walk (A := A) (W := .slice (some ⟨g, 0, none⟩) l.length c) (n := n) (k := k) (l := l) (by repeat (first | exact hAt | apply At.drew | apply At.alloc))).mono ?_; rintro e w5 ⟨rfl, hAt5, hK5⟩)
            go_returns
            exact ⟨rfl, by rw [hfin.out]; exact hAt5, hK5.after (by repeat (first | exact hK | apply Keeps.setCell | apply Keeps.drew | apply Keeps.alloc))⟩
        · have h1 : (if (1 : Int) < left then 1 else (left : Int)) = 1 := by split <;> omega
          have h1b : (if 1 < left then (1 : Int) else (left : Int)) = 1 := by split <;> omega
          have hu1 : x.units = 1 := by unfold Wr.units; rw [if_pos hw]
          have hmin : min left x.units = 1 := by rw [hu1]; omega
          have hact : x.act r 1 = r.to x.file x.s := by unfold Wr.act; rw [if_pos hw, if_pos rfl]
          have hnx := hgo.out
          rw [stays_on (by rw [hmin, hu1]; omega), hmin, hact] at hnx
          have hnx := Lib.hid hnx
          have hsz2 := Lib.hid (fun i => by
            have := act_size x hx r (1) (b := 65536 * (j + 1)) hsz (by omega) i
            rw [hact] at this
            omega : ∀ i, ((r.to x.file x.s).at i).size ≤ 65536 * (j + 1 + 1))
          have hdo := fun w => do_instead ⟨hx.1, hx.2.1⟩ x.s r 1 w
          rw [if_pos rfl] at hdo
          unfold Four.val at hdo
          have hx := Lib.hid hx
          clear hu1 hmin hact hsz hgo c0 c1 c2 c3 f0 f1 f2 f3
          go_wp2_with (first
            | (go_at_call 100; refine (hun _).mono ?_; rintro e w4 ⟨rfl, rfl⟩)
            | (go_at_call 41; refine (hwh _).mono ?_; rintro e w4 ⟨rfl, rfl⟩)
            | (go_at_call 99; refine (hdo _).mono ?_; rintro e w4 ⟨rfl, hb4⟩
               have hL4 : w4.heap[w2.heap.size]? = some (.cells #[.string r.a, .string r.b, .string r.c, .string r.d] 58 (0, 0)) := (hb4.block _ (by simp; omega)).trans (by first | exact (Below.heap_alloc _ _ _ (by simp; omega)).trans ((Below.heap_alloc _ _ _ hLs).trans hL) | exact (Below.heap_alloc _ _ _ hLs).trans hL)
               have hAt4 : At w4 A (.slice (some ⟨g, 0, none⟩) l.length c) n k l := At.below (by repeat (first | exact hAt | apply At.drew | apply At.alloc)) hb4
               have hK4 : Keeps w w4 A (.slice (some ⟨g, 0, none⟩) l.length c) := Keeps.below (by repeat (first | exact hK | apply Keeps.drew | apply Keeps.alloc)) hb4
               have q0 : w4.cell? ⟨w2.heap.size, 0, none⟩ = some (.string r.a) := by simp [World.cell?, hL4]
               have q1 : w4.cell? ⟨w2.heap.size, 1, none⟩ = some (.string r.b) := by simp [World.cell?, hL4]
               have q2 : w4.cell? ⟨w2.heap.size, 2, none⟩ = some (.string r.c) := by simp [World.cell?, hL4]
               have q3 : w4.cell? ⟨w2.heap.size, 3, none⟩ = some (.string r.d) := by simp [World.cell?, hL4]
               have g0 : w4.frozen? ⟨w2.heap.size, 0, none⟩ = false := by simp [World.frozen?, hL4]
               have g1 : w4.frozen? ⟨w2.heap.size, 1, none⟩ = false := by simp [World.frozen?, hL4]
               have g2 : w4.frozen? ⟨w2.heap.size, 2, none⟩ = false := by simp [World.frozen?, hL4]
               have g3 : w4.frozen? ⟨w2.heap.size, 3, none⟩ = false := by simp [World.frozen?, hL4]))
          go_roundw
          case rel => exact ⟨j + 1, left - 1, r.to x.file x.s, by omega, by go_num, by congr 1; first | omega | (rw [IntWalk.wrap64_in _ (by omega)]; omega), by omega, hnx, hsz2.out, block4 hL4 _, hAt4.other4 (by omega) (fun e => by have := hWlt.out _ e; omega) _, (((hK4.setNew hs2 _ _).setNew hs2 _ _).setNew hs2 _ _).setNew hs2 _ _⟩
          case measure => simp [intOf]; omega
      · rw [e] at hcj
        have hwh := whole_walk x
        rw [e, hw] at hwh
        have hun := units_behind x.file x.s
        obtain ⟨m, hmm⟩ : ∃ m : Nat, min left x.s.size = m := ⟨_, rfl⟩
        have h1 : (if (x.s.size : Int) < left then (x.s.size : Int) else (left : Int)) = m := by split <;> omega
        have h1b : (if x.s.size < left then (x.s.size : Int) else (left : Int)) = m := by split <;> omega
        have hml : m ≤ left := by omega
        have hms : m ≤ x.s.size := by omega
        have hu1 : x.units = x.s.size := by unfold Wr.units; rw [if_neg (by simp [hw])]
        have hmin : min left x.units = m := by rw [hu1]; omega
        have hact : x.act r m = r.to x.file (r.at x.file ++ x.s.extract 0 m) := by unfold Wr.act; rw [if_neg (by simp [hw])]
        have hnx := hgo.out
        rw [stays_on (by rw [hw]; simp), hmin, hact] at hnx
        have hnx := Lib.hid hnx
        have hsz2 := Lib.hid (fun i => by
            have := act_size x hx r (m) (b := 65536 * (j + 1)) hsz (by omega) i
            rw [hact] at this
            omega : ∀ i, ((r.to x.file (r.at x.file ++ x.s.extract 0 m)).at i).size ≤ 65536 * (j + 1 + 1))
        have hdo := fun w => do_behind ⟨hx.1, hx.2.1⟩ x.s r m (by omega) (by omega) (by have := hsz x.file; have := hx.2.2; simp only [Int.toNat_natCast, ByteArray.size_extract]; omega) w
        rw [Int.toNat_natCast] at hdo
        unfold Four.val at hdo
        have hxs := hx.2.2
        have hx := Lib.hid hx
        clear hmm hu1 hmin hact hsz hgo c0 c1 c2 c3 f0 f1 f2 f3
        go_wp2_with (first
          | (go_at_call 102; refine (hun _).mono ?_; rintro e w4 ⟨rfl, rfl⟩)
          | (go_at_call 41; refine (hwh _).mono ?_; rintro e w4 ⟨rfl, rfl⟩)
          | (go_at_call 101; refine (hdo _).mono ?_; rintro e w4 ⟨rfl, hb4⟩
             have hL4 : w4.heap[w2.heap.size]? = some (.cells #[.string r.a, .string r.b, .string r.c, .string r.d] 58 (0, 0)) := (hb4.block _ (by simp; omega)).trans (by first | exact (Below.heap_alloc _ _ _ (by simp; omega)).trans ((Below.heap_alloc _ _ _ hLs).trans hL) | exact (Below.heap_alloc _ _ _ hLs).trans hL)
             have hAt4 : At w4 A (.slice (some ⟨g, 0, none⟩) l.length c) n k l := At.below (by repeat (first | exact hAt | apply At.drew | apply At.alloc)) hb4
             have hK4 : Keeps w w4 A (.slice (some ⟨g, 0, none⟩) l.length c) := Keeps.below (by repeat (first | exact hK | apply Keeps.drew | apply Keeps.alloc)) hb4
             have q0 : w4.cell? ⟨w2.heap.size, 0, none⟩ = some (.string r.a) := by simp [World.cell?, hL4]
             have q1 : w4.cell? ⟨w2.heap.size, 1, none⟩ = some (.string r.b) := by simp [World.cell?, hL4]
             have q2 : w4.cell? ⟨w2.heap.size, 2, none⟩ = some (.string r.c) := by simp [World.cell?, hL4]
             have q3 : w4.cell? ⟨w2.heap.size, 3, none⟩ = some (.string r.d) := by simp [World.cell?, hL4]
             have g0 : w4.frozen? ⟨w2.heap.size, 0, none⟩ = false := by simp [World.frozen?, hL4]
             have g1 : w4.frozen? ⟨w2.heap.size, 1, none⟩ = false := by simp [World.frozen?, hL4]
             have g2 : w4.frozen? ⟨w2.heap.size, 2, none⟩ = false := by simp [World.frozen?, hL4]
             have g3 : w4.frozen? ⟨w2.heap.size, 3, none⟩ = false := by simp [World.frozen?, hL4]))
        go_roundw
        case rel => exact ⟨j + 1, left - m, r.to x.file (r.at x.file ++ x.s.extract 0 m), by omega, by go_num, by congr 1; first | omega | (rw [IntWalk.wrap64_in _ (by omega)]; omega), by omega, hnx, hsz2.out, block4 hL4 _, hAt4.other4 (by omega) (fun e => by have := hWlt.out _ e; omega) _, (((hK4.setNew hs2 _ _).setNew hs2 _ _).setNew hs2 _ _).setNew hs2 _ _⟩
        case measure => simp [intOf]; omega
    · have hfin : stays l T k = r := by
        rw [← hgo.out, List.drop_eq_nil_of_le (by omega)]
        rfl
      clear hgo hle hsz
      obtain ⟨b, hbq, hbr⟩ := eq_four n r
      have hbr := Lib.hid hbr
      have hfin := Lib.hid hfin
      go_wp2
      go_region
      cases b
      · go_wp2_with (go_at_call 40; refine (sync_walk (A := A) (W := .slice o l.length c) (n := r) (k := k) (l := l) (by repeat (first | exact hAt | apply At.store4 | apply At.drew | apply At.alloc))).mono ?_; rintro e w5 ⟨rfl, hAt5, hK5⟩)
        go_returns
        exact ⟨rfl, by rw [hfin.out]; exact hAt5, hK5.after (by repeat (first | exact hK | apply Keeps.setCell | apply Keeps.drew | apply Keeps.alloc))⟩
      · obtain rfl := hbr.out rfl
        go_wp2_with (go_at_call 40; refine (sync_walk (A := A) (W := .slice o l.length c) (n := n) (k := k) (l := l) (by repeat (first | exact hAt | apply At.drew | apply At.alloc))).mono ?_; rintro e w5 ⟨rfl, hAt5, hK5⟩)
        go_returns
        exact ⟨rfl, by rw [hfin.out]; exact hAt5, hK5.after (by repeat (first | exact hK | apply Keeps.setCell | apply Keeps.drew | apply Keeps.alloc))⟩
end Go.Proofs.Ytkiepnmbimkadaa.DK
