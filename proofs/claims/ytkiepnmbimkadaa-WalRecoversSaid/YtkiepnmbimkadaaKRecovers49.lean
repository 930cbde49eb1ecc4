import Derived.Outline
import Derived.Test.YtkiepnmbimkadaaKRecovers48
namespace Go.Proofs.Ytkiepnmbimkadaa.WL
open Go.RowKit Go.Proofs.Ytkiepnmbimkadaa Go.Proofs.Ytkiepnmbimkadaa.DK Go.Proofs.Ytkiepnmbimkadaa.Pr Go.Proofs.Ytkiepnmbimkadaa.VP Go.Proofs.Ytkiepnmbimkadaa.VF Go.Proofs.Ytkiepnmbimkadaa.CF Go.Proofs.Ytkiepnmbimkadaa.WF Go.Proofs.Ytkiepnmbimkadaa.ML
attribute [local go_sem] max2_int min2_int max_two min_two
def sS (hs : List Hx) : List Value := hs.map fun h => Value.string h.st
def sU (hs : List Hx) : List Value := hs.map fun h => Value.int .i64 h.u
def sL (hs : List Hx) : List (List ByteArray) := hs.map fun h => h.l
theorem sS_snoc (hs : List Hx) (h : Hx) : sS hs ++ [.string h.st] = sS (hs ++ [h]) := by simp [sS]
theorem sU_snoc (hs : List Hx) (h : Hx) : sU hs ++ [.int .i64 h.u] = sU (hs ++ [h]) := by simp [sU]
theorem sL_snoc (hs : List Hx) (h : Hx) : sL hs ++ [h.l] = sL (hs ++ [h]) := by simp [sL]
theorem infoI : (Try.prog.info? 3).map (fun i => (i.zero, i.size, i.bytes)) = some (some (.int .i64 0), 1, 8) := by kernel_rfl
theorem underI : Try.prog.underlying 32 = some (.slice 3) := by kernel_rfl
theorem infoR : (Try.prog.info? 30).map (fun i => (i.zero, i.size, i.bytes)) = some (some (.slice none 0 0), 1, 24) := by kernel_rfl
theorem underR : Try.prog.underlying 31 = some (.slice 30) := by kernel_rfl
section
variable {N : Nat} {w0 w w2 : World} {M : List Pc} {A L : Nat} {W V v : Value} {st st2 : St} {s s2 : LSt} {l : List OpM} {e : TypeId} {xs : List Value} {p q r : Pc}
theorem Lay.pl1 (h : Lay N w0 w (p :: pLog A W L V st s :: M)) : PL own LT w A W L V st s := h.hold (pLog A W L V st s) (by simp)
theorem Lay.pl2 (h : Lay N w0 w (p :: q :: pLog A W L V st s :: M)) : PL own LT w A W L V st s := h.hold (pLog A W L V st s) (by simp)
theorem Lay.pl3 (h : Lay N w0 w (p :: q :: r :: pLog A W L V st s :: M)) : PL own LT w A W L V st s := h.hold (pLog A W L V st s) (by simp)
theorem Lay.ops1 (h : Lay N w0 w (p :: pOps N v l :: M)) : OpsAt w N v l := h.hold (pOps N v l) (by simp)
theorem Lay.one (h : Lay N w0 w M) (x : Value) (e : TypeId) : Lay N w0 (w.alloc (.cells #[x] e)) (pRow N e (.slice (some ⟨w.heap.size, 0, none⟩) 1 1) [x] :: M) :=
  h.new (P := fun w' => w'.ownsRow N e 1 (.slice (some ⟨w.heap.size, 0, none⟩) 1 1) [x].length [x]) ((Below.refl _ _).alloc (Nat.le_refl _) _) (World.ownsRow_lit (base := N) (e := e) (size := 1) w #[x] 1 h.base (by decide) rfl) (row_foot ..) (fun k g => by
    have g2 : some w.heap.size = some k := g
    injection g2 with g3
    omega)
theorem Lay.oneRows (h : Lay N w0 w M) {w4 : World} {l : List ByteArray} {o : Option Addr} {c : Nat} (hb : Below w.heap.size w w4) (hr : w4.ownsRow w.heap.size 9 1 (.slice o l.length c) l.length (l.map Value.string)) :
    Lay N w0 (w4.alloc (.cells #[.slice o l.length c] 30)) (pRows N (.slice (some ⟨w4.heap.size, 0, none⟩) 1 1) [.slice o l.length c] [l] :: M) := by
  have hN := h.base
  have hs4 := hb.size
  refine h.new (P := fun w' => RowsAt N w' (.slice (some ⟨w4.heap.size, 0, none⟩) 1 1) [.slice o l.length c] [l]) (hb.alloc hs4 _) ⟨World.ownsRow_lit (base := N) (e := 30) (size := 1) w4 #[.slice o l.length c] 1 (by omega) (by decide) rfl, rfl, fun a ha => ?_, fun u hu k g g2 => ?_⟩ (RowsAt.foot ..) (fun k g => ?_)
  · match a, ha with
    | 0, ha => exact ⟨o, c, rfl, row_moved (row_base hr hN) (fun k g => Below.heap_alloc _ _ _ (hr.lt k g).2)⟩
    | a + 1, ha => simp at ha
  · simp at hu
    subst hu
    have := (hr.lt k g).2
    have g3 : some w4.heap.size = some k := g2
    injection g3 with g4
    omega
  · rcases g with g | ⟨u, hu, g⟩
    · have g2 : some w4.heap.size = some k := g
      injection g2 with g3
      omega
    · simp at hu
      subst hu
      exact (hr.lt k g).1
end
theorem text_len (r : Int) : ∀ l : List ByteArray, l.length ≤ (textS r l).size
  | [] => Nat.zero_le _
  | x :: l => by
    have h1 := text_len r l
    have h2 := rowB_size r x
    have h3 : (textS r (x :: l)).size = (rowB r x).size + (textS r l).size := ByteArray.size_append
    rw [h3, List.length_cons]
    omega
theorem units_nil {w : World} {A : Nat} {W : Value} {F G : Four} (h : At w A W F G []) : Calls Try.prog 11 #[.pointer (some ⟨A, 0, none⟩)] w fun e w' => e = .returned (.int .i64 0) ∧ Below w.heap.size w w' :=
  units_walk h (by decide) (by decide)
theorem sure_eq {w : World} {L A : Nat} {V : Value} {s : LSt} {x : Nat} (h : LAt LT w L A V s) (he : s.sure = x) : Calls Try.prog 19 #[.pointer (some ⟨L, 0, none⟩)] w fun e w2 => e = .returned (.int .i64 (x : Nat)) ∧ w = w2 := by
  have h1 := sure_walk h
  rw [he] at h1
  exact h1
theorem crash_eq {w : World} {A : Nat} {W : Value} {st : St} (h : At w A W st.n st.k st.l) {b : Nat} (hs : Sound b st) (hb : b ≤ 900) {k : Nat} (hk : k ≤ unitsOf st.l) {F : Four} (hF : stays st.l k st.k = F) :
    Calls Try.prog 17 #[.pointer (some ⟨A, 0, none⟩), .int .i64 k] w fun e w' => e = .returned (.int .i64 k) ∧ At w' A (.slice none 0 0) F F [] ∧ Keeps w w' A W := by
  have h1 := crash_walk h (hs.fine (by omega)) (k : Int)
  have e : staysN (k : Int) (unitsOf st.l) = k := by unfold staysN; omega
  rw [e, hF] at h1
  exact h1
theorem RowsAt.get {N : Nat} {w : World} {v : Value} {vs : List Value} {rs : List (List ByteArray)} (h : RowsAt N w v vs rs) {a : Nat} {l : List ByteArray} (ha : rs[a]? = some l) : ∃ o c, vs[a]? = some (.slice o l.length c) := by
  obtain ⟨hl, e⟩ := List.getElem?_eq_some_iff.1 ha
  subst e
  obtain ⟨o, c, e1, _⟩ := h.each a hl
  exact ⟨o, c, e1⟩
theorem RowsAt.got {N : Nat} {w : World} {v : Value} {vs : List Value} {rs : List (List ByteArray)} (h : RowsAt N w v vs rs) {a : Nat} {l : List ByteArray} (ha : rs[a]? = some l) {o : Option Addr} {c n : Nat} (hv : vs[a]? = some (.slice o n c)) : w.ownsRow N 9 1 (.slice o l.length c) l.length (l.map Value.string) := by
  obtain ⟨hl, e⟩ := List.getElem?_eq_some_iff.1 ha
  subst e
  obtain ⟨o2, c2, e1, e2⟩ := h.each a hl
  rw [hv] at e1
  injection e1 with e1
  injection e1 with e3 e4 e5
  subst e3
  subst e5
  exact e2
abbrev All (N : Nat) (w0 w : World) (A : Nat) (W : Value) (L : Nat) (V vops vs vr vu : Value) (vv : List Value) (l : List OpM) (st : St) (s : LSt) (hs : List Hx) : Prop :=
  Lay N w0 w [pLog A W L V st s, pOps N vops l, pRow N 3 vu (sU hs), pRows N vr vv (sL hs), pRow N 9 vs (sS hs)]
theorem units_eq {w : World} {A : Nat} {W : Value} {L : Nat} {V : Value} {st : St} {s : LSt} (h : PL own LT w A W L V st s) {b : Nat} (hs : Sound b st) (hb : b ≤ 900) {u : Nat} (hu : unitsOf st.l = u) :
    Calls Try.prog 11 #[.pointer (some ⟨A, 0, none⟩)] w fun e w' => e = .returned (.int .i64 u) ∧ Below w.heap.size w w' := by
  have h1 := unitsOf_le st.l hs.ok
  have h2 := hs.len
  rw [← hu]
  exact units_walk (show At w A W st.n st.k st.l from h.disk) (by omega) (by omega)
theorem recs_eq {w : World} {L A : Nat} {V : Value} {s : LSt} {l : List ByteArray} (h : LAt LT w L A V s) (he : s.l = l) (hl : l.length ≤ 1000000) : Calls Try.prog 14 #[.pointer (some ⟨L, 0, none⟩)] w fun e w2 =>
    ∃ o c, e = .returned (.slice o l.length c) ∧ w2.ownsRow w.heap.size 9 1 (.slice o l.length c) l.length (l.map Value.string) ∧ Below w.heap.size w w2 := by
  subst he
  exact records_walk h hl
theorem state_eq {w : World} {L A : Nat} {V : Value} {s : LSt} {x : ByteArray} (h : LAt LT w L A V s) (he : s.state = x) : Calls Try.prog 13 #[.pointer (some ⟨L, 0, none⟩)] w fun e w2 => e = .returned (.string x) ∧ w = w2 := by
  subst he
  exact state_walk h
theorem HInv.units {i : Nat} {st : St} {s : LSt} {hs : List Hx} (h : HInv i st s hs) (hi : i ≤ 40) : unitsOf st.l ≤ 5242880 := by
  have h1 := unitsOf_le st.l h.sound.ok
  have h2 := h.sound.len
  omega
theorem HInv.num {i : Nat} {st : St} {s : LSt} {hs : List Hx} (h : HInv i st s hs) : 0 < hs.length := by
  obtain ⟨h0, u, e⟩ := h.last
  rw [e]
  simp
theorem sU_get {hs : List Hx} {a : Nat} {h : Hx} (e : hs[a]? = some h) : (sU hs)[a]? = some (.int .i64 h.u) := by simp [sU, e]
theorem sS_get {hs : List Hx} {a : Nat} {h : Hx} (e : hs[a]? = some h) : (sS hs)[a]? = some (.string h.st) := by simp [sS, e]
theorem sL_get {hs : List Hx} {a : Nat} {h : Hx} (e : hs[a]? = some h) : (sL hs)[a]? = some h.l := by simp [sL, e]
theorem sL_len (hs : List Hx) : (sL hs).length = hs.length := by simp [sL]
theorem sS_len (hs : List Hx) : (sS hs).length = hs.length := by simp [sS]
theorem sU_len (hs : List Hx) : (sU hs).length = hs.length := by simp [sU]
theorem notes {N : Nat} {w0 w : World} {p q : Pc} {vu : Value} {sg rg n sc rc : Nat} {vv : List Value} {hs : List Hx} {h : Hx} {x : Value} {a : Nat} (hl : Lay N w0 w [p, q, pRow N 3 vu (sU hs), pRows N (.slice (some ⟨rg, 0, none⟩) n rc) vv (sL hs), pRow N 9 (.slice (some ⟨sg, 0, none⟩) n sc) (sS hs)])
    (hn : hs.length = n) (hv : vv.length = n) (han : a < n) (hga : hs[a]? = some h) (hx : vv[a]? = some x) : w.cell? ⟨sg, a, none⟩ = some (.string h.st) ∧ w.cell? ⟨rg, a, none⟩ = some x := by
  have h1 := hl.turn.turn.turn.turn.row
  have h2 := hl.turn.turn.turn.rows.row
  rw [sS_len, hn] at h1
  rw [hv] at h2
  exact ⟨(h1.cellAt a (by omega)).trans (sS_get hga), (h2.cellAt a (by omega)).trans hx⟩
theorem rec_start {w0 w1 : World} {v : Value} {l : List OpM} (ho : OpsAt w1 w0.heap.size v l) (hb : Below w0.heap.size w0 w1) :
    Lay w0.heap.size w0 (w1.alloc (.cells (cellsOf zero4 zero4 (.slice none 0 0)) 61)) [pDisk w1.heap.size (.slice none 0 0) ⟨zero4, zero4, []⟩, pOps w0.heap.size v l] := by
  have h0 : Lay w0.heap.size w0 w0 [] := Lay.nil (Below.refl _ _) (Nat.le_refl _)
  have h1 := h0.new (P := fun w => OpsAt w w0.heap.size v l) hb ho (OpsAt.foot ..) (fun k g => (ho.row.lt k g).1)
  exact h1.new (P := fun w => own.D w w1.heap.size (.slice none 0 0) ⟨zero4, zero4, []⟩) ((Below.refl _ _).alloc (Nat.le_refl _) _) (At.new w1) (Kind.foot ..) (fun k g => by
    rcases g with rfl | e
    · exact Nat.le_refl _
    · rw [nil_own] at e; cases e)
set_option maxHeartbeats 8000000 in
set_option maxRecDepth 100000 in
theorem WalRecovers_walk (a0 : Option Addr) (len0 cap0 : Nat) (z0 : Nat → OpM) (a1 : Int) (w : World) (w0 : IsOps w a0 len0 z0) :
    Calls Try.prog 3 #[.slice a0 len0 cap0, .int .i64 a1] w fun e w' => e = .returned (.bool true) ∧ Below w.heap.size w w' := by
  have hcutw := cut_walk a0 len0 cap0 z0 w w0
  clear w0
  go_enter Try.func3, Try.ntmps3
  go_wp2_with (first
    | (go_at_call 8; (with_reducible refine hcutw.mono ?_); rintro e w1 ⟨vo, vn, vc, l, rfl, hops, hb1⟩)
    | (go_at_call 9; (with_reducible refine (new_walk _).mono ?_); rintro e w2 ⟨rfl, rfl⟩
       have h2 := rec_start hops hb1
       clear hops hb1)
    | (go_at_call 10; (with_reducible refine (open_zero h2.dsk).mono ?_); rintro e w3 ⟨L, rfl, ho⟩
       obtain ⟨W3, V3, h3⟩ := h2.opened ho
       clear ho h2))
  have h4 := (((h3.one (.string ⟨#[]⟩) 9).oneRows (l := []) ((Below.refl _ _).alloc (Nat.le_refl _) (.cells #[] 9)) (World.ownsRow_lit (base := _) (e := 9) (size := 1) _ #[] 0 (Nat.le_refl _) (by decide) rfl)).one (.int .i64 0) 3).turn.turn.turn
  simp only [World.alloc, Array.size_push, List.length_nil] at h4
  have HF := Lib.hid (wfixed_walk)
  obtain ⟨i0, hi54, hz54⟩ := Option.map_eq_some_iff.1 infoS
  simp only [Prod.mk.injEq] at hz54
  obtain ⟨hz0, hz1', hz2⟩ := hz54
  obtain ⟨j0, hj54, hy54⟩ := Option.map_eq_some_iff.1 infoI
  simp only [Prod.mk.injEq] at hy54
  obtain ⟨hy0, hy1', hy2⟩ := hy54
  obtain ⟨k0, hk54, hx54⟩ := Option.map_eq_some_iff.1 infoR
  simp only [Prod.mk.injEq] at hx54
  obtain ⟨hx0, hx1', hx2⟩ := hx54
  go_loopw [9, 10, 11, 12] (fun v9 v10 v11 v12 wr => ∃ (i : Nat) (W V : Value) (st : St) (s : LSt) (hs : List Hx) (so ro uo : Option Addr) (n sc rc uc : Nat) (vv : List Value), v12 = .int .i64 i ∧ v9 = .slice so n sc ∧ v10 = .slice ro n rc ∧ v11 = .slice uo n uc ∧ i ≤ l.length ∧ hs.length = n ∧ n ≤ i + 1 ∧
    All w.heap.size w wr w1.heap.size W L V (.slice vo vn vc) (.slice so n sc) (.slice ro n rc) (.slice uo n uc) vv l st s hs ∧ HInv i st s hs) (fun _ _ _ i _ => 40 - (intOf i).toNat)
  case atStart => exact ⟨0, W3, V3, ⟨zero4, zero4, []⟩, ⟨0, ⟨#[]⟩, [], 0⟩, [⟨⟨#[]⟩, [], 0⟩], _, _, _, 1, _, _, _, _, rfl, rfl, rfl, rfl, Nat.zero_le _, rfl, Nat.le_refl _, h4, HInv.zero⟩
  case round =>
    obtain ⟨i, W, V, st, s, hs, so, ro, uo, n, sc, rc, uc, vv, rfl, rfl, rfl, rfl, hi, hsn, hsi, h5, hinv⟩ := hrel
    have hl40 := h5.ops1.len
    clear h4 hcutw h3
    generalize hA : w1.heap.size = A at *
    clear hA
    have hr0 := hinv.r0
    have hr1 := hinv.r1
    have hlen := hinv.len
    have hN : w.heap.size ≤ wr.heap.size := h5.base
    by_cases hgo : i < l.length
    · obtain ⟨g, rfl, rfl, hnc, hcm, c0, c1, c2⟩ := h5.ops1.loads hgo
      have hsz := h5.ops1.small _ (List.getElem_mem hgo)
      obtain ⟨o, ho⟩ : ∃ o, l[i]'hgo = o := ⟨_, rfl⟩
      obtain ⟨kd, x, nn⟩ := o
      rw [ho] at c0 c1 c2 hsz
      simp only at c0 c1 c2 hsz
      unfold maxLen at hcm
      have hub := hinv.units (by omega)
      have hnum := hinv.num
      rw [hsn] at hnum
      have hz := hinv.size
      have hone := hinv.one
      have hvv : vv.length = n := by
        have h6 := h5.turn.turn.turn.rows.len
        rw [sL_len, hsn] at h6
        exact h6
      obtain ⟨U, hU⟩ : ∃ U, unitsOf st.l = U := ⟨_, rfl⟩
      have hwas := units_eq h5.pl hinv.sound (by omega) hU
      have HI := Lib.hid hinv
      have HO := Lib.hid ho
      have HV := Lib.hid hvv
      have HN := Lib.hid hsn
      clear hinv ho hvv hsn
      by_cases hk0 : kd = 0
      · as_aux_lemma =>
          subst hk0
          obtain ⟨z, hzz⟩ : ∃ z, (rowB s.round x).size = z := ⟨_, rfl⟩
          have hrz := rowB_size s.round x
          rw [hzz] at hrz
          have hinv2 := Lib.hid (HI.out.append (by omega) x (by omega))
          obtain ⟨Y, hY⟩ : ∃ Y, U + z = Y := ⟨_, rfl⟩
          rw [hzz, hU, hY] at hinv2
          have hU2 : unitsOf (st.l ++ [⟨false, 1, rowB s.round x⟩]) = Y := by rw [unitsOf_append, hU, ← hY, ← hzz]; rfl
          have hYU : U < Y := by omega
          have hY9 : Y ≤ 6000000 := by omega
          have hsl1 : (s.l ++ [x]).length ≤ 1000000 := by rw [List.length_append]; show s.l.length + 1 ≤ _; omega
          obtain ⟨l2, hl2⟩ : ∃ l2, s.l ++ [x] = l2 := ⟨_, rfl⟩
          rw [hl2] at hinv2 hsl1
          go_wp2_with (first
            | (go_at_call 11; (with_reducible refine hwas.mono ?_); rintro e w6 ⟨rfl, hb6⟩
               have h6 := h5.below hb6
               have d1 := (h6.ops1.three HO).2.1
               have hap := lappend_ok h6.pl HI.out.sound (by omega) hr0 (by omega) (by omega) x (by omega) (by rw [hone]; omega)
               rw [hl2] at hap
               clear hb6 hwas)
            | (go_at_call 12; (with_reducible refine hap.mono ?_); rintro e w7 ⟨rfl, hst⟩
               obtain ⟨W7, V7, h7⟩ := h6.step hst
               have hun := units_eq h7.pl hinv2.out.sound (by omega) hU2
               clear hst hap)
            | (go_at_call 11; (with_reducible refine hun.mono ?_); rintro e w8 ⟨rfl, hb8⟩
               have h8 := (h7.below hb8).turn.turn.turn.turn
               have hstt := state_eq h8.pl1.log rfl
               have hrS := h8.row
               rw [sS_len, HN.out] at hrS
               clear hb8 hun)
            | (go_at_call 13; (with_reducible refine hstt.mono ?_); rintro e w9 ⟨rfl, rfl⟩)
            | (at_builtin; refine wpList_append_own_at _ rfl (.tmp 75) (.tmp 78) 30 rfl w.heap.size 9 i0 (.string ⟨#[]⟩) 1 16 underSS hi54 hz0 hz1' hz2 rfl (by decide) (.slice so n sc) n (sS hs) rfl (hrS.alloc (.cells #[.string s.state] 9)) ⟨w8.heap.size, 0, none⟩ 1 1 [.string s.state] rfl rfl (cell_one_new w8 (.string s.state) 9) (by simp [Value.oneCell']) (by simp only [maxLen]; omega) (by omega) (by have := h8.base; simp; omega) ?_
               intro v w10 hown hg _ hat
               obtain ⟨vg, vcap, rfl, _⟩ := hown.form (by omega)
               have h10 := (h8.push hg (by rw [sS_len, HN.out]; exact hown) hat).turn.turn.turn.turn
               rw [sS_snoc hs ⟨s.state, l2, Y⟩] at h10
               have hrc := recs_eq h10.pl2.log rfl hsl1
               clear hown hg hat hrS hstt)
            | (go_at_call 14; (with_reducible refine hrc.mono ?_); rintro e w11 ⟨xo, xc, rfl, hrow, hb11⟩
               have h11 := h10.below hb11
               have hrR := h11.rows.row
               rw [HV.out] at hrR)
            | (at_builtin; refine wpList_append_own_at _ rfl (.tmp 80) (.tmp 83) 31 rfl w.heap.size 30 k0 (.slice none 0 0) 1 24 underR hk54 hx0 hx1' hx2 rfl (by decide) (.slice ro n rc) n vv rfl (hrR.alloc (.cells #[.slice xo l2.length xc] 30)) ⟨w11.heap.size, 0, none⟩ 1 1 [.slice xo l2.length xc] rfl rfl (cell_one_new w11 (.slice xo l2.length xc) 30) (by simp [Value.oneCell']) (by simp only [maxLen]; omega) (by omega) (by have := h11.base; simp; omega) ?_
               intro v w12 hown hg _ hat
               obtain ⟨vg2, vcap2, rfl, _⟩ := hown.form (by omega)
               have h12 := (h10.pushRows hb11 hrow hg (by rw [HV.out]; exact hown) hat).turn.turn.turn.turn
               rw [sL_snoc hs ⟨s.state, l2, Y⟩] at h12
               have hun := units_eq h12.pl3 hinv2.out.sound (by omega) hU2
               clear hown hg hat hrR hrc hb11 hrow)
            | (go_at_call 11; (with_reducible refine hun.mono ?_); rintro e w13 ⟨rfl, hb13⟩
               have h13 := h12.below hb13
               have hrU := h13.row
               rw [sU_len, HN.out] at hrU
               clear hb13 hun)
            | (at_builtin; refine wpList_append_own_at _ rfl (.tmp 85) (.tmp 88) 32 rfl w.heap.size 3 j0 (.int .i64 0) 1 8 underI hj54 hy0 hy1' hy2 rfl (by decide) (.slice uo n uc) n (sU hs) rfl (hrU.alloc (.cells #[.int .i64 Y] 3)) ⟨w13.heap.size, 0, none⟩ 1 1 [.int .i64 Y] rfl rfl (cell_one_new w13 (.int .i64 Y) 3) (by simp [Value.oneCell']) (by simp only [maxLen]; omega) (by omega) (by have := h13.base; simp; omega) ?_
               intro v w14 hown hg _ hat
               obtain ⟨vg3, vcap3, rfl, _⟩ := hown.form (by omega)
               have h14 := (h13.push hg (by rw [sU_len, HN.out]; exact hown) hat).turn.turn.turn
               rw [sU_snoc hs ⟨s.state, l2, Y⟩] at h14
               clear hown hg hat hrU))
          go_roundw
          case rel => exact ⟨i + 1, W7, V7, _, _, _, _, _, _, n + 1, _, _, _, _, by go_num, rfl, rfl, rfl, by omega, by rw [List.length_append, HN.out]; rfl, by omega, h14, hinv2.out⟩
          case measure => simp [intOf]; omega
      by_cases hk1 : kd = 1
      · as_aux_lemma =>
          subst hk1
          have hrz := rowB_size (s.round + 1) x
          have hinv2 := Lib.hid (HI.out.check (by omega) x (by omega))
          rw [hU] at hinv2
          have hU2 : unitsOf (st.l ++ [⟨true, 0, rowB (s.round + 1) x⟩, ⟨true, 1, ⟨#[]⟩⟩]) = U + 2 := by rw [unitsOf_append, hU]; rfl
          go_wp2_with (first
            | (go_at_call 11; (with_reducible refine hwas.mono ?_); rintro e w6 ⟨rfl, hb6⟩
               have h6 := h5.below hb6
               have d1 := (h6.ops1.three HO).2.1
               have hap := lcheck_ok h6.pl HI.out.sound (by omega) hr0 (by omega) x (by omega)
               clear hb6 hwas)
            | (go_at_call 15; (with_reducible refine hap.mono ?_); rintro e w7 ⟨rfl, hst⟩
               obtain ⟨W7, V7, h7⟩ := h6.step hst
               have hun := units_eq h7.pl hinv2.out.sound (by omega) hU2
               clear hst hap)
            | (go_at_call 11; (with_reducible refine hun.mono ?_); rintro e w8 ⟨rfl, hb8⟩
               have h8 := (h7.below hb8).turn.turn.turn.turn
               have hstt := state_eq h8.pl1.log rfl
               have hrS := h8.row
               rw [sS_len, HN.out] at hrS
               clear hb8 hun)
            | (go_at_call 13; (with_reducible refine hstt.mono ?_); rintro e w9 ⟨rfl, rfl⟩)
            | (at_builtin; refine wpList_append_own_at _ rfl (.tmp 109) (.tmp 112) 30 rfl w.heap.size 9 i0 (.string ⟨#[]⟩) 1 16 underSS hi54 hz0 hz1' hz2 rfl (by decide) (.slice so n sc) n (sS hs) rfl (hrS.alloc (.cells #[.string x] 9)) ⟨w8.heap.size, 0, none⟩ 1 1 [.string x] rfl rfl (cell_one_new w8 (.string x) 9) (by simp [Value.oneCell']) (by simp only [maxLen]; omega) (by omega) (by have := h8.base; simp; omega) ?_
               intro v w10 hown hg _ hat
               obtain ⟨vg, vcap, rfl, _⟩ := hown.form (by omega)
               have h10 := (h8.push hg (by rw [sS_len, HN.out]; exact hown) hat).turn.turn.turn.turn
               rw [sS_snoc hs ⟨x, [], U + 1⟩] at h10
               have hrc := recs_eq (l := []) h10.pl2.log rfl (by decide)
               clear hown hg hat hrS hstt)
            | (go_at_call 14; (with_reducible refine hrc.mono ?_); rintro e w11 ⟨xo, xc, rfl, hrow, hb11⟩
               have h11 := h10.below hb11
               have hrR := h11.rows.row
               rw [HV.out] at hrR)
            | (at_builtin; refine wpList_append_own_at _ rfl (.tmp 114) (.tmp 117) 31 rfl w.heap.size 30 k0 (.slice none 0 0) 1 24 underR hk54 hx0 hx1' hx2 rfl (by decide) (.slice ro n rc) n vv rfl (hrR.alloc (.cells #[.slice xo 0 xc] 30)) ⟨w11.heap.size, 0, none⟩ 1 1 [.slice xo 0 xc] rfl rfl (cell_one_new w11 (.slice xo 0 xc) 30) (by simp [Value.oneCell']) (by simp only [maxLen]; omega) (by omega) (by have := h11.base; simp; omega) ?_
               intro v w12 hown hg _ hat
               obtain ⟨vg2, vcap2, rfl, _⟩ := hown.form (by omega)
               have h12 := (h10.pushRows (l := []) hb11 hrow hg (by rw [HV.out]; exact hown) hat).turn.turn.turn.turn
               rw [sL_snoc hs ⟨x, [], U + 1⟩] at h12
               have hrU := h12.row
               rw [sU_len, HN.out] at hrU
               clear hown hg hat hrR hrc hb11 hrow)
            | (at_builtin; refine wpList_append_own_at _ rfl (.tmp 119) (.tmp 122) 32 rfl w.heap.size 3 j0 (.int .i64 0) 1 8 underI hj54 hy0 hy1' hy2 rfl (by decide) (.slice uo n uc) n (sU hs) rfl (hrU.alloc (.cells #[.int .i64 (U + 1)] 3)) ⟨w12.heap.size, 0, none⟩ 1 1 [.int .i64 (U + 1)] rfl rfl (cell_one_new w12 (.int .i64 (U + 1)) 3) (by simp [Value.oneCell']) (by simp only [maxLen]; omega) (by omega) (by have := h12.base; simp; omega) ?_
               intro v w14 hown hg _ hat
               obtain ⟨vg3, vcap3, rfl, _⟩ := hown.form (by omega)
               have h14 := (h12.push hg (by rw [sU_len, HN.out]; exact hown) hat).turn.turn.turn
               rw [show ((U : Int) + 1) = ((U + 1 : Nat) : Int) from rfl, sU_snoc hs ⟨x, [], U + 1⟩] at h14
               clear hown hg hat hrU))
          go_roundw
          case rel => exact ⟨i + 1, W7, V7, _, _, _, _, _, _, n + 1, _, _, _, _, by go_num, rfl, rfl, rfl, by omega, by rw [List.length_append, HN.out]; rfl, by omega, h14, hinv2.out⟩
          case measure => simp [intOf]; omega
      · as_aux_lemma =>
          have hb0 : (kd == 0) = false := by simpa using hk0
          have hb1 : (kd == 1) = false := by simpa using hk1
          have hsy := lsync_walk h5.pl (by omega)
          have hinv2 := Lib.hid (HI.out.synced (by omega))
          have hk0 := Lib.hid hk0
          have hk1 := Lib.hid hk1
          clear hwas
          go_wp2_with (first
            | (go_at_call 16; (with_reducible refine hsy.mono ?_); rintro e w7 ⟨rfl, hst⟩
               obtain ⟨W7, V7, h7⟩ := h5.step hst
               have hstt := state_eq (x := s.state) h7.pl.log rfl
               have h8 := h7.turn.turn.turn.turn.drop.one (.string s.state) 9
               have hrc := recs_eq (l := s.l) h8.pl1.log rfl (by omega)
               clear hst hsy)
            | (go_at_call 13; (with_reducible refine hstt.mono ?_); rintro e w8 ⟨rfl, rfl⟩)
            | (go_at_call 14; (with_reducible refine hrc.mono ?_); rintro e w9 ⟨xo, xc, rfl, hrow, hb9⟩
               have h9 := ((h8.turn.turn.turn.turn.drop.oneRows hb9 hrow).turn.turn.turn.turn.drop.one (.int .i64 0) 3).turn.turn.turn
               clear hrow hb9))
          simp only [World.alloc, Array.size_push] at h9
          go_roundw
          case rel => exact ⟨i + 1, W7, V7, _, _, [⟨s.state, s.l, 0⟩], _, _, _, 1, _, _, _, _, by go_num, rfl, rfl, rfl, by omega, rfl, by omega, h9, hinv2.out⟩
          case measure => simp [intOf]; omega
    · obtain ⟨y, hy, hyl⟩ := and_mask a1 (c := 65535) (by decide)
      rw [show ((65535 : Nat) : Int) = 65535 from rfl] at hy
      have hnl := h5.ops1.num
      subst hnl
      have hub := hinv.units (by omega)
      have hnum := hinv.num
      rw [hsn] at hnum
      obtain ⟨U, hU⟩ : ∃ U, unitsOf st.l = U := ⟨_, rfl⟩
      rw [hU] at hub
      have hun := units_eq h5.pl hinv.sound (by omega) hU
      obtain ⟨jj, hjj, hjl⟩ := tmod_in (x := y) (n := U + 1) (by omega)
      have hjj2 : Int.tmod (y : Int) ((U : Int) + 1) = (jj : Int) := by simpa using hjj
      have HI := Lib.hid hinv
      have HN := Lib.hid hsn
      clear hjj hinv hsn
      go_wp2_with (first
        | (go_at_call 11; (with_reducible refine hun.mono ?_); rintro e w6 ⟨rfl, hb6⟩
           have h6 := h5.below hb6
           clear hb6 hun h5))
      have hrU := h6.turn.turn.row
      rw [sU_len, HN.out] at hrU
      obtain ⟨ug, ucap, e, _⟩ := hrU.form hnum
      cases e
      obtain ⟨h0, hh0, hu0⟩ := HI.out.first
      have hrS := h6.turn.turn.turn.turn.row
      have hrR := h6.turn.turn.turn.rows.row
      have hvv : vv.length = n := by
        have h7 := h6.turn.turn.turn.rows.len
        rw [sL_len, HN.out] at h7
        exact h7
      rw [sS_len, HN.out] at hrS
      rw [hvv] at hrR
      obtain ⟨sg, scap, e, _⟩ := hrS.form hnum
      cases e
      obtain ⟨rg, rcap, e, _⟩ := hrR.form hnum
      cases e
      have HV := Lib.hid hvv
      have HU := Lib.hid hU
      clear hrS hrR hvv hU
      have HW := Lib.hid h6
      clear h6
      have hn100 : n ≤ 100 := by omega
      go_loopw [16] (fun v16 wr => ∃ (a : Nat) (h : Hx), v16 = .int .i64 a ∧ wr = w6 ∧ hs[a]? = some h ∧ h.u ≤ jj ∧ a < n) (fun v _ => 100 - (intOf v).toNat)
      case atStart => exact ⟨0, h0, rfl, rfl, hh0, by omega, hnum⟩
      case round =>
        obtain ⟨a, h, rfl, rfl, hga, hua, han⟩ := hrel
        by_cases hc : a + 1 < n
        · obtain ⟨g, hg⟩ : ∃ g, hs[a + 1]? = some g := ⟨_, List.getElem?_eq_getElem (by rw [HN.out]; exact hc)⟩
          have hcell := (hrU.cellAt (a + 1) (by omega)).trans (sU_get hg)
          by_cases hle : g.u ≤ jj
          · as_aux_lemma =>
              go_wp2
              go_roundw
              case rel => exact ⟨a + 1, g, by go_num, by trivial, hg, hle, hc⟩
              case measure => simp [intOf]; omega
          · have hstop : ∀ g, hs[a + 1]? = some g → jj < g.u := fun g2 e => by
              rw [hg] at e
              injection e with e
              subst e
              omega
            obtain ⟨r, htell⟩ := HI.out.tell jj (by rw [HU.out]; omega) a h hga hua hstop
            obtain ⟨F, hF⟩ : ∃ F, stays st.l jj st.k = F := ⟨_, rfl⟩
            have hF9 : ∀ i, (F.at i).size ≤ 65536 := fun i => by rw [← hF]; exact HI.out.sound.small jj i
            have hcr := crash_eq HW.out.toD.dsk HI.out.sound (by omega) (k := jj) (by rw [HU.out]; omega) hF
            rw [hF] at htell
            have htx := htell.text
            have htl := text_len r h.l
            have hlen9 : h.l.length ≤ 65536 := Nat.le_trans htl htx
            obtain ⟨xo, xc, hxv⟩ := HW.out.turn.turn.turn.rows.get (sL_get hga)
            have hnt := notes HW.out HN.out HV.out han hga hxv
            have HT := Lib.hid htell
            have HS9 := Lib.hid (Sound.sure 0 hF9)
            have HX := Lib.hid hxv
            clear hstop htell htx htl hF9 hF hxv
            go_upto_region 36 with (first
              | (go_at_call 17; (with_reducible refine hcr.mono ?_); rintro e w7 ⟨rfl, hD, hk⟩
                 have h7 := HW.out.toD.disk (st2 := ⟨F, F, []⟩) (W2 := .slice none 0 0) hD hk (.inr fun b e => by rw [nil_own] at e; cases e)
                 have hop := open_ok (st := ⟨F, F, []⟩) h7.dsk HS9.out (by decide) HT.out
                 clear hD hk hcr)
              | (go_at_call 10; (with_reducible refine hop.mono ?_); rintro e w8 ⟨M, rfl, ho⟩
                 obtain ⟨W8, V8, h8⟩ := h7.opened ho
                 have hun := units_nil h8.pl.disk
                 clear ho hop h7)
              | (go_at_call 11; (with_reducible refine hun.mono ?_); rintro e w9 ⟨rfl, hb9⟩
                 have h9 := h8.below hb9
                 clear hb9 hun h8))
            have h9d := h9.drew
            have k0 := notes h9d HN.out HV.out han hga HX.out
            have k1 := notes h9 HN.out HV.out han hga HX.out
            have hst9 := state_eq h9d.pl.log rfl
            have hrc9 := recs_eq h9d.pl.log rfl (Nat.le_trans hlen9 (by decide))
            go_region_held3 (fun Z => Z.cell? ⟨sg, a, none⟩ = some (.string h.st) ∧ Z.cell? ⟨rg, a, none⟩ = some (.slice xo h.l.length xc)) (first | exact k4 | exact k3 | exact k2 | exact k1 | exact k0) (first
              | (go_at_call 13; (with_reducible refine hst9.mono ?_); rintro e w10 ⟨rfl, rfl⟩)
              | (go_at_call 14; (with_reducible refine hrc9.mono ?_); rintro e w11 ⟨mo, mc, rfl, hrow, hb11⟩
                 have h11 := h9d.below hb11
                 have k2 := notes h11 HN.out HV.out han hga HX.out
                 have hsm := same_lit (n := h.l.length) h.l _ rfl rfl hrow (h11.turn.turn.turn.rows.got (sL_get hga) HX.out) (by omega)
                 clear hrow hb11)
              | (go_at_call 18; (with_reducible refine hsm.mono ?_); rintro e w12 ⟨rfl, hb12⟩
                 have h12 := h11.below hb12
                 have k3 := notes h12 HN.out HV.out han hga HX.out
                 have hsu := sure_eq h12.pl.log rfl
                 clear hb12)
              | (go_at_call 19; (with_reducible refine hsu.mono ?_); rintro e w13 ⟨rfl, rfl⟩)
              | (go_at_call 20; (with_reducible refine (HF.out _).mono ?_); rintro e w14 ⟨rfl, hb14⟩
                 have h14 := h12.below hb14
                 have k4 := notes h14 HN.out HV.out han hga HX.out
                 clear hb14))
            go_wp2
            go_returns
            exact ⟨rfl, h14.bel⟩
        · have hstop : ∀ g, hs[a + 1]? = some g → jj < g.u := fun g2 e => by
            have := (List.getElem?_eq_some_iff.1 e).1
            rw [HN.out] at this
            omega
          obtain ⟨r, htell⟩ := HI.out.tell jj (by rw [HU.out]; omega) a h hga hua hstop
          obtain ⟨F, hF⟩ : ∃ F, stays st.l jj st.k = F := ⟨_, rfl⟩
          have hF9 : ∀ i, (F.at i).size ≤ 65536 := fun i => by rw [← hF]; exact HI.out.sound.small jj i
          have hcr := crash_eq HW.out.toD.dsk HI.out.sound (by omega) (k := jj) (by rw [HU.out]; omega) hF
          rw [hF] at htell
          have htx := htell.text
          have htl := text_len r h.l
          have hlen9 : h.l.length ≤ 65536 := Nat.le_trans htl htx
          obtain ⟨xo, xc, hxv⟩ := HW.out.turn.turn.turn.rows.get (sL_get hga)
          have hnt := notes HW.out HN.out HV.out han hga hxv
          have HT := Lib.hid htell
          have HS9 := Lib.hid (Sound.sure 0 hF9)
          have HX := Lib.hid hxv
          clear hstop htell htx htl hF9 hF hxv
          go_upto_region 36 with (first
            | (go_at_call 17; (with_reducible refine hcr.mono ?_); rintro e w7 ⟨rfl, hD, hk⟩
               have h7 := HW.out.toD.disk (st2 := ⟨F, F, []⟩) (W2 := .slice none 0 0) hD hk (.inr fun b e => by rw [nil_own] at e; cases e)
               have hop := open_ok (st := ⟨F, F, []⟩) h7.dsk HS9.out (by decide) HT.out
               clear hD hk hcr)
            | (go_at_call 10; (with_reducible refine hop.mono ?_); rintro e w8 ⟨M, rfl, ho⟩
               obtain ⟨W8, V8, h8⟩ := h7.opened ho
               have hun := units_nil h8.pl.disk
               clear ho hop h7)
            | (go_at_call 11; (with_reducible refine hun.mono ?_); rintro e w9 ⟨rfl, hb9⟩
               have h9 := h8.below hb9
               clear hb9 hun h8))
          have h9d := h9.drew
          have k0 := notes h9d HN.out HV.out han hga HX.out
          have k1 := notes h9 HN.out HV.out han hga HX.out
          have hst9 := state_eq h9d.pl.log rfl
          have hrc9 := recs_eq h9d.pl.log rfl (Nat.le_trans hlen9 (by decide))
          go_region_held3 (fun Z => Z.cell? ⟨sg, a, none⟩ = some (.string h.st) ∧ Z.cell? ⟨rg, a, none⟩ = some (.slice xo h.l.length xc)) (first | exact k4 | exact k3 | exact k2 | exact k1 | exact k0) (first
            | (go_at_call 13; (with_reducible refine hst9.mono ?_); rintro e w10 ⟨rfl, rfl⟩)
            | (go_at_call 14; (with_reducible refine hrc9.mono ?_); rintro e w11 ⟨mo, mc, rfl, hrow, hb11⟩
               have h11 := h9d.below hb11
               have k2 := notes h11 HN.out HV.out han hga HX.out
               have hsm := same_lit (n := h.l.length) h.l _ rfl rfl hrow (h11.turn.turn.turn.rows.got (sL_get hga) HX.out) (by omega)
               clear hrow hb11)
            | (go_at_call 18; (with_reducible refine hsm.mono ?_); rintro e w12 ⟨rfl, hb12⟩
               have h12 := h11.below hb12
               have k3 := notes h12 HN.out HV.out han hga HX.out
               have hsu := sure_eq h12.pl.log rfl
               clear hb12)
            | (go_at_call 19; (with_reducible refine hsu.mono ?_); rintro e w13 ⟨rfl, rfl⟩)
            | (go_at_call 20; (with_reducible refine (HF.out _).mono ?_); rintro e w14 ⟨rfl, hb14⟩
               have h14 := h12.below hb14
               have k4 := notes h14 HN.out HV.out han hga HX.out
               clear hb14))
          go_wp2
          go_returns
          exact ⟨rfl, h14.bel⟩
end Go.Proofs.Ytkiepnmbimkadaa.WL
namespace Go.Proofs.Ytkiepnmbimkadaa.VF
open Go.RowKit
theorem WalRecovers_walk (a0 : Option Addr) (len0 cap0 : Nat) (z0 : Nat → ML.OpM) (a1 : Int) (w : World) (w0 : ML.IsOps w a0 len0 z0) :
    Calls Try.prog 3 #[.slice a0 len0 cap0, .int .i64 a1] w fun e w' => e = .returned (.bool true) ∧ Below w.heap.size w w' := WL.WalRecovers_walk a0 len0 cap0 z0 a1 w w0
end Go.Proofs.Ytkiepnmbimkadaa.VF
