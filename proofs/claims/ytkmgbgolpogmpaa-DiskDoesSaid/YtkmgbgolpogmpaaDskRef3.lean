/-
  Chapter 09: the document's disk: Append, Crash, Sync, Copy, and a call of a script.
-/
import Derived.Test.YtkmgbgolpogmpaaDskRef2
import Derived.Deep.Cut
import Derived.Deep.RegionHeld3
import Derived.Maps.AppendAt
namespace Go.Proofs.Ytkmgbgolpogmpaa.DK
open Go.RowKit Go.Proofs.Ytkmgbgolpogmpaa
attribute [local go_sem] max2_int min2_int max_two min_two

set_option maxHeartbeats 4000000 in
theorem rappend_walk {w : World} {B : Nat} {V : Value} {st : St} (h : RAt w B V st.k st.l) {b : Nat} (hs : Sound b st) (hb : b ≤ 1000) (i : Int) (s : ByteArray) (hz : s.size ≤ 1000000) :
    Calls Try.prog 28 #[.pointer (some ⟨B, 0, none⟩), .int .i64 i, .string s] w fun e w' => e = .returned (.int .i64 (appendS st.n i s)) ∧ RPuts w w' B V (appendT st i s).k (appendT st i s).l := by
  have hlen := hs.len
  have hni := hs.now_le i
  have hrd := rread_walk h hs hb i
  by_cases hk : 0 ≤ i ∧ i < 4
  · have h3 : ¬ 3 < i := by omega
    obtain ⟨h0, h4⟩ := hk
    by_cases hbg : (s.size : Int) > 65536 - ((st.n.at i).size : Int)
    · have e : appendS st.n i s = 2 := by unfold appendS; rw [if_neg (by simp; omega), if_pos hbg]
      have e2 : appendT st i s = st := by unfold appendT; rw [if_neg (by omega)]
      rw [e, e2]
      have hbg2 : (65536 : Int) < (st.n.at i).size + s.size := by omega
      have hbg3 : 65536 < (st.n.at i).size + s.size := by omega
      clear e e2 hbg hs
      generalize st.n.at i = t at *
      go_enter Try.func28, Try.ntmps28
      go_wp2_with (first | (go_at_call 19; (with_reducible refine hrd.mono ?_); rintro e w3 ⟨rfl, hbl⟩))
      go_returns
      exact ⟨rfl, V, h.below hbl, (Keeps.refl _ _ _).below hbl, .inl rfl⟩
    · have e : appendS st.n i s = 0 := by unfold appendS; rw [if_neg (by simp; omega), if_neg hbg]
      have e2 : appendT st i s = ⟨st.n.to i (st.n.at i ++ s), st.k, st.l ++ [⟨false, i, s⟩]⟩ := by unfold appendT; rw [if_pos e]
      rw [e, e2]
      have hbg2 : ¬ (65536 : Int) < (st.n.at i).size + s.size := by omega
      have hbg3 : ¬ 65536 < (st.n.at i).size + s.size := by omega
      obtain ⟨i0, hi60, hz60⟩ := Option.map_eq_some_iff.1 info60
      simp only [Prod.mk.injEq] at hz60
      obtain ⟨hz0, hz1, hz2⟩ := hz60
      clear e e2 hbg hs
      simp only
      generalize st.n.at i = t at *
      go_enter Try.func28, Try.ntmps28
      go_wp2_with (first
        | (go_at_call 19; (with_reducible refine hrd.mono ?_); rintro e w3 ⟨rfl, hbl⟩
           have hR := h.below hbl
           have hK := (Keeps.refl w B V).below hbl
           have hB := hR.lt
           have c4 : w3.cell? ⟨B, 4, none⟩ = some V := hR.cell 4
           have hrow := hR.row.alloc (.cells #[.int .i64 i, .string s, .bool false] 60)
           clear hbl)
        | (at_builtin; refine wpList_append_own_at _ rfl (.tmp 25) (.tmp 29) 27 rfl 0 60 i0 (.agg #[.int .i64 0, .string ⟨#[]⟩, .bool false]) 3 32 under27 hi60 hz0 hz1 hz2 rfl (by decide) V st.l.length (rowsOf st.l) rfl hrow ⟨w3.heap.size, 0, none⟩ 1 1 [.int .i64 i, .string s, .bool false] rfl rfl (World.news_of_block (cs := #[.int .i64 i, .string s, .bool false]) (t := 60) (fr := (0, 0)) (heap_alloc_new w3 _)) (by simp [Value.oneCell']) (by simp only [maxLen]; omega) (by omega) (Nat.zero_le _) ?_; intro v w5 hown hg _ hat; obtain ⟨g, cap, rfl, _, hgl⟩ := hown.form (by omega); have hfin := hR.grown (x := ⟨false, i, s⟩) hK _ hg hown hat; have c9 : w5.cell? ⟨B, 4, none⟩ = some V := hg.cell (by go_cell) (fun e => h.apart e.symm); have f9 : w5.frozen? ⟨B, 4, none⟩ = false := (World.frozen?_of_block (w := w3) (a := ⟨B, 4, none⟩) ((hg.block B (by simp; omega) (fun e => h.apart e.symm)).trans (Below.heap_alloc _ _ _ hB))).trans (hR.frozen 4)))
      go_returns
      exact ⟨rfl, hfin⟩
  · have e : appendS st.n i s = 1 := by unfold appendS; rw [if_pos hk]
    have e2 : appendT st i s = st := by unfold appendT; rw [if_neg (by omega)]
    rw [e, e2]
    have hsame : RPuts w w B V st.k st.l := ⟨V, h, Keeps.refl _ _ _, .inl rfl⟩
    have h0 : i < 0 ∨ 0 ≤ i ∧ 3 < i := by omega
    clear hk h e e2 hrd hs
    rcases h0 with h0 | ⟨h0, h1⟩
    all_goals
      go_enter Try.func28, Try.ntmps28
      go_wp2
      go_returns
      exact ⟨rfl, hsame⟩
theorem four_cell2 {w : World} {B : Nat} {n : Four} {t : TypeId} (h : w.heap[B]? = some (.cells #[.string n.a, .string n.b, .string n.c, .string n.d] t (0, 0))) {j : Nat} (hj : j < 4) : w.cell? ⟨B, j, none⟩ = some (.string (n.at j)) := by
  rw [cell_of h]
  match j, hj with
  | 0, _ => rfl
  | 1, _ => rfl
  | 2, _ => rfl
  | 3, _ => rfl
/-- The loop of Crash: the first files are those of the crash, the others are empty. -/
def part4 (r : Four) (j : Nat) : Four := ⟨if 0 < j then r.a else ⟨#[]⟩, if 1 < j then r.b else ⟨#[]⟩, if 2 < j then r.c else ⟨#[]⟩, if 3 < j then r.d else ⟨#[]⟩⟩
theorem RAt.off {w w2 : World} {A B : Nat} {W V : Value} {k : Four} {l : List Wr} (ho : RAt w B V k l) (hK : Keeps w w2 A W) (h : Off B V A W) : RAt w2 B V k l := by
  refine ⟨(hK.block B ho.lt h.a h.c).trans ho.cells, ⟨ho.row.1, ?_⟩, ho.apart⟩
  rcases ho.row.2 with e | ⟨g, cap, cur, rfl, hb, hg, r⟩
  · exact .inl e
  · refine .inr ⟨g, cap, cur, rfl, hb, ?_, r⟩
    have hl : g < w.heap.size := (Array.getElem?_eq_some_iff.1 hg).1
    rw [hK.block g hl (fun e => h.b (by rw [← e]; rfl)) (h.d g rfl)]
    exact hg
set_option maxHeartbeats 8000000 in
theorem rcrash_walk {w : World} {B : Nat} {V : Value} {st : St} (h : RAt w B V st.k st.l) {b : Nat} (hs : Sound b st) (hb : b ≤ 1000) (u : Int) :
    Calls Try.prog 31 #[.pointer (some ⟨B, 0, none⟩), .int .i64 u] w fun e w' => e = .returned (.int .i64 (staysN u (unitsOf st.l))) ∧ RAt w' B (.slice none 0 0) (crashT st u).k [] ∧ Keeps w w' B V := by
  have hU : unitsOf st.l ≤ 65536 * st.l.length := unitsOf_le _ hs.ok
  have hlen := hs.len
  have hB := h.lt
  have hru := runits_walk h (by omega) (by omega)
  obtain ⟨m, hm⟩ : ∃ m : Int, (if (unitsOf st.l : Int) < u then (unitsOf st.l : Int) else u) = m := ⟨_, rfl⟩
  obtain ⟨T, hT⟩ : ∃ T : Nat, (if 0 < m then m else 0) = (T : Int) := ⟨(if 0 < m then m else 0).toNat, by split <;> omega⟩
  have hTT : staysN u (unitsOf st.l) = T := by
    unfold staysN
    have : (max 0 (min u (unitsOf st.l : Int))) = (T : Int) := by
      rw [← hT, ← hm]
      (repeat' split) <;> omega
    rw [this]
    rfl
  have hTl : T ≤ 100000000 := by
    have : staysN u (unitsOf st.l) ≤ unitsOf st.l := by unfold staysN; omega
    omega
  unfold crashT
  simp only
  rw [hTT]
  clear hTT
  obtain ⟨r, hr⟩ : ∃ r, stays st.l T st.k = r := ⟨_, rfl⟩
  have haf := fun (w : World) (h : RAt w B V st.k st.l) (f : Nat) (hf : f < 4) => after_walk h (by omega) hs.ok hs.kept_le (f := f) hf T (by omega)
  have hrf : ∀ f : Nat, f < 4 → afterT st.l f T (st.k.at f) = r.at f := fun f hf => by rw [← afterT_stays _ _ _ _ (by omega), hr]
  rw [hr]
  go_enter Try.func31, Try.ntmps31
  go_wp2_with (first
    | (go_at_call 17; (with_reducible refine hru.mono ?_); rintro e w2 ⟨rfl, rfl⟩))
  go_loopw [7] (fun v7 wr => ∃ j : Nat, v7 = .int .i64 j ∧ j ≤ 4 ∧ RAt wr B V st.k st.l ∧ Keeps w wr B V ∧ wr.heap[w.heap.size]? = some (.cells #[.string (part4 r j).a, .string (part4 r j).b, .string (part4 r j).c, .string (part4 r j).d] 26 (0, 0))) (fun i _ => 4 - (intOf i).toNat)
  case atStart => exact ⟨0, rfl, by omega, h.alloc _, (Keeps.refl w B V).alloc _, heap_alloc_new w _⟩
  case round =>
    obtain ⟨j, rfl, hj, hR, hK, hL⟩ := hrel
    have hV := fun b e => (h.row.lt b e).2
    have hVl : V.ownBlock ≠ some w.heap.size := fun e => by have := hV _ e; omega
    by_cases hj4 : j < 4
    · have ha := haf wr hR j hj4
      rw [hrf j hj4] at ha
      have hfin : ∀ w3, Below wr.heap.size wr w3 → RAt (w3.setCell ⟨w.heap.size, j, none⟩ (.string (r.at j))) B V st.k st.l ∧ Keeps w (w3.setCell ⟨w.heap.size, j, none⟩ (.string (r.at j))) B V ∧
          (w3.setCell ⟨w.heap.size, j, none⟩ (.string (r.at j))).heap[w.heap.size]? = some (.cells #[.string (part4 r (j + 1)).a, .string (part4 r (j + 1)).b, .string (part4 r (j + 1)).c, .string (part4 r (j + 1)).d] 26 (0, 0)) := by
        intro w3 hbl
        have hL3 := (hbl.block _ (Array.getElem?_eq_some_iff.1 hL).1).trans hL
        refine ⟨(hR.below hbl).off ((Keeps.refl w3 w.heap.size (.slice none 0 0)).setCell j _) ⟨by omega, hVl, (fun e => by rw [nil_own] at e; cases e), fun b _ e => by rw [nil_own] at e; cases e⟩, (hK.below hbl).setNew (Nat.le_refl _) j _, (set_self hL3).trans ?_⟩
        match j, hj4 with
        | 0, _ => rfl
        | 1, _ => rfl
        | 2, _ => rfl
        | 3, _ => rfl
      have hLc := four_cell2 hL hj4
      have hLf : wr.frozen? ⟨w.heap.size, j, none⟩ = false := by simp [World.frozen?, hL]
      have hLb : w.heap.size < wr.heap.size := (Array.getElem?_eq_some_iff.1 hL).1
      clear haf hrf hru hm hT
      go_wp2_with (first
        | (go_at_call 32; (with_reducible refine ha.mono ?_); rintro e w3 ⟨rfl, hbl⟩
           have hz := hfin w3 hbl
           have d0 := (hbl.cell (p := ⟨w.heap.size, j, none⟩) hLb).trans hLc
           have d1 : w3.frozen? ⟨w.heap.size, j, none⟩ = false := by simp [World.frozen?, (hbl.block _ hLb).trans hL]
           clear hbl))
      go_roundw
      case rel => exact ⟨j + 1, by go_num, by omega, hz⟩
      case measure => simp [intOf]; omega
    · obtain rfl : j = 4 := by omega
      have e0 : wr.cell? ⟨w.heap.size, 0, none⟩ = some (.string r.a) := cell_of hL 0
      have e1 : wr.cell? ⟨w.heap.size, 1, none⟩ = some (.string r.b) := cell_of hL 1
      have e2 : wr.cell? ⟨w.heap.size, 2, none⟩ = some (.string r.c) := cell_of hL 2
      have e3 : wr.cell? ⟨w.heap.size, 3, none⟩ = some (.string r.d) := cell_of hL 3
      have c0 : wr.cell? ⟨B, 0, none⟩ = some (.string st.k.a) := hR.cell 0
      have c1 : wr.cell? ⟨B, 1, none⟩ = some (.string st.k.b) := hR.cell 1
      have c2 : wr.cell? ⟨B, 2, none⟩ = some (.string st.k.c) := hR.cell 2
      have c3 : wr.cell? ⟨B, 3, none⟩ = some (.string st.k.d) := hR.cell 3
      have c4 : wr.cell? ⟨B, 4, none⟩ = some V := hR.cell 4
      have f0 := hR.frozen 0
      have f1 := hR.frozen 1
      have f2 := hR.frozen 2
      have f3 := hR.frozen 3
      have f4 := hR.frozen 4
      have hfin : RAt (((((wr.setCell ⟨B, 0, none⟩ (.string r.a)).setCell ⟨B, 1, none⟩ (.string r.b)).setCell ⟨B, 2, none⟩ (.string r.c)).setCell ⟨B, 3, none⟩ (.string r.d)).setCell ⟨B, 4, none⟩ (.slice none 0 0)) B (.slice none 0 0) r [] ∧ Keeps w (((((wr.setCell ⟨B, 0, none⟩ (.string r.a)).setCell ⟨B, 1, none⟩ (.string r.b)).setCell ⟨B, 2, none⟩ (.string r.c)).setCell ⟨B, 3, none⟩ (.string r.d)).setCell ⟨B, 4, none⟩ (.slice none 0 0)) B V :=
        ⟨⟨(set_self (set_self (set_self (set_self (set_self hR.cells))))).trans (by simp [rcells]), World.ownsRow_nil _ _ _ _, by simp [Value.ownBlock]⟩, ((((hK.setCell 0 _).setCell 1 _).setCell 2 _).setCell 3 _).setCell 4 _⟩
      clear haf hrf hru hm hT hR hL hs h
      go_wp2
      go_returns
      exact ⟨rfl, hfin.1, hfin.2⟩
set_option maxHeartbeats 4000000 in
theorem rsync_walk {w : World} {B : Nat} {V : Value} {st : St} (h : RAt w B V st.k st.l) {b : Nat} (hs : Sound b st) (hb : b ≤ 1000) :
    Calls Try.prog 30 #[.pointer (some ⟨B, 0, none⟩)] w fun e w' => e = .returned (.tuple #[]) ∧ RAt w' B (.slice none 0 0) st.n [] ∧ Keeps w w' B V := by
  have hU : unitsOf st.l ≤ 65536 * st.l.length := unitsOf_le _ hs.ok
  have hlen := hs.len
  have hru := runits_walk h (by omega) (by omega)
  have hc := rcrash_walk h hs hb (unitsOf st.l)
  have e : staysN (unitsOf st.l) (unitsOf st.l) = unitsOf st.l := by unfold staysN; omega
  unfold crashT at hc
  simp only [e, hs.now] at hc
  clear hU hs h e
  go_enter Try.func30, Try.ntmps30
  go_wp2_with (first
    | (go_at_call 17; (with_reducible refine hru.mono ?_); rintro e w2 ⟨rfl, rfl⟩)
    | (go_at_call 31; (with_reducible refine hc.mono ?_); rintro e w2 ⟨rfl, hq, hK⟩))
  go_returns
  exact ⟨rfl, hq, hK⟩
/-- append at a step of a region that draws its order. -/
theorem step_append_any {P : Program} {w : World} {ops : Array Oper} {o : Oper} {a : Act} {K : Act → World → Prop} {Q : Exit → Act → World → Prop} {E : Prop} (hgd : o.guard = none) (s x : Operand) (t : TypeId)
    (ho : o.op = .call { callee := .builtin .append, args := #[s, x], argTypes := #[t, t] })
    (base : Nat) (e : TypeId) (i : TypeInfo) (z : Value) (size bytes : Nat) (ht : P.underlying t = some (.slice e)) (hi : P.info? e = some i) (hz : i.zero = some z)
    (hsize : i.size = size) (hby : i.bytes = bytes) (hzs : z.cells.size = size) (hsz : 0 < size)
    (v : Value) (n : Nat) (xs : List Value) (hs : a.eval s = v) (hown : w.ownsRow base e size v n xs)
    (ad : Addr) (m c : Nat) (news : List Value) (hx : a.eval x = .slice (some ad) m c) (hl : news.length = m * size) (hnews : ∀ j u, news[j]? = some u → w.cell? (ad.add j) = some u) (h1 : ∀ u ∈ news, u.oneCell' = true)
    (h63 : n + m ≤ maxLen) (hbytes : (n + m) * bytes ≤ 140737488355328) (hbase : base ≤ w.heap.size)
    (h : ∀ v2 w2, w2.ownsRow base e size v2 (n + m) (xs ++ news) → w.grownBy w2 v.ownBlock → (v2.ownBlock = v.ownBlock ∨ v2.ownBlock = some w.heap.size) → K (a.put o.dst v2) w2) :
    if Region.wanted o (yielded ops a.tmps) = true then Oper.wp P o a w K Q else E := by
  have hw : Region.wanted o (yielded ops a.tmps) = true := by simp [Region.wanted, hgd]
  rw [if_pos hw]
  obtain ⟨v2, w2, hr, h2, h3, _, h5⟩ := run_append_own_at (P := P) w base t o.type e i z size bytes ht hi hz hsize hby hzs hsz v n xs hown ad m c news hl hnews h1 h63 hbytes hbase
  unfold Oper.wp execOp
  simp only [ho, resolve, invoke, builtin, Sem.run_bind, Sem.run_pure, Result.andThen_ok, List.map_toArray, List.map_cons, List.map_nil, hs, hx, hr]
  exact h v2 w2 h2 h3 h5
theorem two_new2 (w : World) (o1 o2 : Obj) : ((w.alloc o1).alloc o2).heap[w.heap.size + 1]? = some o2 := by
  have := heap_alloc_new (w.alloc o1) o2
  simpa using this
theorem row_one (x : Wr) : ∀ u ∈ x.row, u.oneCell' = true := by
  intro u hu
  simp [Wr.row] at hu
  rcases hu with rfl | rfl | rfl <;> rfl
theorem rows_one : ∀ l : List Wr, ∀ u ∈ rowsOf l, u.oneCell' = true
  | [], u, hu => by simp [rowsOf] at hu
  | x :: l, u, hu => by
    rcases List.mem_append.1 (show u ∈ x.row ++ rowsOf l from hu) with h | h
    · exact row_one x u h
    · exact rows_one l u h
set_option maxHeartbeats 8000000 in
theorem rcopy_walk {w : World} {B : Nat} {V : Value} {k : Four} {l : List Wr} (h : RAt w B V k l) (hl : l.length ≤ 1000) :
    Calls Try.prog 11 #[.pointer (some ⟨B, 0, none⟩)] w fun e w' => ∃ C U, e = .returned (.pointer (some ⟨C, 0, none⟩)) ∧ RAt w' C U k l ∧ Below w.heap.size w w' ∧ w.heap.size ≤ C ∧ (∀ b, U.ownBlock = some b → w.heap.size ≤ b) := by
  have c0 : w.cell? ⟨B, 0, none⟩ = some (.string k.a) := h.cell 0
  have c1 : w.cell? ⟨B, 1, none⟩ = some (.string k.b) := h.cell 1
  have c2 : w.cell? ⟨B, 2, none⟩ = some (.string k.c) := h.cell 2
  have c3 : w.cell? ⟨B, 3, none⟩ = some (.string k.d) := h.cell 3
  have c4 : w.cell? ⟨B, 4, none⟩ = some V := h.cell 4
  have hB := h.lt
  have hdr := h.drew
  rcases h.wr with ⟨rfl, rfl⟩ | ⟨g, cap, rfl, hg, _⟩
  · clear hdr
    go_enter Try.func11, Try.ntmps11
    go_wp2
    go_region
    have hown0 := World.ownsRow_lit (base := 0) (e := 60) (size := 3) w #[] 0 (Nat.zero_le _) (by decide) rfl
    have hres : RAt ((w.alloc (.cells #[] 60)).alloc (.cells (rcells k (.slice (some ⟨w.heap.size, 0, none⟩) 0 0)) 29)).drew (w.heap.size + 1) (.slice (some ⟨w.heap.size, 0, none⟩) 0 0) k [] :=
      ⟨two_new2 w _ _, hown0.alloc _, by simp [Value.ownBlock]⟩
    have hres2 : ∃ C U, Ending.returned (.pointer (some ⟨w.heap.size + 1, 0, none⟩)) = Ending.returned (.pointer (some ⟨C, 0, none⟩)) ∧ RAt ((w.alloc (.cells #[] 60)).alloc (.cells (rcells k (.slice (some ⟨w.heap.size, 0, none⟩) 0 0)) 29)).drew C U k [] ∧ Below w.heap.size w ((w.alloc (.cells #[] 60)).alloc (.cells (rcells k (.slice (some ⟨w.heap.size, 0, none⟩) 0 0)) 29)).drew ∧ w.heap.size ≤ C ∧ (∀ b, U.ownBlock = some b → w.heap.size ≤ b) :=
      ⟨_, _, rfl, hres, (((Below.refl w.heap.size w).alloc (Nat.le_refl _) _).alloc (by simp) _).drew, by omega, fun b e => by simp [Value.ownBlock] at e; omega⟩
    clear hres hown0 h
    go_wp2
    go_returns
    exact hres2
  · obtain ⟨i0, hi60, hz60⟩ := Option.map_eq_some_iff.1 info60
    simp only [Prod.mk.injEq] at hz60
    obtain ⟨hz0, hz1, hz2⟩ := hz60
    have hnew := fun j u (hu : (rowsOf l)[j]? = some u) => (hdr.row.alloc (.cells #[] 60)).cells (g := g) rfl j u hu
    have hown0 := World.ownsRow_lit (base := 0) (e := 60) (size := 3) w.drew #[] 0 (Nat.zero_le _) (by decide) rfl
    have hone := rows_one l
    have hlr := rowsOf_len l
    go_enter Try.func11, Try.ntmps11
    go_wp2
    go_region_held3 (fun W => W.cell? ⟨B, 0, none⟩ = some (.string k.a) ∧ W.cell? ⟨B, 1, none⟩ = some (.string k.b) ∧ W.cell? ⟨B, 2, none⟩ = some (.string k.c) ∧ W.cell? ⟨B, 3, none⟩ = some (.string k.d) ∧ W.cell? ⟨B, 4, none⟩ = some (.slice (some ⟨g, 0, none⟩) l.length cap)) (first | exact ⟨c0, c1, c2, c3, c4⟩ | go_keep | exact ⟨d0, d1, d2, d3, d4⟩) (first
      | (refine step_append_any rfl (.tmp 7) (.tmp 11) 27 rfl 0 60 i0 (.agg #[.int .i64 0, .string ⟨#[]⟩, .bool false]) 3 32 under27 hi60 hz0 hz1 hz2 rfl (by decide) (.slice (some ⟨w.heap.size, 0, none⟩) 0 0) 0 [] rfl hown0 ⟨g, 0, none⟩ l.length cap (rowsOf l) rfl hlr hnew hone (by simp only [maxLen]; omega) (by omega) (Nat.zero_le _) ?_; intro v w5 hown hgr hat; obtain ⟨vo, vc, rfl⟩ := own_form hown; simp only [Nat.zero_add, List.nil_append] at hown hat
         have hbel : Below w.heap.size w w5 := ((Below.refl w.heap.size w).drew.alloc (Nat.le_refl _) (.cells #[] 60)).grown (row := some w.heap.size) hgr (by simp) (by intro k hk; simp at hk; omega)
         have d0 := (hbel.cell (p := ⟨B, 0, none⟩) hB).trans c0
         have d1 := (hbel.cell (p := ⟨B, 1, none⟩) hB).trans c1
         have d2 := (hbel.cell (p := ⟨B, 2, none⟩) hB).trans c2
         have d3 := (hbel.cell (p := ⟨B, 3, none⟩) hB).trans c3
         have d4 := (hbel.cell (p := ⟨B, 4, none⟩) hB).trans c4))
    have hU : ∀ b, (Value.slice vo l.length vc).ownBlock = some b → w.heap.size ≤ b ∧ b < w5.heap.size := by
      intro b hb2
      refine ⟨?_, (hown.lt b hb2).2⟩
      rcases hat with e | e
      · rw [e] at hb2
        simp [Value.ownBlock] at hb2
        omega
      · rw [e] at hb2
        simp at hb2
        omega
    have hsz5 := hbel.size
    have hres : RAt (w5.alloc (.cells (rcells k (.slice vo l.length vc)) 29)) w5.heap.size (.slice vo l.length vc) k l :=
      ⟨heap_alloc_new w5 _, hown.alloc _, fun e => by have := (hU _ e).2; omega⟩
    have hres2 : ∃ C U, Ending.returned (.pointer (some ⟨w5.heap.size, 0, none⟩)) = Ending.returned (.pointer (some ⟨C, 0, none⟩)) ∧ RAt (w5.alloc (.cells (rcells k (.slice vo l.length vc)) 29)) C U k l ∧ Below w.heap.size w (w5.alloc (.cells (rcells k (.slice vo l.length vc)) 29)) ∧ w.heap.size ≤ C ∧ (∀ b, U.ownBlock = some b → w.heap.size ≤ b) :=
      ⟨_, _, rfl, hres, hbel.alloc hsz5 _, hsz5, fun b e => (hU b e).1⟩
    clear hres hU hown hgr hat d0 d1 d2 d3 d4 hbel h hdr hnew hown0 hone hlr
    go_wp2
    go_returns
    exact hres2
theorem RPuts.of {w w1 w2 : World} {B : Nat} {V : Value} {k : Four} {l : List Wr} (h1 : Keeps w w1 B V) (hp : RPuts w1 w2 B V k l) : RPuts w w2 B V k l := by
  obtain ⟨V2, ha, hK, hw⟩ := hp
  exact ⟨V2, ha, hK.after h1, hw.imp id fun f b hb => Nat.le_trans h1.size (f b hb)⟩
theorem RPuts.nil {w w2 : World} {B : Nat} {V : Value} {k : Four} {l : List Wr} (ha : RAt w2 B (.slice none 0 0) k l) (hK : Keeps w w2 B V) : RPuts w w2 B V k l := ⟨_, ha, hK, .inr fun b hb => by simp [Value.ownBlock] at hb⟩
theorem RPuts.same {w w2 : World} {B : Nat} {V : Value} {k : Four} {l : List Wr} (ha : RAt w2 B V k l) (hK : Keeps w w2 B V) : RPuts w w2 B V k l := ⟨_, ha, hK, .inl rfl⟩
set_option maxHeartbeats 4000000 in
theorem same_walk {w : World} {B : Nat} {V : Value} {st : St} (h : RAt w B V st.k st.l) {b : Nat} (hs : Sound b st) (hb : b ≤ 1000) (o : OpV) :
    Calls Try.prog 15 #[.pointer (some ⟨B, 0, none⟩), o.val] w fun e w2 => e = .returned (.int .i64 (ans st o)) ∧ RPuts w w2 B V (next st o).k (next st o).l := by
  obtain ⟨j, hj⟩ : ∃ j : Int, (if 60 < (o.s.size : Int) then 60 else (o.s.size : Int)) = j := ⟨_, rfl⟩
  have bj : 0 ≤ j ∧ j ≤ o.s.size ∧ j ≤ 60 := by rw [← hj]; split <;> omega
  obtain ⟨bj0, bj1, bj2⟩ := bj
  have hcj : o.s.extract 0 j.toNat = o.cut := cut_of o.s hj
  have hcl := o.cut_le
  have hlen := hs.len
  have h1 := h.alloc (.cells #[.int .i64 o.kind, .int .i64 o.file, .string o.s, .int .i64 o.n] 31)
  have hK1 : Keeps w (w.alloc (.cells #[.int .i64 o.kind, .int .i64 o.file, .string o.s, .int .i64 o.n] 31)) B V := (Keeps.refl w B V).alloc _
  by_cases hk0 : o.kind = 0
  · obtain ⟨ea, en⟩ := next_0 st hk0
    rw [ea, en]
    have hap := rappend_walk h1 hs hb o.file o.cut (by omega)
    obtain ⟨kd, fl, s, nn⟩ := o
    simp only at *
    subst hk0
    generalize OpV.cut _ = S at *
    clear hs h ea en
    unfold OpV.val
    go_enter Try.func15, Try.ntmps15
    go_wp2_with (first | (go_at_call 28; (with_reducible refine hap.mono ?_); rintro e w2 ⟨rfl, hq⟩))
    go_returns
    exact ⟨rfl, .of hK1 hq⟩
  by_cases hk1 : o.kind = 1
  · obtain ⟨ea, en⟩ := next_1 st hk1
    rw [ea, en]
    have hap := rreplace_walk h1 (by omega) o.file o.cut (by omega)
    obtain ⟨kd, fl, s, nn⟩ := o
    simp only at *
    subst hk1
    generalize OpV.cut _ = S at *
    clear hs h ea en hk0
    unfold OpV.val
    go_enter Try.func15, Try.ntmps15
    go_wp2_with (first | (go_at_call 29; (with_reducible refine hap.mono ?_); rintro e w2 ⟨rfl, hq⟩))
    go_returns
    exact ⟨rfl, .of hK1 hq⟩
  by_cases hk2 : o.kind = 2
  · obtain ⟨ea, en⟩ := next_2 st hk2
    rw [ea, en]
    have hap := rsync_walk h1 hs hb
    obtain ⟨kd, fl, s, nn⟩ := o
    simp only at *
    subst hk2
    generalize OpV.cut _ = S at *
    clear hs h ea en hk0 hk1
    unfold OpV.val
    go_enter Try.func15, Try.ntmps15
    go_wp2_with (first | (go_at_call 30; (with_reducible refine hap.mono ?_); rintro e w2 ⟨rfl, hq, hq2⟩))
    go_returns
    exact ⟨rfl, .nil hq (hq2.after hK1)⟩
  by_cases hk3 : o.kind = 3
  · obtain ⟨ea, en⟩ := next_3 st hk3
    rw [ea, en]
    have hap := rcrash_walk h1 hs hb o.n
    have en2 : (crashT st o.n).l = [] := rfl
    rw [en2]
    obtain ⟨kd, fl, s, nn⟩ := o
    simp only at *
    subst hk3
    generalize OpV.cut _ = S at *
    clear hs h ea en hk0 hk1 hk2 en2
    unfold OpV.val
    go_enter Try.func15, Try.ntmps15
    go_wp2_with (first | (go_at_call 31; (with_reducible refine hap.mono ?_); rintro e w2 ⟨rfl, hq, hq2⟩))
    go_returns
    exact ⟨rfl, .nil hq (hq2.after hK1)⟩
  · obtain ⟨ea, en⟩ := next_4 st hk0 hk1 hk2 hk3
    rw [ea, en]
    obtain ⟨kd, fl, s, nn⟩ := o
    simp only at *
    generalize OpV.cut _ = S at *
    clear hs h ea en
    unfold OpV.val
    go_enter Try.func15, Try.ntmps15
    go_wp2
    go_returns
    exact ⟨rfl, .same h1 hK1⟩
theorem same_calls {w : World} {B : Nat} {V : Value} {st : St} (h : RAt w B V st.k st.l) {b : Nat} (hs : Sound b st) (hb : b ≤ 1000) (kd fl : Int) (s : ByteArray) (nn : Int) :
    Calls Try.prog 15 #[.pointer (some ⟨B, 0, none⟩), .agg #[.int .i64 kd, .int .i64 fl, .string s, .int .i64 nn]] w fun e w2 => e = .returned (.int .i64 (ans st ⟨kd, fl, s, nn⟩)) ∧ RPuts w w2 B V (next st ⟨kd, fl, s, nn⟩).k (next st ⟨kd, fl, s, nn⟩).l :=
  same_walk h hs hb ⟨kd, fl, s, nn⟩
end Go.Proofs.Ytkmgbgolpogmpaa.DK
