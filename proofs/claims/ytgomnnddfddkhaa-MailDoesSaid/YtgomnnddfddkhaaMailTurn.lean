/-
  Chapter 08: Turn, and what it calls of the library: Grow, Concat, IndexFunc at boxes.
-/
import Derived.Test.YtgomnnddfddkhaaMailAll
import Derived.Lib.AppendZerosOnto
import Derived.Lib.SliceRun
namespace Go.Proofs.Ytgomnnddfddkhaa.ML
open Go.RowKit Go.Conc Go.Proofs.Ytgomnnddfddkhaa

theorem wpList_append_run {P : Program} {w w2 : World} {ops : Array Oper} {rest : List Oper} {o : Oper} {a : Act} {Q : Exit → Act → World → Prop} {v : Value} (hgd : o.guard = none) (s x : Operand) (ts : Array TypeId)
    (ho : o.op = .call { callee := .builtin .append, args := #[s, x], argTypes := ts }) (vs vx : Value) (hs : a.eval s = vs) (hx : a.eval x = vx)
    (hr : ∀ ty, (Builtin.append_ ts ty #[vs, vx]).run P w = .ok v w2) (h : wpList P ops Q rest (a.put o.dst v) w2) : wpList P ops Q (o :: rest) a w := by
  refine wpList_plain hgd fun K hK => ?_
  unfold Oper.wp execOp
  simp only [ho, resolve, invoke, builtin, Sem.run_bind, Sem.run_pure, Result.andThen_ok, List.map_toArray, List.map_cons, List.map_nil, hs, hx, hr]
  exact hK _ _ h
theorem info23 : (Try.prog.info? 23).map (fun i => (i.zero, i.size, i.bytes)) = some (some (.pointer none), 1, 8) := by kernel_rfl
set_option maxHeartbeats 2000000 in
theorem grow_walk (n : Nat) (h0 : 0 < n) (hn : n ≤ 1000) (w : World) :
    Calls Try.prog 34 #[.slice none 0 0, .int .i64 n] w fun e w' => ∃ G, e = .returned (.slice (some ⟨w.heap.size, 0, none⟩) 0 G) ∧ w'.ownsRow w.heap.size 23 1 (.slice (some ⟨w.heap.size, 0, none⟩) 0 G) 0 [] ∧ Below w.heap.size w w' := by
  obtain ⟨i0, hi, hz⟩ := Option.map_eq_some_iff.1 info23
  simp only [Prod.mk.injEq] at hz
  obtain ⟨hz0, hz1, hz2⟩ := hz
  have hold : (Builtin.firstCells i0.size 0 (.slice none 0 0)).run Try.prog w.drew = .ok ([] : List Value).toArray w.drew := run_firstCells_none w.drew i0.size 0 0 0
  have hrz : ∀ ty, (Builtin.append_ #[42, 3] ty #[.slice none 0 0, .int .i64 n]).run Try.prog w = .ok (.slice (some ⟨w.heap.size, 0, none⟩) n (grownCap w n 0 23)) (w.drew.alloc (.cells (Builtin.zeroCells #[.pointer none] n ++ Builtin.zeroCells #[.pointer none] (grownCap w n 0 23 - n)) 23)) := fun ty => by
    have h := Lib.run_append_grow_zeros w 42 3 ty 23 i0 (.pointer none) .i64 .i64 Try.underlying42 Try.underlying3 hi hz0 none 0 0 [] hold n h0 (by omega) (by omega) (by omega) (by rw [hz2]; omega) (by rw [hz2]; exact growslice_fits (by omega) (by omega))
    simpa [Value.cells] using h
  have hGn : n ≤ grownCap w n 0 23 := grownCap_ge w _ _ _
  have hGm := grownCap_le_maxLen w n 0 23 (by unfold maxLen; omega)
  generalize grownCap w n 0 23 = G at *
  have hrow : (w.drew.alloc (.cells (Builtin.zeroCells #[.pointer none] n ++ Builtin.zeroCells #[.pointer none] (G - n)) 23)).ownsRow w.heap.size 23 1 (.slice (some ⟨w.heap.size, 0, none⟩) 0 G) 0 [] := by
    have := World.ownsRow_made (base := w.heap.size) (e := 23) (size := 1) w.drew (Builtin.zeroCells #[.pointer none] n ++ Builtin.zeroCells #[.pointer none] (G - n)) G (Nat.le_refl _) hGm (by simp [Builtin.zeroCells]; omega)
    exact this
  have hbl : Below w.heap.size w (w.drew.alloc (.cells (Builtin.zeroCells #[.pointer none] n ++ Builtin.zeroCells #[.pointer none] (G - n)) 23)) := (Below.refl _ w).drew.alloc (Nat.le_refl _) _
  generalize w.drew.alloc (.cells (Builtin.zeroCells #[.pointer none] n ++ Builtin.zeroCells #[.pointer none] (G - n)) 23) = W at *
  have h1 : ¬ (n : Int) < 0 := by omega
  unfold maxLen at hGm
  clear hold hz0 hz1 hz2 hi
  go_enter Try.func34, Try.ntmps34
  go_wp2_with (first | (at_builtin; refine wpList_append_run rfl (.tmp 20) (.tmp 21) #[42, 3] rfl (.slice none 0 0) (.int .i64 n) rfl rfl hrz ?_))
  go_returns
  exact ⟨G, rfl, hrow, hbl⟩
/-- What Concat is handed: two rows of boxes. -/
structure Two (w : World) (p : Nat) (a1 a2 : Addr) (n1 k1 n2 k2 : Nat) (xs1 xs2 : List Value) : Prop where
  blk : w.heap[p]? = some (.cells #[.slice (some a1) n1 k1, .slice (some a2) n2 k2] 42 (0, 0))
  l1 : xs1.length = n1
  l2 : xs2.length = n2
  c1 : ∀ j u, xs1[j]? = some u → w.cell? (a1.add j) = some u
  c2 : ∀ j u, xs2[j]? = some u → w.cell? (a2.add j) = some u
  o1 : ∀ u ∈ xs1, u.oneCell' = true
  o2 : ∀ u ∈ xs2, u.oneCell' = true
theorem Two.below {w w2 : World} {p : Nat} {a1 a2 : Addr} {n1 k1 n2 k2 : Nat} {xs1 xs2 : List Value} (h : Two w p a1 a2 n1 k1 n2 k2 xs1 xs2) (hb : Below w.heap.size w w2) : Two w2 p a1 a2 n1 k1 n2 k2 xs1 xs2 := by
  have low : ∀ (q : Addr) (u : Value), w.cell? q = some u → w2.cell? q = some u := fun q u hq => by
    have hlt : q.block < w.heap.size := by
      unfold World.cell? at hq
      rcases Nat.lt_or_ge q.block w.heap.size with h | h
      · exact h
      · rw [Array.getElem?_eq_none h] at hq
        cases hq
    exact (hb.cell hlt).trans hq
  exact ⟨(hb.block p (Array.getElem?_eq_some_iff.1 h.blk).1).trans h.blk, h.l1, h.l2, fun j u hu => low _ _ (h.c1 j u hu), fun j u hu => low _ _ (h.c2 j u hu), h.o1, h.o2⟩
set_option maxHeartbeats 4000000 in
theorem concat_walk {w : World} {p : Nat} {a1 a2 : Addr} {n1 k1 n2 k2 : Nat} {xs1 xs2 : List Value} (h : Two w p a1 a2 n1 k1 n2 k2 xs1 xs2) (hn : 0 < n1 + n2) (hn2 : n1 + n2 ≤ 1000) :
    Calls Try.prog 31 #[.slice (some ⟨p, 0, none⟩) 2 2] w fun e w' => ∃ o k, e = .returned (.slice o (n1 + n2) k) ∧ w'.ownsRow w.heap.size 23 1 (.slice o (n1 + n2) k) (n1 + n2) (xs1 ++ xs2) ∧ Below w.heap.size w w' := by
  obtain ⟨i0, hi, hz⟩ := Option.map_eq_some_iff.1 info23
  simp only [Prod.mk.injEq] at hz
  obtain ⟨hz0, hz1, hz2⟩ := hz
  have hp : p < w.heap.size := (Array.getElem?_eq_some_iff.1 h.blk).1
  have d0 : w.cell? ⟨p, 0, none⟩ = some (.slice (some a1) n1 k1) := by simp [World.cell?, h.blk]
  have d1 : w.cell? ⟨p, 1, none⟩ = some (.slice (some a2) n2 k2) := by simp [World.cell?, h.blk]
  have g0 : ¬ (n1 : Int) < 0 := by omega
  have g1 : ¬ (n1 : Int) + n2 < 0 := by omega
  have hg := grow_walk (n1 + n2) hn hn2
  have hcast : ((n1 + n2 : Nat) : Int) = (n1 : Int) + n2 := by omega
  rw [hcast] at hg
  go_enter Try.func31, Try.ntmps31
  go_wp2
  refine wp_loop_rounds 3 ?_
  rw [rounds_succ]
  go_wp2
  rw [rounds_succ]
  go_wp2
  rw [rounds_succ]
  go_wp2_with (first
    | (go_at_call 34; (with_reducible refine (hg _).mono ?_); rintro e w2 ⟨G, rfl, hrow, hb⟩
       have h2 := h.below hb
       have e0 := (hb.cell (p := ⟨p, 0, none⟩) hp).trans d0
       have e1 := (hb.cell (p := ⟨p, 1, none⟩) hp).trans d1
       have hs2 := hb.size
       have hw1 := h2.c1
       have hl1 := h2.l1
       have ho1 := h2.o1))
  refine wp_loop_rounds 3 ?_
  rw [rounds_succ]
  go_wp2_with (first
    | (at_builtin; refine wpList_append_own_at _ rfl (.tmp 31) (.tmp 32) 42 rfl w.heap.size 23 i0 (.pointer none) 1 8 Try.underlying42 hi hz0 hz1 hz2 rfl (by decide) (.slice (some ⟨w.heap.size, 0, none⟩) 0 G) 0 [] rfl hrow a1 n1 k1 xs1 rfl (by omega) hw1 ho1 (by simp only [maxLen]; omega) (by omega) (by omega) ?_; intro v w5 hown hgr _ _
       have hb5 : Below w.heap.size w w5 := hb.grown hgr (Nat.le_trans (Nat.le_refl _) hs2) (fun b e => by simp [Value.ownBlock] at e; omega)
       have h5 := h.below hb5
       have f1 := (hb5.cell (p := ⟨p, 1, none⟩) hp).trans d1
       have hs5 := hb5.size
       obtain ⟨vo, vc, rfl⟩ := own_form hown
       simp only [Nat.zero_add, List.nil_append] at hown
       clear hgr hrow))
  rw [rounds_succ]
  have hw2 := h5.c2
  have hl2 := h5.l2
  have ho2 := h5.o2
  have hvb := fun b e => (hown.lt b e).1
  go_wp2_with (first
    | (at_builtin; refine wpList_append_own_at _ rfl (.tmp 31) (.tmp 32) 42 rfl w.heap.size 23 i0 (.pointer none) 1 8 Try.underlying42 hi hz0 hz1 hz2 rfl (by decide) (.slice vo n1 vc) n1 xs1 rfl hown a2 n2 k2 xs2 rfl (by omega) hw2 ho2 (by simp only [maxLen]; omega) (by omega) (by omega) ?_; intro v w6 hown6 hgr _ _
       have hb6 : Below w.heap.size w w6 := hb5.grown hgr hs5 hvb
       obtain ⟨vo6, vc6, rfl⟩ := own_form hown6
       clear hgr hown))
  rw [rounds_succ]
  go_wp2
  go_returns
  exact ⟨vo6, vc6, rfl, hown6, hb6⟩
set_option maxHeartbeats 1000000 in
theorem some_walk {w : World} {A c cap : Nat} {l : List ByteArray} (h : MAt w A c cap l) :
    Calls Try.prog 33 #[.pointer (some ⟨A, 0, none⟩)] w fun e w' => e = .returned (.bool (non l)) ∧ w = w' := by
  have hp := len_walk h
  clear h
  go_enter Try.func33, Try.ntmps33
  go_wp2_with (first | (go_at_call 24; (with_reducible refine hp.mono ?_); rintro e w2 ⟨rfl, rfl⟩))
  go_returns
  exact ⟨by cases l <;> simp [non], rfl⟩
/-- The first one that has a text. -/
def firstOf : List (List ByteArray) → Option Nat
  | [] => none
  | l :: r => if non l then some 0 else (firstOf r).map (· + 1)
def idxOf (bs : List (List ByteArray)) : Int := match firstOf bs with | some i => i | none => -1
structure BoxV where
  A : Nat
  c : Nat
  cap : Nat
  l : List ByteArray
def BoxV.ptr (b : BoxV) : Value := .pointer (some ⟨b.A, 0, none⟩)
set_option maxHeartbeats 2000000 in
theorem index_walk {w : World} {N : Nat} {o : Option Addr} {k : Nat} {x y : BoxV} (hrow : w.ownsRow N 23 1 (.slice o 2 k) 2 [x.ptr, y.ptr]) (hx : MAt w x.A x.c x.cap x.l) (hy : MAt w y.A y.c y.cap y.l) :
    Calls Try.prog 32 #[.slice o 2 k, .func (.func 33) #[] #[]] w fun e w' => e = .returned (.int .i64 (idxOf [x.l, y.l])) ∧ w = w' := by
  obtain ⟨g, cp, hf, _, _⟩ := hrow.form (by omega)
  obtain ⟨ho, _, hk2⟩ := Value.slice.inj hf
  subst ho
  subst hk2
  have h0 : w.cell? ⟨g, 0, none⟩ = some x.ptr := (hrow.cellAt 0 (by omega)).trans rfl
  have h1 : w.cell? ⟨g, 1, none⟩ = some y.ptr := (hrow.cellAt 1 (by omega)).trans rfl
  unfold BoxV.ptr at h0 h1
  have hsx := some_walk hx
  have hsy := some_walk hy
  clear hrow hf
  cases hnx : non x.l
  · rw [hnx] at hsx
    cases hny : non y.l
    · rw [hny] at hsy
      have e : idxOf [x.l, y.l] = -1 := by simp [idxOf, firstOf, hnx, hny]
      rw [e]
      clear e hnx hny hx hy
      go_enter Try.func32, Try.ntmps32
      go_wp2
      refine wp_loop_rounds 3 ?_
      rw [rounds_succ]
      go_wp2_with (first | (go_at_call 33; (with_reducible refine hsx.mono ?_); rintro e w2 ⟨rfl, rfl⟩))
      rw [rounds_succ]
      go_wp2_with (first | (go_at_call 33; (with_reducible refine hsy.mono ?_); rintro e w2 ⟨rfl, rfl⟩))
      rw [rounds_succ]
      go_wp2
      go_returns
      exact ⟨rfl, rfl⟩
    · rw [hny] at hsy
      have e : idxOf [x.l, y.l] = 1 := by simp [idxOf, firstOf, hnx, hny]
      rw [e]
      clear e hnx hny hx hy
      go_enter Try.func32, Try.ntmps32
      go_wp2
      refine wp_loop_rounds 3 ?_
      rw [rounds_succ]
      go_wp2_with (first | (go_at_call 33; (with_reducible refine hsx.mono ?_); rintro e w2 ⟨rfl, rfl⟩))
      rw [rounds_succ]
      go_wp2_with (first | (go_at_call 33; (with_reducible refine hsy.mono ?_); rintro e w2 ⟨rfl, rfl⟩))
      go_returns
      exact ⟨rfl, rfl⟩
  · rw [hnx] at hsx
    have e : idxOf [x.l, y.l] = 0 := by simp [idxOf, firstOf, hnx]
    rw [e]
    clear e hnx hx hy
    go_enter Try.func32, Try.ntmps32
    go_wp2
    refine wp_loop_rounds 3 ?_
    rw [rounds_succ]
    go_wp2_with (first | (go_at_call 33; (with_reducible refine hsx.mono ?_); rintro e w2 ⟨rfl, rfl⟩))
    go_returns
    exact ⟨rfl, rfl⟩
set_option maxHeartbeats 2000000 in
theorem index_one {w : World} {N : Nat} {o : Option Addr} {k : Nat} {x : BoxV} (hrow : w.ownsRow N 23 1 (.slice o 1 k) 1 [x.ptr]) (hx : MAt w x.A x.c x.cap x.l) (hne : x.l = []) :
    Calls Try.prog 32 #[.slice o 1 k, .func (.func 33) #[] #[]] w fun e w' => e = .returned (.int .i64 (-1)) ∧ w = w' := by
  obtain ⟨g, cp, hf, _, _⟩ := hrow.form (by omega)
  obtain ⟨ho, _, hk2⟩ := Value.slice.inj hf
  subst ho
  subst hk2
  have h0 : w.cell? ⟨g, 0, none⟩ = some x.ptr := (hrow.cellAt 0 (by omega)).trans rfl
  unfold BoxV.ptr at h0
  have hsx := some_walk hx
  have hnx : non x.l = false := by rw [hne]; rfl
  rw [hnx] at hsx
  clear hrow hf hne hnx hx
  go_enter Try.func32, Try.ntmps32
  go_wp2
  refine wp_loop_rounds 2 ?_
  rw [rounds_succ]
  go_wp2_with (first | (go_at_call 33; (with_reducible refine hsx.mono ?_); rintro e w2 ⟨rfl, rfl⟩))
  rw [rounds_succ]
  go_wp2
  go_returns
  exact ⟨rfl, rfl⟩
end Go.Proofs.Ytgomnnddfddkhaa.ML
