import Derived.Maps.RangeWalk
import Derived.Maps.Keyed
import Derived.Test.YtjjimkmbbifbjaaDoorKCuts8
namespace Go.Proofs.YtjjimkmbbifbjaaDoor.SW
open Go Go.RowKit Go.Proofs.YtjjimkmbbifbjaaDoor Go.Proofs.YtjjimkmbbifbjaaDoor.TP Go.Proofs.YtjjimkmbbifbjaaDoor.TW
open Go.Maps
theorem wpList_insert_own {H : Type} {P : Program} (w : World) {ops : Array Oper} {rest : List Oper} {o : Oper} {a : Act} {Q : Exit → Act → World → Prop}
    (hg : o.guard = none) (m x v : Operand) (t : TypeId) (hop : o.op = Op.insert t m x v)
    (k e : TypeId) (K : Keyed P k) (ht : P.underlying t = some (.map k e)) (R : Value → Option (DataW H × List MemPlace)) (b n : Nat) (D : DataW H)
    (hm : a.eval m = .map (some b)) (hown : w.ownsMap P k R b n D) (hn : n < maxLen) (key val : Value) (kl : Lit) (hx : a.eval x = key) (hv : a.eval v = val) (hkey : keyOf P k key = some kl)
    (d : DataW H) (ps : List MemPlace) (hval : R val = some (d, ps))
    (hK : ∀ w', w'.ownsMap P k R b (n + 1) (D.put kl d) → w.grownBy w' (some b) → wpList P ops Q rest (a.put o.dst undef) w') :
    wpList P ops Q (o :: rest) a w := by
  refine wpList_plain hg fun K' hK' => ?_
  obtain ⟨w', hrun, r1, r2⟩ := hown.update K ht hn hkey hval
  unfold Oper.wp
  simp [execOp, hop, hm, hx, hv, hrun, Result.andThen]
  exact hK' _ _ (hK w' r1 r2)
def cl (G O i : Nat) : Value := .func (.func (34 + i)) #[] #[.pointer (some ⟨G, 0, none⟩), .pointer (some ⟨O, 0, none⟩)]
def RF (G O : Nat) (v : Value) : Option (DataW Unit × List MemPlace) :=
  match v with
  | .func (.func f) ⟨[]⟩ ⟨[.pointer (some ⟨g, 0, none⟩), .pointer (some ⟨o, 0, none⟩)]⟩ => if 34 ≤ f ∧ f ≤ 40 ∧ g = G ∧ o = O then some (.lit (.int .i64 (2 ^ (f - 34) : Nat)), []) else none
  | _ => none
theorem RF_at (G O i : Nat) (h : i < 7) : RF G O (cl G O i) = some (.lit (.int .i64 (2 ^ i : Nat)), []) := by
  unfold RF cl
  simp
  omega
theorem fn_bd (f : Nat) (h1 : 34 ≤ f) (h2 : f ≤ 40) : f - 34 < 7 ∧ 34 + (f - 34) = f := by omega
theorem RF_inv {G O : Nat} {v : Value} {y : DataW Unit × List MemPlace} (h : RF G O v = some y) : ∃ i, i < 7 ∧ v = cl G O i ∧ y = (.lit (.int .i64 (2 ^ i : Nat)), []) := by
  unfold RF at h
  split at h
  · rename_i f g o
    split at h
    · rename_i hh
      obtain ⟨h1, h2, e1, e2⟩ := hh
      subst e1 e2
      obtain ⟨b1, b2⟩ := fn_bd f h1 h2
      refine ⟨_, b1, ?_, (Option.some.inj h).symm⟩
      unfold cl
      rw [b2]
    · cases h
  · cases h
theorem grownBy_set (W : World) (g i : Nat) (v : Value) : W.grownBy (W.setCell ⟨g, i, none⟩ v) (some g) :=
  ⟨rfl, rfl, rfl, by simp, fun j hj hne => Below.heap_setCell _ _ _ _ (by simpa using hne)⟩
theorem AC.grown {w w' : World} {row : Option Nat} {X : Nat} {k n N K : Int} {s t : ByteArray} {b : Bool} {T : Int} (h : AC w X k n N K s t b T) (hg : w.grownBy w' row) (hr : some X ≠ row) : AC w' X k n N K s t b T :=
  (hg.block X h.lt hr).trans h
def D7 : DataW Unit := (((((((DataW.map []).put (.int .i64 1) (.lit (.int .i64 (2 ^ 0 : Nat)))).put (.int .i64 2) (.lit (.int .i64 (2 ^ 1 : Nat)))).put (.int .i64 4) (.lit (.int .i64 (2 ^ 2 : Nat)))).put (.int .i64 8) (.lit (.int .i64 (2 ^ 3 : Nat)))).put (.int .i64 16) (.lit (.int .i64 (2 ^ 4 : Nat)))).put (.int .i64 32) (.lit (.int .i64 (2 ^ 5 : Nat)))).put (.int .i64 64) (.lit (.int .i64 (2 ^ 6 : Nat)))
def L7 : List (Lit × DataW Unit) := [(.int .i64 1, .lit (.int .i64 1)), (.int .i64 2, .lit (.int .i64 2)), (.int .i64 4, .lit (.int .i64 4)), (.int .i64 8, .lit (.int .i64 8)), (.int .i64 16, .lit (.int .i64 16)), (.int .i64 32, .lit (.int .i64 32)), (.int .i64 64, .lit (.int .i64 64))]
theorem D7_eq : D7 = .map L7 := by
  unfold D7 L7
  rfl
theorem L7_at (x : Int) : (DataW.map L7 : DataW Unit).atKey (.int .i64 x) .nil = if 1 = x then .lit (.int .i64 1) else if 2 = x then .lit (.int .i64 2) else if 4 = x then .lit (.int .i64 4) else if 8 = x then .lit (.int .i64 8) else if 16 = x then .lit (.int .i64 16) else if 32 = x then .lit (.int .i64 32) else if 64 = x then .lit (.int .i64 64) else .nil := by
  unfold DataW.atKey L7
  simp only [List.find?, Lit.sameKey, true_and]
  by_cases h1 : 1 = x
  · simp [h1]
  by_cases h2 : 2 = x
  · simp [h1, h2]
  by_cases h3 : 4 = x
  · simp [h1, h2, h3]
  by_cases h4 : 8 = x
  · simp [h1, h2, h3, h4]
  by_cases h5 : 16 = x
  · simp [h1, h2, h3, h4, h5]
  by_cases h6 : 32 = x
  · simp [h1, h2, h3, h4, h5, h6]
  by_cases h7 : 64 = x
  · simp [h1, h2, h3, h4, h5, h6, h7]
  simp [h1, h2, h3, h4, h5, h6, h7]
theorem D7_at {x : Int} {i : Nat} (hi : i < 7) (h : ∀ zd : DataW Unit, D7.atKey (.int .i64 x) zd = .lit (.int .i64 (2 ^ i : Nat))) : x = (2 ^ i : Nat) := by
  have h := h .nil
  rw [D7_eq, L7_at] at h
  have hi' : i = 0 ∨ i = 1 ∨ i = 2 ∨ i = 3 ∨ i = 4 ∨ i = 5 ∨ i = 6 := by omega
  rcases hi' with rfl | rfl | rfl | rfl | rfl | rfl | rfl <;> (repeat' split at h) <;> simp at h <;> omega
theorem D7_has {i : Nat} (hi : i < 7) : has D7 (.int .i64 (2 ^ i : Nat)) = true := by
  rw [D7_eq]
  have hi' : i = 0 ∨ i = 1 ∨ i = 2 ∨ i = 3 ∨ i = 4 ∨ i = 5 ∨ i = 6 := by omega
  rcases hi' with rfl | rfl | rfl | rfl | rfl | rfl | rfl <;> decide
def BC (w : World) (O : Nat) (k n N K : Int) (s t : ByteArray) (b : Bool) (T : Int) (c : Nat → Bool) : Prop :=
  AC w O k (if c 0 then n else 0) (if c 1 then N else 0) (if c 2 then K else 0) (if c 5 then s else ⟨#[]⟩) (if c 6 then t else ⟨#[]⟩) (if c 4 then b else false) (if c 3 then T else 0)
theorem cl_walk {w : World} {G O : Nat} {k n N K : Int} {s t : ByteArray} {b : Bool} {T : Int} {c : Nat → Bool} (hA : AC w G k n N K s t b T) (hO : BC w O k n N K s t b T c) (i : Nat) (hi : i < 7) :
    Calls Tryd.prog (34 + i) #[.pointer (some ⟨G, 0, none⟩), .pointer (some ⟨O, 0, none⟩)] w fun e w' => e = .returned (.tuple #[]) ∧ BC w' O k n N K s t b T (fun j => c j || decide (j = i)) ∧ w.grownBy w' (some O) ∧ w'.heap.size = w.heap.size := by
  have hi' : i = 0 ∨ i = 1 ∨ i = 2 ∨ i = 3 ∨ i = 4 ∨ i = 5 ∨ i = 6 := by omega
  unfold BC at hO
  rcases hi' with rfl | rfl | rfl | rfl | rfl | rfl | rfl
  · exact (cl0_walk hA hO).mono fun e w' h => ⟨h.1, by rw [h.2]; simpa [BC] using hO.s1 n, by rw [h.2]; exact grownBy_set _ _ _ _, by rw [h.2]; simp⟩
  · exact (cl1_walk hA hO).mono fun e w' h => ⟨h.1, by rw [h.2]; simpa [BC] using hO.s2 N, by rw [h.2]; exact grownBy_set _ _ _ _, by rw [h.2]; simp⟩
  · exact (cl2_walk hA hO).mono fun e w' h => ⟨h.1, by rw [h.2]; simpa [BC] using hO.s3 K, by rw [h.2]; exact grownBy_set _ _ _ _, by rw [h.2]; simp⟩
  · exact (cl3_walk hA hO).mono fun e w' h => ⟨h.1, by rw [h.2]; simpa [BC] using hO.s7 T, by rw [h.2]; exact grownBy_set _ _ _ _, by rw [h.2]; simp⟩
  · exact (cl4_walk hA hO).mono fun e w' h => ⟨h.1, by rw [h.2]; simpa [BC] using hO.s6 b, by rw [h.2]; exact grownBy_set _ _ _ _, by rw [h.2]; simp⟩
  · exact (cl5_walk hA hO).mono fun e w' h => ⟨h.1, by rw [h.2]; simpa [BC] using hO.s4 s, by rw [h.2]; exact grownBy_set _ _ _ _, by rw [h.2]; simp⟩
  · exact (cl6_walk hA hO).mono fun e w' h => ⟨h.1, by rw [h.2]; simpa [BC] using hO.s5 t, by rw [h.2]; exact grownBy_set _ _ _ _, by rw [h.2]; simp⟩
def bH (h : Int) (i : Nat) : Bool := Go.bits .and .i64 h ((2 ^ i : Nat) : Int) != 0
def kI (h k : Int) : Int := if h = 0 then 0 else k
def cI (h : Int) (i : Nat) (v : Int) : Int := if bH h i = true then v else 0
def cS (h : Int) (i : Nat) (v : ByteArray) : ByteArray := if bH h i = true then v else ⟨#[]⟩
def cB (h : Int) (i : Nat) (v : Bool) : Bool := if bH h i = true then v else false
theorem pow_inj {i j : Nat} (h : ((2 ^ i : Nat) : Int) = ((2 ^ j : Nat) : Int)) : i = j := (Nat.pow_right_inj (by decide : 1 < 2)).1 (Int.ofNat.inj h)
theorem step0 (left : Lit → Bool) {h : Int} {i : Nat} (hb : bH h i = false) : (fun j : Nat => !(left (.int .i64 (2 ^ j : Nat)) && !(Lit.int .i64 (2 ^ j : Nat)).sameKey (.int .i64 (2 ^ i : Nat))) && bH h j) = fun j : Nat => !left (.int .i64 (2 ^ j : Nat)) && bH h j := by
  funext j
  by_cases e : j = i
  · subst e; rw [hb, Bool.and_false, Bool.and_false]
  · have : (Lit.int .i64 (2 ^ j : Nat)).sameKey (.int .i64 (2 ^ i : Nat)) = false := by
      simp only [Lit.sameKey, true_and]
      exact decide_eq_false fun h => e (pow_inj h)
    rw [this]
    simp
theorem step1 (left : Lit → Bool) {h : Int} {i : Nat} (hb : bH h i = true) : (fun j : Nat => !(left (.int .i64 (2 ^ j : Nat)) && !(Lit.int .i64 (2 ^ j : Nat)).sameKey (.int .i64 (2 ^ i : Nat))) && bH h j) = fun j : Nat => (!left (.int .i64 (2 ^ j : Nat)) && bH h j) || decide (j = i) := by
  funext j
  by_cases e : j = i
  · subst e; rw [hb, show (Lit.int .i64 (2 ^ j : Nat)).sameKey (.int .i64 (2 ^ j : Nat)) = true from by simp [Lit.sameKey]]; simp
  · have : (Lit.int .i64 (2 ^ j : Nat)).sameKey (.int .i64 (2 ^ i : Nat)) = false := by
      simp only [Lit.sameKey, true_and]
      exact decide_eq_false fun h => e (pow_inj h)
    rw [this]
    simp [e]
theorem law3 : Keyed Tryd.prog 3 := int_keyed Tryd.underlying3
set_option maxHeartbeats 8000000 in
set_option maxRecDepth 100000 in
theorem bare_walk (k n N K T : Int) (s t : ByteArray) (b : Bool) (w : World) :
    Calls Tryd.prog 13 #[.agg #[.int .i64 k, .int .i64 n, .int .i64 N, .int .i64 K, .string s, .string t, .bool b, .int .i64 T]] w fun e w' => e = .returned (.agg #[.int .i64 (kI (hasB k) k), .int .i64 (cI (hasB k) 0 n), .int .i64 (cI (hasB k) 1 N), .int .i64 (cI (hasB k) 2 K), .string (cS (hasB k) 5 s), .string (cS (hasB k) 6 t), .bool (cB (hasB k) 4 b), .int .i64 (cI (hasB k) 3 T)]) ∧ Below w.heap.size w w' := by
  have hu := Tryd.underlying23
  have hu3 := Tryd.underlying3
  have hmm := @run_makeMap Tryd.prog
  have hh := fun w => has_walk k w
  generalize hasB k = h at *
  by_cases h0 : h = 0
  · have e : ∀ (W : World) o, (W.alloc o).heap.size = W.heap.size + 1 := fun W o => by simp
    have a0 : AC ((w.alloc (.cells #[.int .i64 k, .int .i64 n, .int .i64 N, .int .i64 K, .string s, .string t, .bool b, .int .i64 T] 23)).alloc (.cells #[.int .i64 0, .int .i64 0, .int .i64 0, .int .i64 0, .string ⟨#[]⟩, .string ⟨#[]⟩, .bool false, .int .i64 0] 23)) w.heap.size k n N K s t b T := (AC.new w k n N K s t b T).alloc _
    have b0 : AC ((w.alloc (.cells #[.int .i64 k, .int .i64 n, .int .i64 N, .int .i64 K, .string s, .string t, .bool b, .int .i64 T] 23)).alloc (.cells #[.int .i64 0, .int .i64 0, .int .i64 0, .int .i64 0, .string ⟨#[]⟩, .string ⟨#[]⟩, .bool false, .int .i64 0] 23)) (w.heap.size + 1) 0 0 0 0 ⟨#[]⟩ ⟨#[]⟩ false 0 := by
      have h := AC.new (w.alloc (.cells #[.int .i64 k, .int .i64 n, .int .i64 N, .int .i64 K, .string s, .string t, .bool b, .int .i64 T] 23)) 0 0 0 0 ⟨#[]⟩ ⟨#[]⟩ false 0
      rw [e] at h
      exact h
    subst h0
    have hB0 := (((Below.refl w.heap.size w).alloc (Nat.le_refl _) (.cells #[.int .i64 k, .int .i64 n, .int .i64 N, .int .i64 K, .string s, .string t, .bool b, .int .i64 T] 23)).alloc (by rw [e]; omega) (.cells #[.int .i64 0, .int .i64 0, .int .i64 0, .int .i64 0, .string ⟨#[]⟩, .string ⟨#[]⟩, .bool false, .int .i64 0] 23))
    clear e
    go_enter Tryd.func13, Tryd.ntmps13
    go_wp2_with (first
      | (go_at_call 27; (with_reducible refine (hh _).mono ?_); rintro e w2 ⟨rfl, hb⟩; have hR := b0.below hb; have hB := hB0.trans (hb.mono (by simp only [World.size_alloc]; omega)); have r0 := hR.c0; have r1 := hR.c1; have r2 := hR.c2; have r3 := hR.c3; have r4 := hR.c4; have r5 := hR.c5; have r6 := hR.c6; have r7 := hR.c7; have rf := hR.fr))
    have lR := hR.lt
    have hB2 := (((((((hB.setCell (p := ⟨w.heap.size + 1, 0, none⟩) (by simp) (.int .i64 0)).setCell (p := ⟨w.heap.size + 1, 1, none⟩) (by simp) (.int .i64 0)).setCell (p := ⟨w.heap.size + 1, 2, none⟩) (by simp) (.int .i64 0)).setCell (p := ⟨w.heap.size + 1, 3, none⟩) (by simp) (.int .i64 0)).setCell (p := ⟨w.heap.size + 1, 4, none⟩) (by simp) (.string ⟨#[]⟩)).setCell (p := ⟨w.heap.size + 1, 5, none⟩) (by simp) (.string ⟨#[]⟩)).setCell (p := ⟨w.heap.size + 1, 6, none⟩) (by simp) (.bool false)).setCell (p := ⟨w.heap.size + 1, 7, none⟩) (by simp) (.int .i64 0)
    have hZ := (((((((hR.s0 0).s1 0).s2 0).s3 0).s4 ⟨#[]⟩).s5 ⟨#[]⟩).s6 false).s7 0
    clear rf r0 r1 r2 r3 r4 r5 r6 r7 hR hB
    generalize ((((((((w2.setCell ⟨w.heap.size + 1, 0, none⟩ (.int .i64 0)).setCell ⟨w.heap.size + 1, 1, none⟩ (.int .i64 0)).setCell ⟨w.heap.size + 1, 2, none⟩ (.int .i64 0)).setCell ⟨w.heap.size + 1, 3, none⟩ (.int .i64 0)).setCell ⟨w.heap.size + 1, 4, none⟩ (.string ⟨#[]⟩)).setCell ⟨w.heap.size + 1, 5, none⟩ (.string ⟨#[]⟩)).setCell ⟨w.heap.size + 1, 6, none⟩ (.bool false)).setCell ⟨w.heap.size + 1, 7, none⟩ (.int .i64 0)) = wz at *
    have r0 := hZ.c0
    have r1 := hZ.c1
    have r2 := hZ.c2
    have r3 := hZ.c3
    have r4 := hZ.c4
    have r5 := hZ.c5
    have r6 := hZ.c6
    have r7 := hZ.c7
    refine bodyPost_ret (by simp [results, Tryd.results13, go_sem, r0, r1, r2, r3, r4, r5, r6, r7]; rfl) rfl ?_
    exact ⟨rfl, hB2⟩
  · have a0 : AC ((w.alloc (.cells #[.int .i64 k, .int .i64 n, .int .i64 N, .int .i64 K, .string s, .string t, .bool b, .int .i64 T] 23)).alloc (.cells #[.int .i64 0, .int .i64 0, .int .i64 0, .int .i64 0, .string ⟨#[]⟩, .string ⟨#[]⟩, .bool false, .int .i64 0] 23)) w.heap.size k n N K s t b T := (AC.new w k n N K s t b T).alloc _
    go_enter Tryd.func13, Tryd.ntmps13
    go_wp2_with (first
      | (go_at_call 27; (with_reducible refine (hh _).mono ?_); rintro e w2 ⟨rfl, hb⟩
         have a2 := a0.below hb
         have g0 := a2.c0
         have hown : ((w2.alloc (.cells #[.int .i64 k, .int .i64 0, .int .i64 0, .int .i64 0, .string ⟨#[]⟩, .string ⟨#[]⟩, .bool false, .int .i64 0] 23)).alloc (.map #[] 0)).ownsMap Tryd.prog 3 (RF w.heap.size w2.heap.size) (w2.heap.size + 1) 0 (.map []) := by
           have h := World.ownsMap_made (w2.alloc (.cells #[.int .i64 k, .int .i64 0, .int .i64 0, .int .i64 0, .string ⟨#[]⟩, .string ⟨#[]⟩, .bool false, .int .i64 0] 23)) Tryd.prog 3 (RF w.heap.size w2.heap.size)
           simpa using h
         have hgm := World.grownBy_alloc (w2.alloc (.cells #[.int .i64 k, .int .i64 0, .int .i64 0, .int .i64 0, .string ⟨#[]⟩, .string ⟨#[]⟩, .bool false, .int .i64 0] 23)) (.map #[] 0) none)
      | (refine wpList_insert_own _ rfl _ _ _ 46 rfl 3 1 law3 Tryd.underlying46 (RF w.heap.size w2.heap.size) (w2.heap.size + 1) _ _ rfl hown (by unfold maxLen; omega) (.int .i64 1) (cl w.heap.size w2.heap.size 0) (.int .i64 1) ?_ ?_ (keyOf_int_mk Tryd.underlying3 (by decide)) _ [] (RF_at _ _ 0 (by decide)) ?_; rfl; rfl; intro wn hown1 hgr1; have hgm1 := (hgm.but (some (w2.heap.size + 1))).andThen hgr1 (fun j hj => .inr hj); clear hown hgm; have hown := hown1; have hgm := hgm1; clear hown1 hgm1 hgr1)
      | (refine wpList_insert_own _ rfl _ _ _ 46 rfl 3 1 law3 Tryd.underlying46 (RF w.heap.size w2.heap.size) (w2.heap.size + 1) _ _ rfl hown (by unfold maxLen; omega) (.int .i64 2) (cl w.heap.size w2.heap.size 1) (.int .i64 2) ?_ ?_ (keyOf_int_mk Tryd.underlying3 (by decide)) _ [] (RF_at _ _ 1 (by decide)) ?_; rfl; rfl; intro wn hown1 hgr1; have hgm1 := hgm.trans hgr1; clear hown hgm; have hown := hown1; have hgm := hgm1; clear hown1 hgm1 hgr1)
      | (refine wpList_insert_own _ rfl _ _ _ 46 rfl 3 1 law3 Tryd.underlying46 (RF w.heap.size w2.heap.size) (w2.heap.size + 1) _ _ rfl hown (by unfold maxLen; omega) (.int .i64 4) (cl w.heap.size w2.heap.size 2) (.int .i64 4) ?_ ?_ (keyOf_int_mk Tryd.underlying3 (by decide)) _ [] (RF_at _ _ 2 (by decide)) ?_; rfl; rfl; intro wn hown1 hgr1; have hgm1 := hgm.trans hgr1; clear hown hgm; have hown := hown1; have hgm := hgm1; clear hown1 hgm1 hgr1)
      | (refine wpList_insert_own _ rfl _ _ _ 46 rfl 3 1 law3 Tryd.underlying46 (RF w.heap.size w2.heap.size) (w2.heap.size + 1) _ _ rfl hown (by unfold maxLen; omega) (.int .i64 8) (cl w.heap.size w2.heap.size 3) (.int .i64 8) ?_ ?_ (keyOf_int_mk Tryd.underlying3 (by decide)) _ [] (RF_at _ _ 3 (by decide)) ?_; rfl; rfl; intro wn hown1 hgr1; have hgm1 := hgm.trans hgr1; clear hown hgm; have hown := hown1; have hgm := hgm1; clear hown1 hgm1 hgr1)
      | (refine wpList_insert_own _ rfl _ _ _ 46 rfl 3 1 law3 Tryd.underlying46 (RF w.heap.size w2.heap.size) (w2.heap.size + 1) _ _ rfl hown (by unfold maxLen; omega) (.int .i64 16) (cl w.heap.size w2.heap.size 4) (.int .i64 16) ?_ ?_ (keyOf_int_mk Tryd.underlying3 (by decide)) _ [] (RF_at _ _ 4 (by decide)) ?_; rfl; rfl; intro wn hown1 hgr1; have hgm1 := hgm.trans hgr1; clear hown hgm; have hown := hown1; have hgm := hgm1; clear hown1 hgm1 hgr1)
      | (refine wpList_insert_own _ rfl _ _ _ 46 rfl 3 1 law3 Tryd.underlying46 (RF w.heap.size w2.heap.size) (w2.heap.size + 1) _ _ rfl hown (by unfold maxLen; omega) (.int .i64 32) (cl w.heap.size w2.heap.size 5) (.int .i64 32) ?_ ?_ (keyOf_int_mk Tryd.underlying3 (by decide)) _ [] (RF_at _ _ 5 (by decide)) ?_; rfl; rfl; intro wn hown1 hgr1; have hgm1 := hgm.trans hgr1; clear hown hgm; have hown := hown1; have hgm := hgm1; clear hown1 hgm1 hgr1)
      | (refine wpList_insert_own _ rfl _ _ _ 46 rfl 3 1 law3 Tryd.underlying46 (RF w.heap.size w2.heap.size) (w2.heap.size + 1) _ _ rfl hown (by unfold maxLen; omega) (.int .i64 64) (cl w.heap.size w2.heap.size 6) (.int .i64 64) ?_ ?_ (keyOf_int_mk Tryd.underlying3 (by decide)) _ [] (RF_at _ _ 6 (by decide)) ?_; rfl; rfl; intro wn hown1 hgr1; have hgm1 := hgm.trans hgr1; clear hown hgm; have hown := hown1; have hgm := hgm1; clear hown1 hgm1 hgr1)
      | (at_range; refine wpList_range_own _ rfl _ 46 rfl 3 1 law3 Tryd.underlying46 _ (w2.heap.size + 1) 7 _ rfl hown ?_; intro w5 hrg0 hg5 hs0))
    go_frame
    have aG := (a2.alloc _).grown hgm (by have := a2.lt; simp; omega)
    have aR : AC w2 (w.heap.size + 1) 0 0 0 0 ⟨#[]⟩ ⟨#[]⟩ false 0 := by
      have h := AC.new (w.alloc (.cells #[.int .i64 k, .int .i64 n, .int .i64 N, .int .i64 K, .string s, .string t, .bool b, .int .i64 T] 23)) 0 0 0 0 ⟨#[]⟩ ⟨#[]⟩ false 0
      have e : ∀ o, (w.alloc o).heap.size = w.heap.size + 1 := fun o => by simp
      rw [e] at h
      exact h.below hb
    go_loopw [5] (fun _ wr => ∃ (left : Lit → Bool) (cnt : Nat), wr.ranges Tryd.prog 3 (RF w.heap.size w2.heap.size) (w2.heap.size + 1) wn.heap.size 7 D7 left cnt ∧ AC wr w.heap.size k n N K s t b T ∧ BC wr w2.heap.size k n N K s t b T (fun i => !left (.int .i64 (2 ^ i : Nat)) && bH h i) ∧ AC wr (w.heap.size + 1) 0 0 0 0 ⟨#[]⟩ ⟨#[]⟩ false 0 ∧ Below w.heap.size w wr) (fun _ wr => wr.rangeLeft (w2.heap.size + 1) wn.heap.size)
    case atStart =>
      have e : (fun i : Nat => !has D7 (.int .i64 (2 ^ i : Nat)) && bH h i) = fun i => !has D7 (.int .i64 (2 ^ i : Nat)) && bH h i := rfl
      have aO : AC (w2.alloc (.cells #[.int .i64 k, .int .i64 0, .int .i64 0, .int .i64 0, .string ⟨#[]⟩, .string ⟨#[]⟩, .bool false, .int .i64 0] 23)) w2.heap.size k 0 0 0 ⟨#[]⟩ ⟨#[]⟩ false 0 := AC.new w2 k 0 0 0 ⟨#[]⟩ ⟨#[]⟩ false 0
      have aO := (aO.grown hgm (by simp)).grown hg5 (by simp)
      have lR := aR.lt
      refine ⟨_, _, hrg0, aG.grown hg5 (by simp), ?_, ((aR.alloc _).grown hgm (by simp; omega)).grown hg5 (by simp), ?_⟩
      · unfold BC
        have hz : ∀ i, i < 7 → (!has D7 (.int .i64 (2 ^ i : Nat)) && bH h i) = false := fun i hi => by rw [D7_has hi]; rfl
        have z0 := hz 0 (by decide)
        have z1 := hz 1 (by decide)
        have z2 := hz 2 (by decide)
        have z3 := hz 3 (by decide)
        have z4 := hz 4 (by decide)
        have z5 := hz 5 (by decide)
        have z6 := hz 6 (by decide)
        change AC w5 w2.heap.size k (if (!has D7 (.int .i64 (2 ^ 0 : Nat)) && bH h 0) = true then n else 0) (if (!has D7 (.int .i64 (2 ^ 1 : Nat)) && bH h 1) = true then N else 0) (if (!has D7 (.int .i64 (2 ^ 2 : Nat)) && bH h 2) = true then K else 0) (if (!has D7 (.int .i64 (2 ^ 5 : Nat)) && bH h 5) = true then s else ⟨#[]⟩) (if (!has D7 (.int .i64 (2 ^ 6 : Nat)) && bH h 6) = true then t else ⟨#[]⟩) (if (!has D7 (.int .i64 (2 ^ 4 : Nat)) && bH h 4) = true then b else false) (if (!has D7 (.int .i64 (2 ^ 3 : Nat)) && bH h 3) = true then T else 0)
        rw [z0, z1, z2, z3, z4, z5, z6]
        exact aO
      · have e : ∀ (W : World) o, (W.alloc o).heap.size = W.heap.size + 1 := fun W o => by simp
        have hb2 := hb.mono (B' := w.heap.size) (by rw [e, e]; omega)
        have h1 := (((Below.refl w.heap.size w).alloc (Nat.le_refl _) (.cells #[.int .i64 k, .int .i64 n, .int .i64 N, .int .i64 K, .string s, .string t, .bool b, .int .i64 T] 23)).alloc (by rw [e]; omega) (.cells #[.int .i64 0, .int .i64 0, .int .i64 0, .int .i64 0, .string ⟨#[]⟩, .string ⟨#[]⟩, .bool false, .int .i64 0] 23)).trans hb2
        have h2 := h1.alloc (by omega) (.cells #[.int .i64 k, .int .i64 0, .int .i64 0, .int .i64 0, .string ⟨#[]⟩, .string ⟨#[]⟩, .bool false, .int .i64 0] 23)
        have h3 := h2.grown hgm (by rw [e]; omega) (fun k hk => by cases hk; omega)
        exact h3.grown hg5 (by have := aG.lt; omega) (fun k hk => by cases hk)
    case round =>
      obtain ⟨left, cnt, hrg, hG, hO, hR, hB⟩ := hrel
      have invK : ∀ key kl, keyOf Tryd.prog 3 key = some kl → ∃ x : Int, key = .int .i64 x := fun key kl hkey => by obtain ⟨x, rfl, _⟩ := Maps.keyOf_int_inv Tryd.underlying3 hkey; exact ⟨x, rfl⟩
      have invV : ∀ v y, RF w.heap.size w2.heap.size v = some y → ∃ i : Nat, v = cl w.heap.size w2.heap.size i := fun v y h => by obtain ⟨i, _, h, _⟩ := RF_inv h; exact ⟨i, h⟩
      go_wp2_with (at_next; refine wpList_next_ranges _ rfl _ rfl 3 law3 (RF w.heap.size w2.heap.size) (fun x : Int => .int .i64 x) (cl w.heap.size w2.heap.size) invK invV (w2.heap.size + 1) wn.heap.size 7 D7 left cnt rfl hrg ?_ ?_)
      · intro _ hl0
        have hF : (fun i : Nat => !left (.int .i64 (2 ^ i : Nat)) && bH h i) = bH h := by funext i; rw [hl0]; rfl
        rw [hF] at hO
        unfold BC at hO
        change AC wr w2.heap.size k (cI h 0 n) (cI h 1 N) (cI h 2 K) (cS h 5 s) (cS h 6 t) (cB h 4 b) (cI h 3 T) at hO
        have c0 := hO.c0
        have c1 := hO.c1
        have c2 := hO.c2
        have c3 := hO.c3
        have c4 := hO.c4
        have c5 := hO.c5
        have c6 := hO.c6
        have c7 := hO.c7
        have r0 := hR.c0
        have r1 := hR.c1
        have r2 := hR.c2
        have r3 := hR.c3
        have r4 := hR.c4
        have r5 := hR.c5
        have r6 := hR.c6
        have r7 := hR.c7
        have rf := hR.fr
        clear hrg0 hrg hown a0 a2 hgm invK invV
        go_wp2
        have lR := hR.lt
        have hB2 := (((((((hB.setCell (p := ⟨w.heap.size + 1, 0, none⟩) (by simp) (.int .i64 k)).setCell (p := ⟨w.heap.size + 1, 1, none⟩) (by simp) (.int .i64 (cI h 0 n))).setCell (p := ⟨w.heap.size + 1, 2, none⟩) (by simp) (.int .i64 (cI h 1 N))).setCell (p := ⟨w.heap.size + 1, 3, none⟩) (by simp) (.int .i64 (cI h 2 K))).setCell (p := ⟨w.heap.size + 1, 4, none⟩) (by simp) (.string (cS h 5 s))).setCell (p := ⟨w.heap.size + 1, 5, none⟩) (by simp) (.string (cS h 6 t))).setCell (p := ⟨w.heap.size + 1, 6, none⟩) (by simp) (.bool (cB h 4 b))).setCell (p := ⟨w.heap.size + 1, 7, none⟩) (by simp) (.int .i64 (cI h 3 T))
        have hZ := (((((((hR.s0 k).s1 (cI h 0 n)).s2 (cI h 1 N)).s3 (cI h 2 K)).s4 (cS h 5 s)).s5 (cS h 6 t)).s6 (cB h 4 b)).s7 (cI h 3 T)
        clear rf r0 r1 r2 r3 r4 r5 r6 r7 c0 c1 c2 c3 c4 c5 c6 c7 hO hR hG hB
        generalize ((((((((wr.setCell ⟨w.heap.size + 1, 0, none⟩ (.int .i64 k)).setCell ⟨w.heap.size + 1, 1, none⟩ (.int .i64 (cI h 0 n))).setCell ⟨w.heap.size + 1, 2, none⟩ (.int .i64 (cI h 1 N))).setCell ⟨w.heap.size + 1, 3, none⟩ (.int .i64 (cI h 2 K))).setCell ⟨w.heap.size + 1, 4, none⟩ (.string (cS h 5 s))).setCell ⟨w.heap.size + 1, 5, none⟩ (.string (cS h 6 t))).setCell ⟨w.heap.size + 1, 6, none⟩ (.bool (cB h 4 b))).setCell ⟨w.heap.size + 1, 7, none⟩ (.int .i64 (cI h 3 T))) = wz at *
        have r0 := hZ.c0
        have r1 := hZ.c1
        have r2 := hZ.c2
        have r3 := hZ.c3
        have r4 := hZ.c4
        have r5 := hZ.c5
        have r6 := hZ.c6
        have r7 := hZ.c7
        refine bodyPost_ret (by simp [results, Tryd.results13, go_sem, r0, r1, r2, r3, r4, r5, r6, r7]; rfl) rfl ?_
        exact ⟨by rw [kI, if_neg h0], hB2⟩
      · intro x i kl y ps w1 cnt1 hlk hcv hat hrv hrg1 hlt hg1 hs1 hen
        obtain ⟨x', ex, rfl, hwx⟩ := Maps.keyOf_int_inv Tryd.underlying3 hlk
        cases ex
        obtain ⟨i', hi, e1, e2⟩ := RF_inv hat
        have ei : i = i' := by simpa [cl] using e1
        subst ei
        have ey := (Prod.ext_iff.1 e2).1
        simp only at ey
        subst ey
        have hx := D7_at hi hrv
        clear e1 e2
        have lG := aG.lt
        have l2 : w2.heap.size + 1 ≤ wn.heap.size := by have := hgm.size; simpa using this
        have lR := aR.lt
        have hB1 := hB.grown hg1 (by have := hG.lt; omega) (fun k hk => by cases hk; omega)
        have hG1 := hG.grown hg1 (by simp; omega)
        have hR1 := hR.grown hg1 (by simp; omega)
        have hO1 : BC w1 w2.heap.size k n N K s t b T (fun i => !left (.int .i64 (2 ^ i : Nat)) && bH h i) := AC.grown hO hg1 (by simp; omega)
        go_upto_region 9 with fail
        · have hq : bH h i = true := by subst hx; simpa [bH] using (by assumption : (Go.bits .and .i64 h _ != 0) = true)
          have hk3 : ∀ w3 : World, w1.grownBy w3 (some w2.heap.size) → BC w3 w2.heap.size k n N K s t b T (fun j => (!left (.int .i64 (2 ^ j : Nat)) && bH h j) || decide (j = i)) → (∃ (left : Lit → Bool) (cnt : Nat), w3.ranges Tryd.prog 3 (RF w.heap.size w2.heap.size) (w2.heap.size + 1) wn.heap.size 7 D7 left cnt ∧ AC w3 w.heap.size k n N K s t b T ∧ BC w3 w2.heap.size k n N K s t b T (fun i => !left (.int .i64 (2 ^ i : Nat)) && bH h i) ∧ AC w3 (w.heap.size + 1) 0 0 0 0 ⟨#[]⟩ ⟨#[]⟩ false 0 ∧ Below w.heap.size w w3) ∧ w3.rangeLeft (w2.heap.size + 1) wn.heap.size < wr.rangeLeft (w2.heap.size + 1) wn.heap.size := by
            intro w3 hg3 hO3
            subst hx
            have hrg3 := hrg1.kept hg3 (by simp) (by simp; omega)
            exact ⟨⟨_, cnt1, hrg3, hG1.grown hg3 (by simp; omega), by rw [step1 left hq]; exact hO3, hR1.grown hg3 (by simp; omega), hB1.grown hg3 (by have := hG1.lt; omega) (fun k hk => by cases hk; omega)⟩, by rw [hrg3.left_eq, hrg.left_eq]; exact hlt⟩
          clear hrg hrg1 hen hown hgm hrg0 hat hrv hcv hlk hwx hg1 hs1
          have hi' : i = 0 ∨ i = 1 ∨ i = 2 ∨ i = 3 ∨ i = 4 ∨ i = 5 ∨ i = 6 := by omega
          unfold cl
          rcases hi' with rfl | rfl | rfl | rfl | rfl | rfl | rfl
          · have hc : Calls Tryd.prog 34 _ _ _ := cl_walk hG1 hO1 0 (by decide)
            go_wp2_with (go_at_call 34; (with_reducible refine hc.mono ?_); rintro e w3 ⟨rfl, hO3, hg3, hs3⟩)
            exact hk3 w3 hg3 hO3
          · have hc : Calls Tryd.prog 35 _ _ _ := cl_walk hG1 hO1 1 (by decide)
            go_wp2_with (go_at_call 35; (with_reducible refine hc.mono ?_); rintro e w3 ⟨rfl, hO3, hg3, hs3⟩)
            exact hk3 w3 hg3 hO3
          · have hc : Calls Tryd.prog 36 _ _ _ := cl_walk hG1 hO1 2 (by decide)
            go_wp2_with (go_at_call 36; (with_reducible refine hc.mono ?_); rintro e w3 ⟨rfl, hO3, hg3, hs3⟩)
            exact hk3 w3 hg3 hO3
          · have hc : Calls Tryd.prog 37 _ _ _ := cl_walk hG1 hO1 3 (by decide)
            go_wp2_with (go_at_call 37; (with_reducible refine hc.mono ?_); rintro e w3 ⟨rfl, hO3, hg3, hs3⟩)
            exact hk3 w3 hg3 hO3
          · have hc : Calls Tryd.prog 38 _ _ _ := cl_walk hG1 hO1 4 (by decide)
            go_wp2_with (go_at_call 38; (with_reducible refine hc.mono ?_); rintro e w3 ⟨rfl, hO3, hg3, hs3⟩)
            exact hk3 w3 hg3 hO3
          · have hc : Calls Tryd.prog 39 _ _ _ := cl_walk hG1 hO1 5 (by decide)
            go_wp2_with (go_at_call 39; (with_reducible refine hc.mono ?_); rintro e w3 ⟨rfl, hO3, hg3, hs3⟩)
            exact hk3 w3 hg3 hO3
          · have hc : Calls Tryd.prog 40 _ _ _ := cl_walk hG1 hO1 6 (by decide)
            go_wp2_with (go_at_call 40; (with_reducible refine hc.mono ?_); rintro e w3 ⟨rfl, hO3, hg3, hs3⟩)
            exact hk3 w3 hg3 hO3
        · have hq : bH h i = false := by subst hx; simpa [bH] using (by assumption : (Go.bits .and .i64 h _ != 0) = false)
          go_roundw
          case rel =>
            subst hx
            exact ⟨_, cnt1, hrg1, hG1, by rw [step0 left hq]; exact hO1, hR1, hB1⟩
          case measure => rw [hrg1.left_eq, hrg.left_eq]; exact hlt
end Go.Proofs.YtjjimkmbbifbjaaDoor.SW
