/-
  Chapter 08: rows of texts of the call's own beside boxes.
-/
import Derived.Test.YtgomnnddfddkhaaMailOps
namespace Go.Proofs.Ytgomnnddfddkhaa.ML
open Go.RowKit Go.Conc Go.Proofs.Ytgomnnddfddkhaa

section
variable {N : Nat} {w0 w w2 : World} {A c cap B d cap2 n : Nat} {l l2 m : List ByteArray} {v : Value} {xs : List Value}
theorem own_obj (h : w.ownsRow N 9 1 v n xs) {k : Nat} {o : Obj} (ho : w.heap[k]? = some o) (hn : ∀ cur, o ≠ .cells cur 9 (0, 0)) : v.ownBlock ≠ some k := by
  intro e
  rcases h.2 with ⟨rfl, _⟩ | ⟨g, cap, cur, rfl, _, hg, _⟩
  · simp [Value.ownBlock] at e
  · simp [Value.ownBlock] at e
    subst e
    rw [ho] at hg
    exact hn _ (Option.some.inj hg)
theorem own_ne_chan (h : w.ownsRow N 9 1 v n xs) (hm : MAt w A c cap l) : v.ownBlock ≠ some c := by
  obtain ⟨s, r, hc⟩ := hm.chan
  exact own_obj h hc (fun cur e => by cases e)
theorem own_ne_box (h : w.ownsRow N 9 1 v n xs) (hm : MAt w A c cap l) : v.ownBlock ≠ some A := own_obj h hm.box (fun cur e => by simp at e)
theorem own_keeps (h : w.ownsRow N 9 1 v n xs) (hm : MAt w A c cap l) (hK : MKeeps w w2 c) : w2.ownsRow N 9 1 v n xs :=
  h.kept (row := some c) ⟨hK.os, hK.tape, hK.output, hK.size, fun b hb hc2 => hK.block b hb (fun e => hc2 (by rw [e]))⟩ (.inr (own_ne_chan h hm))
theorem own_below (h : w.ownsRow N 9 1 v n xs) (hb : Below w.heap.size w w2) : w2.ownsRow N 9 1 v n xs :=
  h.kept (row := none) ⟨hb.os, hb.tape, hb.output, hb.size, fun k hk _ => hb.block k hk⟩ (by
    cases hV : v.ownBlock with
    | none => exact .inl rfl
    | some b => exact .inr (by simp))
theorem MAt.grown (h : MAt w A c cap l) (hrow : w.ownsRow N 9 1 v n xs) (hg : w.grownBy w2 v.ownBlock) : MAt w2 A c cap l :=
  ⟨(hg.block A h.ltA (fun e => own_ne_box hrow h e.symm)).trans h.box, by obtain ⟨s, r, hc⟩ := h.chan; exact ⟨s, r, (hg.block c h.ltc (fun e => own_ne_chan hrow h e.symm)).trans hc⟩, h.le⟩
theorem MO.grown (h : MO N w0 w A c cap l) (hrow : w.ownsRow N 9 1 v n xs) (hg : w.grownBy w2 v.ownBlock) : MO N w0 w2 A c cap l :=
  ⟨h.at_.grown hrow hg, h.bel.grown hg h.base (fun k hk => (hrow.lt k hk).1), Nat.le_trans h.base hg.size, h.lowA, h.lowc⟩
end
/-- Another row, behind an append to one's own: of another block. -/
theorem own_other {N N2 : Nat} {w w2 : World} {v u : Value} {n k : Nat} {xs ys : List Value} (h : w.ownsRow N 9 1 v n xs) (hg : w.grownBy w2 u.ownBlock) (_hu : w.ownsRow N2 9 1 u k ys) (hne : v.ownBlock = none ∨ v.ownBlock ≠ u.ownBlock) : w2.ownsRow N 9 1 v n xs := h.kept hg hne
theorem strs_one (l : List ByteArray) : ∀ u ∈ l.map Value.string, u.oneCell' = true := by
  intro u hu
  obtain ⟨x, _, rfl⟩ := List.mem_map.1 hu
  rfl
/-- append of a whole row to a row, both of the call's own. -/
theorem wpList_append_row {w : World} {ops : Array Oper} {rest : List Oper} {o : Oper} {a : Act} {Q : Exit → Act → World → Prop} (hgd : o.guard = none) (s x : Operand)
    (ho : o.op = .call { callee := .builtin .append, args := #[s, x], argTypes := #[36, 36] }) (base base2 : Nat) (v q : Value) (n m : Nat) (xs : List Value) (ys : List ByteArray) (hs : a.eval s = v) (hx : a.eval x = q)
    (hown : w.ownsRow base 9 1 v n xs) (hq : w.ownsRow base2 9 1 q m (ys.map Value.string)) (hnm : n + m ≤ 100000) (hb : base ≤ w.heap.size)
    (h : ∀ v2 w2, w2.ownsRow base 9 1 v2 (n + m) (xs ++ ys.map Value.string) → w.grownBy w2 v.ownBlock → (v2.ownBlock = v.ownBlock ∨ v2.ownBlock = some w.heap.size) → wpList Try.prog ops Q rest (a.put o.dst v2) w2) : wpList Try.prog ops Q (o :: rest) a w := by
  obtain ⟨i0, hi9, hz9⟩ := Option.map_eq_some_iff.1 info9
  simp only [Prod.mk.injEq] at hz9
  obtain ⟨hz0, hz1, hz2⟩ := hz9
  rcases hq.2 with ⟨rfl, rfl⟩ | ⟨g, cap, cur, rfl, r⟩
  · have hy : ys = [] := by
      have := hq.1
      simpa using this
    subst hy
    refine wpList_append_run hgd s x #[36, 36] ho v (.slice none 0 0) hs hx (fun ty => run_append_owned_none w base 36 ty 9 i0 1 Try.underlying36 hi9 v n xs hown) (h v w (by simpa using hown) ⟨rfl, rfl, rfl, Nat.le_refl _, fun _ _ _ => rfl⟩ (.inl rfl))
  · exact wpList_append_own_at w hgd s x 36 ho base 9 i0 (.string ⟨#[]⟩) 1 16 Try.underlying36 hi9 hz0 hz1 hz2 rfl (by decide) v n xs hs hown ⟨g, 0, none⟩ m cap (ys.map Value.string) hx (by have := hq.1; omega) (fun j u hu => hq.cells (g := g) rfl j u hu) (strs_one ys) (by simp only [maxLen]; omega) (by omega) hb (fun v2 w2 h1 h2 _ h4 => h v2 w2 h1 h2 h4)
/-- Same of two rows of the call's own, their length given. -/
theorem same_calls {w : World} {N N2 n k1 k2 : Nat} {o1 o2 : Option Addr} {l : List ByteArray} (hl : l.length = n) (h1 : w.ownsRow N 9 1 (.slice o1 n k1) n (l.map Value.string)) (h2 : w.ownsRow N2 9 1 (.slice o2 n k2) n (l.map Value.string)) (hn : n ≤ 1000000) :
    Calls Try.prog 17 #[.slice o1 n k1, .slice o2 n k2] w fun e w' => e = .returned (.bool true) ∧ Below w.heap.size w w' := by
  subst hl
  exact same_walk (SRow.own h1) (SRow.own h2) hn
/-- Two rows that share no block. -/
def Far (v u : Value) : Prop := ∀ b, v.ownBlock = some b → u.ownBlock ≠ some b
theorem Far.symm {v u : Value} (h : Far v u) : Far u v := fun b e1 e2 => h b e2 e1
theorem Far.grow {w : World} {N n : Nat} {xs : List Value} {v u u2 : Value} (h : Far v u) (hv : w.ownsRow N 9 1 v n xs) (hu : u2.ownBlock = u.ownBlock ∨ u2.ownBlock = some w.heap.size) : Far v u2 := fun b e1 e2 => by
  rcases hu with g | g
  · rw [g] at e2; exact h b e1 e2
  · rw [g] at e2
    have := (hv.lt b e1).2
    simp at e2
    omega
theorem Far.kept {w w2 : World} {N n : Nat} {xs : List Value} {v u : Value} (h : Far v u) (hv : w.ownsRow N 9 1 v n xs) (hg : w.grownBy w2 u.ownBlock) : w2.ownsRow N 9 1 v n xs := hv.kept hg (by
  cases hV : v.ownBlock with
  | none => exact .inl rfl
  | some b => exact .inr (fun e => h b hV e.symm))
end Go.Proofs.Ytgomnnddfddkhaa.ML
