/-
  Chapter 08: the document's box.
-/
import Derived.Test.YtgomnnddfddkhaaMailRows
import Derived.ArgAppend
import Derived.Deep.RegionHeld3
namespace Go.Proofs.Ytgomnnddfddkhaa.ML
open Go.RowKit Go.Conc Go.Proofs.Ytgomnnddfddkhaa

/-- Texts in a row, from any place of a block on. -/
def ORow (w : World) (v : Value) (l : List ByteArray) : Prop :=
  (v = .slice none 0 0 ∧ l = []) ∨ ∃ g off k cur, v = .slice (some ⟨g, off, none⟩) l.length k ∧ w.heap[g]? = some (.cells cur 9 (0, 0)) ∧ l.length ≤ k ∧ off + k ≤ cur.size ∧ k ≤ maxLen ∧ ∀ j (hj : j < l.length), cur[off + j]? = some (.string (l[j]'hj))
theorem ORow.own {w : World} {N : Nat} {v : Value} {l : List ByteArray} (h : w.ownsRow N 9 1 v l.length (l.map Value.string)) : ORow w v l := by
  have h0 := h
  rcases h.2 with ⟨rfl, hl⟩ | ⟨g, cap, cur, rfl, _, hg, hle, hm, hs, ht⟩
  · exact .inl ⟨rfl, List.eq_nil_of_length_eq_zero hl⟩
  · refine .inr ⟨g, 0, cap, cur, rfl, hg, hle, by omega, hm, fun j hj => ?_⟩
    have hc := h0.cellAt j (by omega)
    rw [cell_in hg] at hc
    rw [Nat.zero_add, hc]
    simp [hj]
theorem ORow.of {w w2 : World} {v : Value} {l : List ByteArray} (h : ORow w v l) (hb : ∀ g, v.ownBlock = some g → w2.heap[g]? = w.heap[g]?) : ORow w2 v l := by
  rcases h with h | ⟨g, off, k, cur, rfl, hg, r⟩
  · exact .inl h
  · exact .inr ⟨g, off, k, cur, rfl, (hb g rfl).trans hg, r⟩
theorem ORow.lt {w : World} {v : Value} {l : List ByteArray} (h : ORow w v l) : ∀ g, v.ownBlock = some g → g < w.heap.size := by
  rintro b e
  rcases h with ⟨rfl, _⟩ | ⟨g, off, k, cur, rfl, hg, _⟩
  · cases e
  · cases e
    exact (Array.getElem?_eq_some_iff.1 hg).1
theorem ORow.kind {w : World} {v : Value} {l : List ByteArray} (h : ORow w v l) {b : Nat} {o : Obj} (ho : w.heap[b]? = some o) (hn : ∀ cur, o ≠ .cells cur 9 (0, 0)) : v.ownBlock ≠ some b := by
  intro e
  rcases h with ⟨rfl, _⟩ | ⟨g, off, k, cur, rfl, hg, _⟩
  · cases e
  · cases e
    rw [ho] at hg
    exact hn _ (Option.some.inj hg)
theorem ORow.form {w : World} {v : Value} {l : List ByteArray} (h : ORow w v l) : ∃ o k, v = .slice o l.length k := by
  rcases h with ⟨rfl, rfl⟩ | ⟨g, off, k, cur, rfl, _⟩
  · exact ⟨_, _, rfl⟩
  · exact ⟨_, _, rfl⟩
theorem ORow.srow {w : World} {o : Option Addr} {k : Nat} {l : List ByteArray} (h : ORow w (.slice o l.length k) l) : SRow w o l := fun j hj => by
  rcases h with ⟨_, rfl⟩ | ⟨g, off, k2, cur, e, hg, hle, hs, _, hc⟩
  · simp at hj
  · obtain ⟨ho, _, _⟩ := Value.slice.inj e
    subst ho
    refine ⟨⟨g, off, none⟩, rfl, ?_, (Array.getElem?_eq_some_iff.1 hg).1⟩
    rw [Addr.add_lit, cell_in hg]
    exact hc j hj
theorem set_cell9 {w : World} {g t : Nat} {cur : Array Value} {fr : Nat × Nat} (hg : w.heap[g]? = some (.cells cur t fr)) (off : Nat) (v : Value) : (w.setCell ⟨g, off, none⟩ v).heap[g]? = some (.cells (cur.setIfInBounds off v) t fr) := by
  unfold World.setCell
  simp only
  rw [Array.getElem?_modify]
  simp [hg]
/-- append of one text to such a row. -/
theorem wpList_append_orow {w : World} {ops : Array Oper} {rest : List Oper} {o : Oper} {a : Act} {Q : Exit → Act → World → Prop} (hgd : o.guard = none) (s x : Operand)
    (ho : o.op = .call { callee := .builtin .append, args := #[s, x], argTypes := #[36, 36] }) (v : Value) (l : List ByteArray) (t : ByteArray) (B0 : Nat) (hs : a.eval s = v) (hx : a.eval x = .slice (some ⟨B0, 0, none⟩) 1 1)
    (h : ORow w v l) (hB : w.heap[B0]? = some (.cells #[.string t] 9 (0, 0))) (hl : l.length ≤ 100000)
    (hq : ∀ v2 w2, ORow w2 v2 (l ++ [t]) → w.grownBy w2 v.ownBlock → (v2.ownBlock = v.ownBlock ∨ ∀ b, v2.ownBlock = some b → w.heap.size ≤ b) → wpList Try.prog ops Q rest (a.put o.dst v2) w2) : wpList Try.prog ops Q (o :: rest) a w := by
  obtain ⟨i0, hi9, hz9⟩ := Option.map_eq_some_iff.1 info9
  simp only [Prod.mk.injEq] at hz9
  obtain ⟨hz0, hz1, hz2⟩ := hz9
  rcases h with ⟨rfl, rfl⟩ | ⟨g, off, k, cur, rfl, hg, hle, hsz, hm, hc⟩
  · refine wpList_append_own_at w hgd s x 36 ho 0 9 i0 (.string ⟨#[]⟩) 1 16 Try.underlying36 hi9 hz0 hz1 hz2 rfl (by decide) (.slice none 0 0) 0 [] hs (World.ownsRow_nil _ _ _ _) ⟨B0, 0, none⟩ 1 1 [.string t] hx rfl (World.news_of_block (cs := #[.string t]) (t := 9) (fr := (0, 0)) hB) (by simp [Value.oneCell']) (by simp only [maxLen]; omega) (by omega) (Nat.zero_le _) (fun v2 w2 h1 h2 _ h4 => hq v2 w2 (ORow.own (N := 0) h1) h2 (.inr fun b e => ?_))
    rcases h4 with e2 | e2
    · rw [e2] at e; cases e
    · rw [e2] at e; cases e; exact Nat.le_refl _
  · have hlen : l.length = (l.map Value.string).length := by simp
    refine wpList_append_arg w hgd s x 36 ho 9 i0 (.string ⟨#[]⟩) 1 16 Try.underlying36 hi9 hz0 hz1 hz2 rfl (by decide) g off l.length k (l.map Value.string) hs (by simp) (fun j u hu => ?_) ⟨B0, 0, none⟩ 1 1 [.string t] hx rfl (World.news_of_block (cs := #[.string t]) (t := 9) (fr := (0, 0)) hB) (by simp [Value.oneCell']) (fun hr j hj => ?_) (by simp only [maxLen]; omega) (by omega) (fun hr => ?_) (fun hr v2 w2 h1 h2 => ?_)
    · obtain ⟨hjl, rfl⟩ := List.getElem?_eq_some_iff.1 hu
      rw [cell_in hg, hc j (by simpa using hjl)]
      simp
    · simp at hj
      subst hj
      rw [cell_in hg]
      refine ⟨?_, by simp [World.frozen?, hg]⟩
      rw [Array.getElem?_eq_getElem (by omega)]
      rfl
    · have hw : w.setCells g (off + l.length * 1) [.string t] = w.setCell ⟨g, off + l.length, none⟩ (.string t) := by simp [World.setCells]
      rw [hw]
      have hset : (w.setCell ⟨g, off + l.length, none⟩ (.string t)).heap[g]? = some (.cells (cur.setIfInBounds (off + l.length) (.string t)) 9 (0, 0)) := by
        exact set_cell9 hg _ _
      refine hq _ _ (.inr ⟨g, off, k, _, by simp, hset, by rw [List.length_append]; exact hr, by simpa using hsz, hm, fun j hj => ?_⟩) ⟨rfl, rfl, rfl, by simp [World.setCell], fun b _ hb => Below.heap_setCell _ _ _ _ (fun e => hb (by rw [e]; rfl))⟩ (.inl rfl)
      rw [List.length_append, List.length_singleton] at hj
      by_cases hjl : j < l.length
      · rw [Array.getElem?_setIfInBounds_ne (by omega), hc j hjl, List.getElem_append_left hjl]
      · have hj2 : j = l.length := by omega
        subst hj2
        rw [Array.getElem?_setIfInBounds_self_of_lt (by omega)]
        simp
    · refine hq v2 w2 (ORow.own (N := w.heap.size) (by simpa using h1)) ⟨h2.os, h2.tape, h2.output, h2.size, fun b hb _ => h2.block b hb (by simp)⟩ (.inr fun b e => (h1.lt b e).1)

end Go.Proofs.Ytgomnnddfddkhaa.ML
