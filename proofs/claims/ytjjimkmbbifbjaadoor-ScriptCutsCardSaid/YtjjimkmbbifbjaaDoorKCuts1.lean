import Derived.Test.YtjjimkmbbifbjaaDoorChecked
import Derived.RangeFuncNested
import Derived.RangeFuncBound
import Derived.RangeFuncCalls
import Derived.RangeFuncLeaves
import Derived.RangeFuncBox
import Derived.Shelf.Abstract
import Derived.Shelf.RegionOpen
import Derived.WalkKit
import Derived.OwnWalkIn
import Derived.TacticsInMore
import Derived.LoopNIn
import Derived.LoopIn
namespace Go.Proofs.YtjjimkmbbifbjaaDoor.TW
open Go Go.RowKit Go.Shelf Go.Proofs.YtjjimkmbbifbjaaDoor
theorem setCell_other {W : World} {l : Nat} {o : Obj} (h : W.heap[l]? = some o) (ho : o.isCells = false) (p : Addr) (v : Value) : (W.setCell p v).heap[l]? = some o := by
  by_cases e : l = p.block
  · subst e
    unfold World.setCell
    simp only
    rw [Array.getElem?_modify]
    simp only [h, if_true, Option.map_some]
    cases o <;> first | rfl | (simp [Obj.isCells] at ho)
  · exact (Below.heap_setCell _ _ _ _ e).trans h
theorem range_state {α σ : Type} {P : Program} {n : Nat} {g : Operand} {ps : Array Tmp} {assign body : Code} {Q : Exit → Act → World → Prop} {a : Act} {w : World}
    {gf : Nat} {lb : Array Value} (hg : a.eval g = .func (.func gf) #[] lb) (eg : ∀ args w, (callFunc gf args).run P w = .ok (.enter gf args) w)
    (encs : α → Array Value) (hps : ∀ x, (encs x).size = ps.size) (J : σ → World → Prop) (st : σ → α → σ) (Ok : σ → α → Prop) (s0 s1 : σ)
    (hJo : ∀ s W l o o', J s W → w.heap.size ≤ l → W.heap[l]? = some o → o.isCells = false → J s (W.putObj l o'))
    (hJa : ∀ s W o, J s W → J s (W.alloc o)) (h0 : J s0 w) (a₁ : α → Act)
    (hassign : ∀ (l : Nat) (x : α) (W : World) (K : Act → World → Prop), K (a₁ x) W →
      assign.wpIn (Fence.wide.inRound l) (n - 1 - 1) P (Exit.then K (fun _ _ _ => False)) { tmps := (ps.zip (encs x)).foldl (fun t (p, v) => t.setIfInBounds p v) a.tmps, defers := [] } W)
    (hbody : ∀ (l : Nat) (s : σ) (x : α) (W : World), Ok s x → J s W → body.wpIn (Fence.wide.inRound l) (n - 1 - 1) P (fun e _ W' => e = .normal ∧ KeepsOthers W W' ∧ J (st s x) W') (a₁ x) W)
    (hseq : ∀ (l : Nat) (J' : σ → World → Prop) (W : World), (∀ s W, J' s W → J s W) → (∀ s s' W p v, J' s W → J s' (W.setCell p v) → J' s' (W.setCell p v)) →
      (∀ s x W1, Ok s x → J' s W1 → YieldAt Fence.wide (n - 1 - 1) P l (encs x) W1 fun e W' => e = .returned (.bool true) ∧ J' (st s x) W') → J' s0 W →
      CallsIn Fence.wide (n - 1) P gf (#[.func (.yield l) #[] #[]] ++ lb) W fun e W' => (∃ v, e = .returned v) ∧ J' s1 W')
    (hdone : ∀ (D : Nat) (W : World), w.heap.size ≤ D → J s1 W → W.heap[D]? = some (.deferred (some [])) → Q .normal { a with defers := { target := .collected D, args := #[] } :: a.defers } W) :
    (Code.rangeFunc g ps assign body).wpIn Fence.wide n P Q a w := by
  refine wpIn_rangeFunc fun fn _ => ?_
  obtain ⟨W1, hW1⟩ : ∃ W1, (w.alloc (.deferred (some []))).alloc (.loop { state := .ready, pending := none, fn, tmps := a.tmps, params := ps, assign, body, defers := w.heap.size }) = W1 := ⟨_, rfl⟩
  obtain ⟨rec, hrec⟩ : ∃ rec : Loop, rec = { state := .ready, pending := none, fn, tmps := a.tmps, params := ps, assign, body, defers := w.heap.size } := ⟨_, rfl⟩
  rw [← hrec] at hW1
  have hJ1 : J s0 W1 := by rw [← hW1]; exact hJa _ _ _ (hJa _ _ _ h0)
  have hl1 : W1.heap[w.heap.size + 1]? = some (.loop rec) := by
    rw [← hW1]
    have := World.alloc_heap_new (w.alloc (.deferred (some []))) (.loop rec)
    rwa [World.size_alloc] at this
  have hd1 : W1.heap[w.heap.size]? = some (.deferred (some [])) := by
    rw [← hW1]
    exact (Below.heap_alloc _ _ _ (by simp)).trans (World.alloc_heap_new w _)
  refine ⟨w.heap.size + 1, [{ target := .collected w.heap.size, args := #[] }], W1, { target := .fn (.func gf) lb, args := #[.func (.yield (w.heap.size + 1)) #[] #[]] }, W1, gf, #[.func (.yield (w.heap.size + 1)) #[] #[]] ++ lb, W1, ?_, ?_, fun _ _ => trivial, ?_, (fun h => by cases h), ?_⟩
  · rw [← hW1, hrec]
    exact run_enterLoop_outer _ _ _ _ _
  · simp only [resolve, hg]
    simp [go_sem]
  · simp [invoke, go_sem, eg]
  refine (hseq (w.heap.size + 1) (fun s W => J s W ∧ W.heap[w.heap.size + 1]? = some (.loop rec) ∧ W.heap[w.heap.size]? = some (.deferred (some []))) W1 (fun s W h => h.1)
    (fun s s' W p v h1 h2 => ⟨h2, setCell_other h1.2.1 rfl p v, setCell_other h1.2.2 rfl p v⟩) ?_ ⟨hJ1, hl1, hd1⟩).mono ?_
  · rintro s x W hok ⟨hj, hl, hd⟩
    have hlt : w.heap.size + 1 < W.heap.size := (Array.getElem?_eq_some_iff.1 hl).1
    have hy := run_yield (P := P) (args := encs x) hl (by rw [hrec]; exact hps x)
    have hb := run_beginRound (P := P) hl (by rw [hrec])
    obtain ⟨busy, hbusy⟩ : ∃ busy : Loop, busy = { rec with state := .busy } := ⟨_, rfl⟩
    rw [← hbusy] at hb
    have hl2 : (W.putObj (w.heap.size + 1) (.loop busy)).heap[w.heap.size + 1]? = some (.loop busy) := World.putObj_heap_same hlt
    have hd2 : (W.putObj (w.heap.size + 1) (.loop busy)).heap[w.heap.size]? = some (.deferred (some [])) := (World.putObj_heap_other (by omega)).trans hd
    have hj2 : J s (W.putObj (w.heap.size + 1) (.loop busy)) := hJo _ _ _ _ _ hj (by omega) hl rfl
    rw [hrec] at hy
    refine ⟨_, _, _, _, hy, roundIn_of_wpIn trivial (hassign _ x W _ ⟨_, hb, ?_⟩)⟩
    refine wpIn_mono (hbody _ s x _ hok hj2) ?_
    rintro e a3 W3 ⟨rfl, hk, hj3⟩
    have hl3 := hk.same _ _ hl2 rfl
    have hd3 := hk.same _ _ hd2 rfl
    have he := run_endRound (P := P) none hl3
    have hback : { busy with state := if (none : Option Code).isNone then .ready else .done, pending := (none : Option Code) } = rec := by rw [hbusy, hrec]; rfl
    rw [hback] at he
    exact ⟨_, _, he, rfl, hJo _ _ _ _ _ hj3 (by omega) hl3 rfl, World.putObj_heap_same (Array.getElem?_eq_some_iff.1 hl3).1, (World.putObj_heap_other (by omega)).trans hd3⟩
  · rintro e W2 ⟨⟨v, rfl⟩, hj, hl, hd⟩
    have he := run_endLoop (P := P) hl (by rw [hrec]; simp)
    refine ⟨none, _, by rw [he, hrec], ?_⟩
    exact hdone _ _ (Nat.le_refl _) (hJo _ _ _ _ _ hj (by omega) hl rfl) ((World.putObj_heap_other (by omega)).trans hd)
end Go.Proofs.YtjjimkmbbifbjaaDoor.TW
