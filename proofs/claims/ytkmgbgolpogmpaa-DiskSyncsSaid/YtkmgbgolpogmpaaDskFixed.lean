/-
  Chapter 09: the law's fixed calls.
-/
import Derived.Test.YtkmgbgolpogmpaaDskCrash2
namespace Go.Proofs.Ytkmgbgolpogmpaa.DK
open Go.RowKit Go.Proofs.Ytkmgbgolpogmpaa

theorem At.eq {w : World} {A : Nat} {W : Value} {n k n' k' : Four} {l l' : List Wr} (h : At w A W n k l) (hn : n = n') (hk : k = k') (hl : l = l') : At w A W n' k' l' := by subst hn; subst hk; subst hl; exact h
theorem At.keeps {w w' : World} {A B : Nat} {W V : Value} {n k : Four} {l : List Wr} (ho : At w B V n k l) (hK : Keeps w w' A W) (h1 : B ≠ A) (h2 : V.ownBlock ≠ some A) (h3 : W.ownBlock ≠ some B) (h4 : ∀ b, V.ownBlock = some b → W.ownBlock ≠ some b) : At w' B V n k l := by
  refine ⟨(hK.block B ho.lt h1 h3).trans ho.cells, ⟨ho.row.1, ?_⟩, ho.apart⟩
  rcases ho.row.2 with h | ⟨g, cap, cur, rfl, hb, hg, r⟩
  · exact .inl h
  · refine .inr ⟨g, cap, cur, rfl, hb, ?_, r⟩
    have hl : g < w.heap.size := (Array.getElem?_eq_some_iff.1 hg).1
    rw [hK.block g hl (fun e => h2 (by rw [← e]; rfl)) (h4 g rfl)]
    exact hg
/-- An empty disk, new. -/
theorem At.new (w : World) : At (w.alloc (.cells (cellsOf zero4 zero4 (.slice none 0 0)) 51)) w.heap.size (.slice none 0 0) zero4 zero4 [] := ⟨heap_alloc_new w _, World.ownsRow_nil _ _ _ _, by simp [Value.ownBlock]⟩
def fA : Four := ⟨⟨#[97, 98, 99]⟩, ⟨#[]⟩, ⟨#[]⟩, ⟨#[]⟩⟩
def fB : Four := ⟨⟨#[97, 98, 99]⟩, ⟨#[113]⟩, ⟨#[]⟩, ⟨#[]⟩⟩
def fC : Four := ⟨⟨#[97, 98]⟩, ⟨#[]⟩, ⟨#[]⟩, ⟨#[]⟩⟩
def fD : Four := ⟨⟨#[97, 98, 122]⟩, ⟨#[]⟩, ⟨#[]⟩, ⟨#[]⟩⟩
def lA : List Wr := [⟨false, 0, ⟨#[97, 98, 99]⟩⟩]
def lB : List Wr := [⟨false, 0, ⟨#[97, 98, 99]⟩⟩, ⟨true, 1, ⟨#[113]⟩⟩]
theorem at_le (n : Four) {b : Nat} (h0 : n.a.size ≤ b) (h1 : n.b.size ≤ b) (h2 : n.c.size ≤ b) (h3 : n.d.size ≤ b) (i : Int) : (n.at i).size ≤ b := by
  unfold Four.at
  (repeat' split) <;> first | assumption | exact Nat.zero_le _
theorem fine_B : Fine fB zero4 lB := ⟨at_le _ (by decide) (by decide) (by decide) (by decide), at_le _ (by decide) (by decide) (by decide) (by decide), by decide, by intro x hx; simp [lB] at hx; rcases hx with rfl | rfl <;> (refine ⟨?_, ?_, ?_⟩ <;> decide)⟩
theorem Keeps.bel {w w1 w2 : World} {N A : Nat} {W : Value} (hK : Keeps w1 w2 A W) (hb : Below N w w1) (hN : N ≤ w1.heap.size) (hA : N ≤ A) (hW : ∀ b, W.ownBlock = some b → N ≤ b) : Below N w w2 :=
  ⟨hK.os.trans hb.os, hK.tape.trans hb.tape, hK.output.trans hb.output, Nat.le_trans hb.size hK.size, fun k hk => (hK.block k (by omega) (by omega) (fun e => by have := hW k e; omega)).trans (hb.block k hk)⟩
/-- A disk of the call's own: it lies from N on. -/
structure Own (N : Nat) (w0 w : World) (A : Nat) (W : Value) (n k : Four) (l : List Wr) : Prop where
  at_ : At w A W n k l
  bel : Below N w0 w
  base : N ≤ w.heap.size
  low : N ≤ A
  row : ∀ b, W.ownBlock = some b → N ≤ b
theorem Own.puts {N : Nat} {w0 w w' : World} {A : Nat} {W : Value} {n k n' k' : Four} {l l' : List Wr} (h : Own N w0 w A W n k l) (hp : Puts w w' A W n' k' l') : ∃ W', Own N w0 w' A W' n' k' l' ∧ Keeps w w' A W ∧ (W'.ownBlock = W.ownBlock ∨ ∀ b, W'.ownBlock = some b → w.heap.size ≤ b) := by
  obtain ⟨W', ha, hK, hw⟩ := hp
  refine ⟨W', ⟨ha, hK.bel h.bel h.base h.low h.row, Nat.le_trans h.base hK.size, h.low, fun b hb => ?_⟩, hK, hw⟩
  rcases hw with e | e
  · exact h.row b (by rw [← e]; exact hb)
  · exact Nat.le_trans h.base (e b hb)
theorem Own.nil {N : Nat} {w0 w w' : World} {A : Nat} {W : Value} {n k n' k' : Four} {l l' : List Wr} (h : Own N w0 w A W n k l) (ha : At w' A (.slice none 0 0) n' k' l') (hK : Keeps w w' A W) : Own N w0 w' A (.slice none 0 0) n' k' l' :=
  ⟨ha, hK.bel h.bel h.base h.low h.row, Nat.le_trans h.base hK.size, h.low, fun b hb => by simp [Value.ownBlock] at hb⟩
theorem Own.below {N : Nat} {w0 w w' : World} {A : Nat} {W : Value} {n k : Four} {l : List Wr} (h : Own N w0 w A W n k l) (hb : Below w.heap.size w w') : Own N w0 w' A W n k l :=
  ⟨h.at_.below hb, h.bel.trans (hb.mono h.base), Nat.le_trans h.base hb.size, h.low, h.row⟩
theorem Own.eq {N : Nat} {w0 w : World} {A : Nat} {W : Value} {n k n' k' : Four} {l l' : List Wr} (h : Own N w0 w A W n k l) (hn : n = n') (hk : k = k') (hl : l = l') : Own N w0 w A W n' k' l' := by subst hn; subst hk; subst hl; exact h
theorem Own.new (w : World) : Own w.heap.size w (w.alloc (.cells (cellsOf zero4 zero4 (.slice none 0 0)) 51)) w.heap.size (.slice none 0 0) zero4 zero4 [] :=
  ⟨At.new w, (Below.refl _ _).alloc (Nat.le_refl _) _, by simp, Nat.le_refl _, fun b hb => by simp [Value.ownBlock] at hb⟩
set_option maxHeartbeats 8000000 in
theorem fixed_walk (w : World) : Calls Try.prog 22 #[] w fun e w' => e = .returned (.bool true) ∧ Below w.heap.size w w' := by
  have hn := Own.new w
  have r1 : appendS zero4 0 ⟨#[97, 98, 99]⟩ = 0 := by decide
  have r2 : appendS fA 4 ⟨#[120]⟩ = 1 := by decide
  have r3 : replaceS (-1) ⟨#[120]⟩ = 1 := by decide
  have r4 : replaceS 1 ⟨#[113]⟩ = 0 := by decide
  have r5 : unitsOf lB = 4 := by decide
  have r6 : fB.at 0 = ⟨#[97, 98, 99]⟩ := rfl
  have r7 : zero4.at 0 = ⟨#[]⟩ := rfl
  have r8 : staysN 2 4 = 2 := by decide
  have r9 : appendS fC 0 ⟨#[122]⟩ = 0 := by decide
  have r10 : fD.at 0 = ⟨#[97, 98, 122]⟩ := rfl
  have r11 : fD.at 1 = ⟨#[]⟩ := rfl
  have r12 : unitsOf [] = 0 := rfl
  have r13 : staysN 99 4 = 4 := by decide
  have r14 : fB.at 1 = ⟨#[113]⟩ := rfl
  have r15 : fB.at 7 = ⟨#[]⟩ := rfl
  go_enter Try.func22, Try.ntmps22
  go_wp2_with (first
    | (go_at_call 9; (with_reducible refine (new_walk _).mono ?_); rintro e w1 ⟨rfl, rfl⟩)
    | (go_at_call 12; (with_reducible refine (append_walk hn.at_ (by decide) (at_le _ (by decide) (by decide) (by decide) (by decide)) 0 ⟨#[97, 98, 99]⟩ (by decide)).mono ?_); rintro e w2 ⟨rfl, hq⟩
       rw [r1, if_pos rfl] at hq
       obtain ⟨W2, h2, _, _⟩ := hn.puts hq
       replace h2 := Own.eq (n' := fA) (l' := lA) h2 (by kernel_rfl) rfl rfl
       clear hq)
    | (go_at_call 12; (with_reducible refine (append_walk h2.at_ (by decide) (at_le _ (by decide) (by decide) (by decide) (by decide)) 4 ⟨#[120]⟩ (by decide)).mono ?_); rintro e w3 ⟨rfl, hq⟩
       rw [r2, if_neg (by decide)] at hq
       subst hq)
    | (go_at_call 24; (with_reducible refine (replace_walk h2.at_ (by decide) (-1) ⟨#[120]⟩ (by decide)).mono ?_); rintro e w3 ⟨rfl, hq⟩
       rw [r3, if_neg (by decide)] at hq
       subst hq)
    | (go_at_call 24; (with_reducible refine (replace_walk h2.at_ (by decide) 1 ⟨#[113]⟩ (by decide)).mono ?_); rintro e w3 ⟨rfl, hq⟩
       rw [r4, if_pos rfl] at hq
       obtain ⟨W3, h3, _, _⟩ := h2.puts hq
       replace h3 := Own.eq (n' := fB) (l' := lB) h3 (by kernel_rfl) rfl rfl
       clear hq)
    | (go_at_call 16; (with_reducible refine (units_walk h3.at_ (by decide) (by decide)).mono ?_); rintro e w4 ⟨rfl, hq⟩
       have h4 := h3.below hq
       clear hq)
    | (go_at_call 18; (with_reducible refine (read_walk h4.at_ 0).mono ?_); rintro e w5 ⟨rfl, rfl⟩)
    | (go_at_call 20; (with_reducible refine (kept_walk h4.at_ 0).mono ?_); rintro e w5 ⟨rfl, rfl⟩)
    | (go_at_call 10; (with_reducible refine (copy_walk h4.at_ (by decide)).mono ?_); rintro e w6 ⟨B, V, rfl, ho, hq, hB, hV⟩
       have h6 := h4.below hq
       have ho6 : Own w.heap.size w w6 B V fB zero4 lB := ⟨ho, h6.bel, h6.base, Nat.le_trans h4.base hB, fun b e => Nat.le_trans h4.base (hV b e)⟩
       have hlt4 := h4.at_.lt
       have s1 := Lib.hid (by omega : B ≠ w.heap.size)
       have s2 := Lib.hid (fun e => by have := hV _ e; omega : V.ownBlock ≠ some w.heap.size)
       have s3 := Lib.hid (fun e => by have := (h4.at_.row.lt _ e).2; omega : W3.ownBlock ≠ some B)
       have s4 := Lib.hid (fun b e e2 => by have := (h4.at_.row.lt _ e2).2; have := hV b e; omega : ∀ b, V.ownBlock = some b → W3.ownBlock ≠ some b)
       clear ho hq hB hV hlt4)
    | (go_at_call 23; (with_reducible refine (crash_walk h6.at_ fine_B 2).mono ?_); rintro e w7 ⟨rfl, hq, hK⟩
       have h7 := h6.nil hq hK
       replace h7 := Own.eq (n' := fC) (k' := fC) (l' := []) h7 (by kernel_rfl) (by kernel_rfl) rfl
       have ho7 : Own w.heap.size w w7 B V fB zero4 lB := ⟨ho6.at_.keeps hK s1.out s2.out s3.out s4.out, h7.bel, h7.base, ho6.low, ho6.row⟩
       clear hq hK)
    | (go_at_call 12; (with_reducible refine (append_walk h7.at_ (by decide) (at_le _ (by decide) (by decide) (by decide) (by decide)) 0 ⟨#[122]⟩ (by decide)).mono ?_); rintro e w8 ⟨rfl, hq⟩
       rw [r9, if_pos rfl] at hq
       obtain ⟨W8, h8, hK, hW⟩ := h7.puts hq
       replace h8 := Own.eq (n' := fD) (k' := fC) (l' := [⟨false, 0, ⟨#[122]⟩⟩]) h8 (by kernel_rfl) rfl rfl
       have ho8 : Own w.heap.size w w8 B V fB zero4 lB := ⟨ho7.at_.keeps hK s1.out s2.out (by simp [Value.ownBlock]) (by simp [Value.ownBlock]), h8.bel, h8.base, ho6.low, ho6.row⟩
       have s5 := Lib.hid (fun e => by
         have := ho7.at_.lt
         rcases hW with h | h
         · rw [h] at e; simp [Value.ownBlock] at e
         · have := h _ e; omega : W8.ownBlock ≠ some B)
       have s6 := Lib.hid (fun b e e2 => by
         have := (ho7.at_.row.lt b e).2
         rcases hW with h | h
         · rw [h] at e2; simp [Value.ownBlock] at e2
         · have := h _ e2; omega : ∀ b, V.ownBlock = some b → W8.ownBlock ≠ some b)
       clear hq hK hW)
    | (go_at_call 13; (with_reducible refine (sync_walk h8.at_).mono ?_); rintro e w9 ⟨rfl, hq, hK⟩
       have h9 := h8.nil hq hK
       have ho9 : Own w.heap.size w w9 B V fB zero4 lB := ⟨ho8.at_.keeps hK s1.out s2.out s5.out s6.out, h9.bel, h9.base, ho6.low, ho6.row⟩
       clear hq hK)
    | (go_at_call 18; (with_reducible refine (read_walk h9.at_ 0).mono ?_); rintro e w5 ⟨rfl, rfl⟩)
    | (go_at_call 20; (with_reducible refine (kept_walk h9.at_ 0).mono ?_); rintro e w5 ⟨rfl, rfl⟩)
    | (go_at_call 18; (with_reducible refine (read_walk h9.at_ 1).mono ?_); rintro e w5 ⟨rfl, rfl⟩)
    | (go_at_call 16; (with_reducible refine (units_walk h9.at_ (by decide) (by decide)).mono ?_); rintro e w10 ⟨rfl, hq⟩
       have ho10 := ho9.below hq
       clear hq)
    | (go_at_call 23; (with_reducible refine (crash_walk ho10.at_ fine_B 99).mono ?_); rintro e w11 ⟨rfl, hq, hK⟩
       have h11 := ho10.nil hq hK
       replace h11 := Own.eq (n' := fB) (k' := fB) (l' := []) h11 (by kernel_rfl) (by kernel_rfl) rfl
       clear hq hK)
    | (go_at_call 20; (with_reducible refine (kept_walk h11.at_ 1).mono ?_); rintro e w5 ⟨rfl, rfl⟩)
    | (go_at_call 18; (with_reducible refine (read_walk h11.at_ 7).mono ?_); rintro e w5 ⟨rfl, rfl⟩)
    )
  go_returns
  exact ⟨rfl, h11.bel⟩
end Go.Proofs.Ytkmgbgolpogmpaa.DK
