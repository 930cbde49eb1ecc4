/-
  Chapter 08: both boxes and the document's, side by side; the document's Turn.
-/
import Derived.Test.YtgomnnddfddkhaaMailRef2
namespace Go.Proofs.Ytgomnnddfddkhaa.ML
open Go.RowKit Go.Conc Go.Proofs.Ytgomnnddfddkhaa

structure JS (N : Nat) (w0 w : World) (A c n : Nat) (la : List ByteArray) (B d k : Nat) (lb : List ByteArray) (X : Nat) (v : Value) (lx : List ByteArray) (Y : Nat) (u : Value) (ly : List ByteArray) : Prop where
  bel : Below N w0 w
  base : N ≤ w.heap.size
  a : MAt w A c n la
  b : MAt w B d k lb
  x : RB w X v n lx
  y : RB w Y u k ly
  sep : Sep A c B d
  xy : X ≠ Y
  far : Far v u
  lc : N ≤ c
  ld : N ≤ d
  lX : N ≤ X
  lY : N ≤ Y
  lv : ∀ b, v.ownBlock = some b → N ≤ b
  lu : ∀ b, u.ownBlock = some b → N ≤ b
section
variable {N : Nat} {w0 w w2 : World} {A c n : Nat} {la : List ByteArray} {B d k : Nat} {lb : List ByteArray} {X : Nat} {v : Value} {lx : List ByteArray} {Y : Nat} {u : Value} {ly : List ByteArray} {la2 lb2 lx2 ly2 : List ByteArray}
theorem JS.below (h : JS N w0 w A c n la B d k lb X v lx Y u ly) (hb : Below w.heap.size w w2) : JS N w0 w2 A c n la B d k lb X v lx Y u ly :=
  ⟨h.bel.trans (hb.mono h.base), Nat.le_trans h.base hb.size, h.a.below hb, h.b.below hb, h.x.below hb, h.y.below hb, h.sep, h.xy, h.far, h.lc, h.ld, h.lX, h.lY, h.lv, h.lu⟩
theorem JS.drew (h : JS N w0 w A c n la B d k lb X v lx Y u ly) : JS N w0 w.drew A c n la B d k lb X v lx Y u ly := h.below (Below.refl _ _).drew
theorem JS.alloc (h : JS N w0 w A c n la B d k lb X v lx Y u ly) (o : Obj) : JS N w0 (w.alloc o) A c n la B d k lb X v lx Y u ly := h.below ((Below.refl _ _).alloc (Nat.le_refl _) o)
theorem JS.fa (h : JS N w0 w A c n la B d k lb X v lx Y u ly) (hm : MAt w2 A c n la2) (hK : MKeeps w w2 c) : JS N w0 w2 A c n la2 B d k lb X v lx Y u ly :=
  ⟨hK.bel h.bel h.base h.lc, Nat.le_trans h.base hK.size, hm, h.b.keeps hK h.sep.c h.sep.b.symm, h.x.mkeeps h.a hK, h.y.mkeeps h.a hK, h.sep, h.xy, h.far, h.lc, h.ld, h.lX, h.lY, h.lv, h.lu⟩
theorem JS.fb (h : JS N w0 w A c n la B d k lb X v lx Y u ly) (hm : MAt w2 B d k lb2) (hK : MKeeps w w2 d) : JS N w0 w2 A c n la B d k lb2 X v lx Y u ly :=
  ⟨hK.bel h.bel h.base h.ld, Nat.le_trans h.base hK.size, h.a.keeps hK h.sep.a h.sep.b, hm, h.x.mkeeps h.b hK, h.y.mkeeps h.b hK, h.sep, h.xy, h.far, h.lc, h.ld, h.lX, h.lY, h.lv, h.lu⟩
/-- A call that turns another box alone. -/
theorem JS.fo (h : JS N w0 w A c n la B d k lb X v lx Y u ly) {O q cap : Nat} {lo : List ByteArray} (ho : MAt w O q cap lo) (s1 : Sep A c O q) (s2 : Sep O q B d) (hq : N ≤ q) (hK : MKeeps w w2 q) : JS N w0 w2 A c n la B d k lb X v lx Y u ly :=
  ⟨hK.bel h.bel h.base hq, Nat.le_trans h.base hK.size, h.a.keeps hK s1.a s1.b, h.b.keeps hK s2.c s2.b.symm, h.x.mkeeps ho hK, h.y.mkeeps ho hK, h.sep, h.xy, h.far, h.lc, h.ld, h.lX, h.lY, h.lv, h.lu⟩
theorem MK2.rb {l : List ByteArray} {sz : Nat} (h : RB w X v sz l) {cap cap2 : Nat} {l2 m2 : List ByteArray} (hm : MAt w A c cap l2) (hm2 : MAt w B d cap2 m2) (hK : MK2 w w2 c d) : RB w2 X v sz l := by
  obtain ⟨s, r, hc⟩ := hm.chan
  obtain ⟨s2, r2, hc2⟩ := hm2.chan
  have n1 : X ≠ c := by
    rintro rfl
    rw [h.cells] at hc
    cases hc
  have n3 : X ≠ d := by
    rintro rfl
    rw [h.cells] at hc2
    cases hc2
  have n2 : v.ownBlock ≠ some c := h.row.kind hc (fun cur e => by cases e)
  have n4 : v.ownBlock ≠ some d := h.row.kind hc2 (fun cur e => by cases e)
  exact h.keep (hK.block X h.lt n1 n3) (fun g e => hK.block g (h.row.lt g e) (fun e2 => n2 (by rw [← e2]; exact e)) (fun e2 => n4 (by rw [← e2]; exact e)))
theorem JS.two (h : JS N w0 w A c n la B d k lb X v lx Y u ly) (hm : MAt w2 A c n la2) (hm2 : MAt w2 B d k lb2) (hK : MK2 w w2 c d) : JS N w0 w2 A c n la2 B d k lb2 X v lx Y u ly :=
  ⟨hK.bel h.bel h.base h.lc h.ld, Nat.le_trans h.base hK.size, hm, hm2, hK.rb h.x h.a h.b, hK.rb h.y h.a h.b, h.sep, h.xy, h.far, h.lc, h.ld, h.lX, h.lY, h.lv, h.lu⟩
theorem JS.fx (h : JS N w0 w A c n la B d k lb X v lx Y u ly) (hr : RP w w2 X v n lx2) : ∃ v2, JS N w0 w2 A c n la B d k lb X v2 lx2 Y u ly := by
  obtain ⟨v2, hx, hK, hv⟩ := hr
  refine ⟨v2, hK.bel h.bel h.base h.lX h.lv, Nat.le_trans h.base hK.size, h.a.rk h.x hK, h.b.rk h.x hK, hx, h.y.rk h.x hK h.xy.symm h.far, h.sep, h.xy, fun b e1 e2 => ?_, h.lc, h.ld, h.lX, h.lY, fun b e => ?_, h.lu⟩
  · rcases hv with g | g
    · rw [g] at e1; exact h.far b e1 e2
    · have := g b e1
      have := h.y.row.lt b e2
      omega
  · rcases hv with g | g
    · rw [g] at e; exact h.lv b e
    · exact Nat.le_trans h.base (g b e)
theorem JS.fy (h : JS N w0 w A c n la B d k lb X v lx Y u ly) (hr : RP w w2 Y u k ly2) : ∃ u2, JS N w0 w2 A c n la B d k lb X v lx Y u2 ly2 := by
  obtain ⟨u2, hy, hK, hv⟩ := hr
  refine ⟨u2, hK.bel h.bel h.base h.lY h.lu, Nat.le_trans h.base hK.size, h.a.rk h.y hK, h.b.rk h.y hK, h.x.rk h.y hK h.xy h.far.symm, hy, h.sep, h.xy, fun b e1 e2 => ?_, h.lc, h.ld, h.lX, h.lY, h.lv, fun b e => ?_⟩
  · rcases hv with g | g
    · rw [g] at e2; exact h.far b e1 e2
    · have := g b e2
      have := h.x.row.lt b e1
      omega
  · rcases hv with g | g
    · rw [g] at e; exact h.lu b e
    · exact Nat.le_trans h.base (g b e)
end
theorem MKeeps.rp {w w2 : World} {X sz : Nat} {v : Value} (h : RB w2 X (.slice none 0 0) sz []) (hK : MKeeps w w2 X) : RP w w2 X v sz [] := ⟨_, h, ⟨hK.os, hK.tape, hK.output, hK.size, fun b hb h1 _ => hK.block b hb h1⟩, .inr fun b e => by simp [Value.ownBlock] at e⟩
theorem RP.lit {w w2 : World} {X sz sz2 g : Nat} {v : Value} {l m : List ByteArray} (hx : RB w X v sz l) (hr : RP w w2 X v sz2 m) {cs : Array Value} (hg : w.heap[g]? = some (.cells cs 27 (0, 0))) : w2.heap[g]? = some (.cells cs 27 (0, 0)) := by
  obtain ⟨v2, _, hK, _⟩ := hr
  have n1 : g ≠ X := by
    rintro rfl
    rw [hx.cells] at hg
    simp at hg
  exact (hK.block g (Array.getElem?_eq_some_iff.1 hg).1 n1 (hx.row.kind hg (fun cur e => by simp at e))).trans hg
theorem lit2 {w : World} {g : Nat} {t : TypeId} {a b : Value} (hg : w.heap[g]? = some (.cells #[a, b] t (0, 0))) : w.cell? ⟨g, 0, none⟩ = some a ∧ w.cell? ⟨g, 1, none⟩ = some b := by
  simp [World.cell?, hg]
set_option maxHeartbeats 4000000 in
theorem rturn_walk {N : Nat} {w0 w : World} {A c n : Nat} {la : List ByteArray} {B d k : Nat} {lb : List ByteArray} {X : Nat} {v : Value} {lx : List ByteArray} {Y : Nat} {u : Value} {ly : List ByteArray} {g : Nat} (hg : w.heap[g]? = some (.cells #[.pointer (some ⟨X, 0, none⟩), .pointer (some ⟨Y, 0, none⟩)] 27 (0, 0))) (h : JS N w0 w A c n la B d k lb X v lx Y u ly) (f : Int) :
    Calls Try.prog 23 #[.slice (some ⟨g, 0, none⟩) 2 2, .int .i64 f] w fun e w' => e = .returned (.tuple #[.int .i64 (turnK lx ly f), .string (turnS lx ly f), .bool (turnB lx ly f)]) ∧ ∃ v2 u2, JS N w0 w' A c n la B d k lb X v2 (turnX lx ly f) Y u2 (turnY lx ly f) := by
  obtain ⟨h0, h1⟩ := lit2 hg
  by_cases hf0 : f = 0
  · subst hf0
    cases lx with
    | nil =>
      cases ly with
      | nil =>
        show Calls Try.prog 23 #[.slice (some ⟨g, 0, none⟩) 2 2, .int .i64 0] w fun e w' => e = .returned (.tuple #[.int .i64 0, .string ⟨#[]⟩, .bool false]) ∧ ∃ v2 u2, JS N w0 w' A c n la B d k lb X v2 ([]) Y u2 ([])
        go_enter Try.func23, Try.ntmps23
        go_wp2
        refine wp_loop_rounds 3 ?_
        rw [rounds_succ]
        have t0 : Calls Try.prog 14 #[.pointer (some ⟨X, 0, none⟩)] w fun e w' => e = .returned (.tuple #[.string ⟨#[]⟩, .bool false]) ∧ RP w w' X v n ([]) := rtake_walk h.x
        go_wp2_with (first
          | (go_at_call 14; (with_reducible refine t0.mono ?_); rintro e w1 ⟨rfl, hq⟩
             obtain ⟨v1, h1⟩ := h.fx hq
             have g1 := hq.lit h.x hg
             obtain ⟨c10, c11⟩ := lit2 g1
             clear hq))
        rw [rounds_succ]
        have t1 : Calls Try.prog 14 #[.pointer (some ⟨Y, 0, none⟩)] w1 fun e w' => e = .returned (.tuple #[.string ⟨#[]⟩, .bool false]) ∧ RP w1 w' Y u k ([]) := rtake_walk h1.y
        go_wp2_with (first
          | (go_at_call 14; (with_reducible refine t1.mono ?_); rintro e w2 ⟨rfl, hq⟩
             obtain ⟨v2, h2⟩ := h1.fy hq
             clear hq))
        rw [rounds_succ]
        go_wp2
        go_returns
        exact ⟨rfl, v1, v2, h2⟩
      | cons y0 m =>
        show Calls Try.prog 23 #[.slice (some ⟨g, 0, none⟩) 2 2, .int .i64 0] w fun e w' => e = .returned (.tuple #[.int .i64 1, .string y0, .bool true]) ∧ ∃ v2 u2, JS N w0 w' A c n la B d k lb X v2 ([]) Y u2 (m)
        go_enter Try.func23, Try.ntmps23
        go_wp2
        refine wp_loop_rounds 3 ?_
        rw [rounds_succ]
        have t0 : Calls Try.prog 14 #[.pointer (some ⟨X, 0, none⟩)] w fun e w' => e = .returned (.tuple #[.string ⟨#[]⟩, .bool false]) ∧ RP w w' X v n ([]) := rtake_walk h.x
        go_wp2_with (first
          | (go_at_call 14; (with_reducible refine t0.mono ?_); rintro e w1 ⟨rfl, hq⟩
             obtain ⟨v1, h1⟩ := h.fx hq
             have g1 := hq.lit h.x hg
             obtain ⟨c10, c11⟩ := lit2 g1
             clear hq))
        rw [rounds_succ]
        have t1 : Calls Try.prog 14 #[.pointer (some ⟨Y, 0, none⟩)] w1 fun e w' => e = .returned (.tuple #[.string y0, .bool true]) ∧ RP w1 w' Y u k (m) := rtake_walk h1.y
        go_wp2_with (first
          | (go_at_call 14; (with_reducible refine t1.mono ?_); rintro e w2 ⟨rfl, hq⟩
             obtain ⟨v2, h2⟩ := h1.fy hq
             clear hq))
        go_returns
        exact ⟨rfl, v1, v2, h2⟩
    | cons x0 l =>
      cases ly with
      | nil =>
        show Calls Try.prog 23 #[.slice (some ⟨g, 0, none⟩) 2 2, .int .i64 0] w fun e w' => e = .returned (.tuple #[.int .i64 0, .string x0, .bool true]) ∧ ∃ v2 u2, JS N w0 w' A c n la B d k lb X v2 (l) Y u2 ([])
        go_enter Try.func23, Try.ntmps23
        go_wp2
        refine wp_loop_rounds 3 ?_
        rw [rounds_succ]
        have t0 : Calls Try.prog 14 #[.pointer (some ⟨X, 0, none⟩)] w fun e w' => e = .returned (.tuple #[.string x0, .bool true]) ∧ RP w w' X v n (l) := rtake_walk h.x
        go_wp2_with (first
          | (go_at_call 14; (with_reducible refine t0.mono ?_); rintro e w1 ⟨rfl, hq⟩
             obtain ⟨v1, h1⟩ := h.fx hq
             have g1 := hq.lit h.x hg
             obtain ⟨c10, c11⟩ := lit2 g1
             clear hq))
        go_returns
        exact ⟨rfl, v1, u, h1⟩
      | cons y0 m =>
        show Calls Try.prog 23 #[.slice (some ⟨g, 0, none⟩) 2 2, .int .i64 0] w fun e w' => e = .returned (.tuple #[.int .i64 0, .string x0, .bool true]) ∧ ∃ v2 u2, JS N w0 w' A c n la B d k lb X v2 (l) Y u2 (y0 :: m)
        go_enter Try.func23, Try.ntmps23
        go_wp2
        refine wp_loop_rounds 3 ?_
        rw [rounds_succ]
        have t0 : Calls Try.prog 14 #[.pointer (some ⟨X, 0, none⟩)] w fun e w' => e = .returned (.tuple #[.string x0, .bool true]) ∧ RP w w' X v n (l) := rtake_walk h.x
        go_wp2_with (first
          | (go_at_call 14; (with_reducible refine t0.mono ?_); rintro e w1 ⟨rfl, hq⟩
             obtain ⟨v1, h1⟩ := h.fx hq
             have g1 := hq.lit h.x hg
             obtain ⟨c10, c11⟩ := lit2 g1
             clear hq))
        go_returns
        exact ⟨rfl, v1, u, h1⟩
  by_cases hf1 : f = 1
  · subst hf1
    cases lx with
    | nil =>
      cases ly with
      | nil =>
        show Calls Try.prog 23 #[.slice (some ⟨g, 0, none⟩) 2 2, .int .i64 1] w fun e w' => e = .returned (.tuple #[.int .i64 0, .string ⟨#[]⟩, .bool false]) ∧ ∃ v2 u2, JS N w0 w' A c n la B d k lb X v2 ([]) Y u2 ([])
        go_enter Try.func23, Try.ntmps23
        go_wp2
        refine wp_loop_rounds 3 ?_
        rw [rounds_succ]
        have t0 : Calls Try.prog 14 #[.pointer (some ⟨Y, 0, none⟩)] w fun e w' => e = .returned (.tuple #[.string ⟨#[]⟩, .bool false]) ∧ RP w w' Y u k ([]) := rtake_walk h.y
        go_wp2_with (first
          | (go_at_call 14; (with_reducible refine t0.mono ?_); rintro e w1 ⟨rfl, hq⟩
             obtain ⟨v1, h1⟩ := h.fy hq
             have g1 := hq.lit h.y hg
             obtain ⟨c10, c11⟩ := lit2 g1
             clear hq))
        rw [rounds_succ]
        have t1 : Calls Try.prog 14 #[.pointer (some ⟨X, 0, none⟩)] w1 fun e w' => e = .returned (.tuple #[.string ⟨#[]⟩, .bool false]) ∧ RP w1 w' X v n ([]) := rtake_walk h1.x
        go_wp2_with (first
          | (go_at_call 14; (with_reducible refine t1.mono ?_); rintro e w2 ⟨rfl, hq⟩
             obtain ⟨v2, h2⟩ := h1.fx hq
             clear hq))
        rw [rounds_succ]
        go_wp2
        go_returns
        exact ⟨rfl, v2, v1, h2⟩
      | cons y0 m =>
        show Calls Try.prog 23 #[.slice (some ⟨g, 0, none⟩) 2 2, .int .i64 1] w fun e w' => e = .returned (.tuple #[.int .i64 1, .string y0, .bool true]) ∧ ∃ v2 u2, JS N w0 w' A c n la B d k lb X v2 ([]) Y u2 (m)
        go_enter Try.func23, Try.ntmps23
        go_wp2
        refine wp_loop_rounds 3 ?_
        rw [rounds_succ]
        have t0 : Calls Try.prog 14 #[.pointer (some ⟨Y, 0, none⟩)] w fun e w' => e = .returned (.tuple #[.string y0, .bool true]) ∧ RP w w' Y u k (m) := rtake_walk h.y
        go_wp2_with (first
          | (go_at_call 14; (with_reducible refine t0.mono ?_); rintro e w1 ⟨rfl, hq⟩
             obtain ⟨v1, h1⟩ := h.fy hq
             have g1 := hq.lit h.y hg
             obtain ⟨c10, c11⟩ := lit2 g1
             clear hq))
        go_returns
        exact ⟨rfl, v, v1, h1⟩
    | cons x0 l =>
      cases ly with
      | nil =>
        show Calls Try.prog 23 #[.slice (some ⟨g, 0, none⟩) 2 2, .int .i64 1] w fun e w' => e = .returned (.tuple #[.int .i64 0, .string x0, .bool true]) ∧ ∃ v2 u2, JS N w0 w' A c n la B d k lb X v2 (l) Y u2 ([])
        go_enter Try.func23, Try.ntmps23
        go_wp2
        refine wp_loop_rounds 3 ?_
        rw [rounds_succ]
        have t0 : Calls Try.prog 14 #[.pointer (some ⟨Y, 0, none⟩)] w fun e w' => e = .returned (.tuple #[.string ⟨#[]⟩, .bool false]) ∧ RP w w' Y u k ([]) := rtake_walk h.y
        go_wp2_with (first
          | (go_at_call 14; (with_reducible refine t0.mono ?_); rintro e w1 ⟨rfl, hq⟩
             obtain ⟨v1, h1⟩ := h.fy hq
             have g1 := hq.lit h.y hg
             obtain ⟨c10, c11⟩ := lit2 g1
             clear hq))
        rw [rounds_succ]
        have t1 : Calls Try.prog 14 #[.pointer (some ⟨X, 0, none⟩)] w1 fun e w' => e = .returned (.tuple #[.string x0, .bool true]) ∧ RP w1 w' X v n (l) := rtake_walk h1.x
        go_wp2_with (first
          | (go_at_call 14; (with_reducible refine t1.mono ?_); rintro e w2 ⟨rfl, hq⟩
             obtain ⟨v2, h2⟩ := h1.fx hq
             clear hq))
        go_returns
        exact ⟨rfl, v2, v1, h2⟩
      | cons y0 m =>
        show Calls Try.prog 23 #[.slice (some ⟨g, 0, none⟩) 2 2, .int .i64 1] w fun e w' => e = .returned (.tuple #[.int .i64 1, .string y0, .bool true]) ∧ ∃ v2 u2, JS N w0 w' A c n la B d k lb X v2 (x0 :: l) Y u2 (m)
        go_enter Try.func23, Try.ntmps23
        go_wp2
        refine wp_loop_rounds 3 ?_
        rw [rounds_succ]
        have t0 : Calls Try.prog 14 #[.pointer (some ⟨Y, 0, none⟩)] w fun e w' => e = .returned (.tuple #[.string y0, .bool true]) ∧ RP w w' Y u k (m) := rtake_walk h.y
        go_wp2_with (first
          | (go_at_call 14; (with_reducible refine t0.mono ?_); rintro e w1 ⟨rfl, hq⟩
             obtain ⟨v1, h1⟩ := h.fy hq
             have g1 := hq.lit h.y hg
             obtain ⟨c10, c11⟩ := lit2 g1
             clear hq))
        go_returns
        exact ⟨rfl, v, v1, h1⟩
  · have hw : who lx ly f = none := by unfold who; rw [if_neg hf0, if_neg hf1]
    have e1 : turnK lx ly f = 0 := by simp [turnK, hw]
    have e2 : turnS lx ly f = ⟨#[]⟩ := by simp [turnS, hw]
    have e3 : turnB lx ly f = false := by simp [turnB, hw]
    have e4 : turnX lx ly f = lx := by simp [turnX, hw]
    have e5 : turnY lx ly f = ly := by simp [turnY, hw]
    rw [e1, e2, e3, e4, e5]
    have hc : f < 0 ∨ 0 ≤ f ∧ ¬ f < 2 := by omega
    clear hw e1 e2 e3 e4 e5 hf0 hf1
    rcases hc with hc | ⟨hc, hc2⟩
    all_goals
      go_enter Try.func23, Try.ntmps23
      go_wp2
      refine wp_loop_rounds 1 ?_
      rw [rounds_succ]
      go_wp2
      go_returns
      exact ⟨rfl, v, u, h⟩
end Go.Proofs.Ytgomnnddfddkhaa.ML
