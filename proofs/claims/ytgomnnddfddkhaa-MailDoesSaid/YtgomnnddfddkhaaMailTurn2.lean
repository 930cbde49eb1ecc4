/-
  Chapter 08: Turn over two boxes, and over one empty one.
-/
import Derived.Test.YtgomnnddfddkhaaMailTurn
import Derived.Deep.RegionHeld3
import Derived.Deep.Cut
namespace Go.Proofs.Ytgomnnddfddkhaa.ML
open Go.RowKit Go.Conc Go.Proofs.Ytgomnnddfddkhaa

/-- All blocks but two channels' are as they were. -/
structure MK2 (w w2 : World) (c d : Nat) : Prop where
  os : w2.os = w.os
  tape : w2.tape = w.tape
  output : w2.output = w.output
  size : w.heap.size ≤ w2.heap.size
  block : ∀ k, k < w.heap.size → k ≠ c → k ≠ d → w2.heap[k]? = w.heap[k]?
theorem MKeeps.two {w w2 : World} {c : Nat} (h : MKeeps w w2 c) (d : Nat) : MK2 w w2 c d := ⟨h.os, h.tape, h.output, h.size, fun k hk h1 _ => h.block k hk h1⟩
theorem MKeeps.two' {w w2 : World} {d : Nat} (h : MKeeps w w2 d) (c : Nat) : MK2 w w2 c d := ⟨h.os, h.tape, h.output, h.size, fun k hk _ h1 => h.block k hk h1⟩
theorem MK2.after {w w1 w2 : World} {c d : Nat} (h2 : MK2 w1 w2 c d) (h1 : MK2 w w1 c d) : MK2 w w2 c d :=
  ⟨h2.os.trans h1.os, h2.tape.trans h1.tape, h2.output.trans h1.output, Nat.le_trans h1.size h2.size, fun k hk hc hd => (h2.block k (Nat.lt_of_lt_of_le hk h1.size) hc hd).trans (h1.block k hk hc hd)⟩
theorem MK2.of_below {w w2 : World} {c d : Nat} (h : Below w.heap.size w w2) : MK2 w w2 c d := ⟨h.os, h.tape, h.output, h.size, fun k hk _ _ => h.block k hk⟩
/-- Which of two has its turn: none, the first, the second. -/
def who (x y : List ByteArray) (f : Int) : Option Bool :=
  if f = 0 then (if non x then some false else if non y then some true else none)
  else if f = 1 then (if non y then some true else if non x then some false else none)
  else none
def turnK (x y : List ByteArray) (f : Int) : Int := match who x y f with | some true => 1 | _ => 0
def turnS (x y : List ByteArray) (f : Int) : ByteArray := match who x y f with | some true => hd y | some false => hd x | none => ⟨#[]⟩
def turnB (x y : List ByteArray) (f : Int) : Bool := (who x y f).isSome
def turnX (x y : List ByteArray) (f : Int) : List ByteArray := match who x y f with | some false => x.tail | _ => x
def turnY (x y : List ByteArray) (f : Int) : List ByteArray := match who x y f with | some true => y.tail | _ => y
theorem add0 (g : Nat) (j : Nat) : (⟨g, 0, none⟩ : Addr).add j = ⟨g, j, none⟩ := by
  unfold Addr.add
  split
  · rename_i h; rw [h]
  · simp
set_option maxHeartbeats 4000000 in
theorem turn_walk {w : World} {g : Nat} {x y : BoxV} (h0 : w.cell? ⟨g, 0, none⟩ = some x.ptr) (h1 : w.cell? ⟨g, 1, none⟩ = some y.ptr) (hx : MAt w x.A x.c x.cap x.l) (hy : MAt w y.A y.c y.cap y.l) (s1 : x.A ≠ y.c) (s2 : x.c ≠ y.c) (s3 : y.A ≠ x.c) (f : Int) :
    Calls Try.prog 22 #[.slice (some ⟨g, 0, none⟩) 2 2, .int .i64 f] w fun e w' => e = .returned (.tuple #[.int .i64 (turnK x.l y.l f), .string (turnS x.l y.l f), .bool (turnB x.l y.l f)]) ∧ MAt w' x.A x.c x.cap (turnX x.l y.l f) ∧ MAt w' y.A y.c y.cap (turnY x.l y.l f) ∧ MK2 w w' x.c y.c := by
  have hgl : g < w.heap.size := by
    unfold World.cell? at h0
    rcases Nat.lt_or_ge g w.heap.size with h | h
    · exact h
    · rw [Array.getElem?_eq_none h] at h0
      cases h0
  by_cases hf0 : f = 0
  · subst hf0
    have hb : Below w.heap.size w ((w.alloc (.cells #[.slice (some ⟨g, 0, none⟩) 2 2, .slice (some ⟨g, 0, none⟩) 0 2] 42)).drew) := ((Below.refl _ w).alloc (Nat.le_refl _) _).drew
    have hTwo : Two ((w.alloc (.cells #[.slice (some ⟨g, 0, none⟩) 2 2, .slice (some ⟨g, 0, none⟩) 0 2] 42)).drew) w.heap.size ⟨g, 0, none⟩ ⟨g, 0, none⟩ 2 2 0 2 [x.ptr, y.ptr] [] := by
      refine ⟨heap_alloc_new w _, rfl, rfl, fun j u hu => ?_, fun j u hu => by simp at hu, by intro u hu; simp [BoxV.ptr] at hu; rcases hu with rfl | rfl <;> rfl, by intro u hu; simp [BoxV.ptr] at hu⟩
      rw [add0, hb.cell (p := ⟨g, j, none⟩) hgl]
      match j, hu with
      | 0, hu => simp at hu; subst hu; exact h0
      | 1, hu => simp at hu; subst hu; exact h1
    have hcc := concat_walk hTwo (by omega) (by omega)
    have hbs := hb.size
    have arm := fun (w2 : World) (o : Option Addr) (k : Nat) (hrow : w2.ownsRow ((w.alloc (.cells #[.slice (some ⟨g, 0, none⟩) 2 2, .slice (some ⟨g, 0, none⟩) 0 2] 42)).drew).heap.size 23 1 (.slice o (2 + 0) k) (2 + 0) ([x.ptr, y.ptr] ++ [])) (hb2 : Below ((w.alloc (.cells #[.slice (some ⟨g, 0, none⟩) 2 2, .slice (some ⟨g, 0, none⟩) 0 2] 42)).drew).heap.size ((w.alloc (.cells #[.slice (some ⟨g, 0, none⟩) 2 2, .slice (some ⟨g, 0, none⟩) 0 2] 42)).drew) w2) =>
      (⟨hrow, hb.trans (hb2.mono hbs)⟩ : w2.ownsRow ((w.alloc (.cells #[.slice (some ⟨g, 0, none⟩) 2 2, .slice (some ⟨g, 0, none⟩) 0 2] 42)).drew).heap.size 23 1 (.slice o 2 k) 2 [x.ptr, y.ptr] ∧ Below w.heap.size w w2)
    have arm := Lib.hid arm
    clear hTwo hb hbs
    cases hn1 : non x.l
    · cases hn2 : non y.l
      · have e1 : idxOf [x.l, y.l] = -1 := by simp [idxOf, firstOf, hn1, hn2]
        have e_turnK : turnK x.l y.l 0 = 0 := by simp [turnK, who, hn1, hn2]
        have e_turnS : turnS x.l y.l 0 = ⟨#[]⟩ := by simp [turnS, who, hn1, hn2]
        have e_turnB : turnB x.l y.l 0 = false := by simp [turnB, who, hn1, hn2]
        have e_turnX : turnX x.l y.l 0 = x.l := by simp [turnX, who, hn1, hn2]
        have e_turnY : turnY x.l y.l 0 = y.l := by simp [turnY, who, hn1, hn2]
        rw [e_turnK, e_turnS, e_turnB, e_turnX, e_turnY]
        clear e_turnK e_turnS e_turnB e_turnX e_turnY
        have hzz := hx
        clear hzz
        go_enter Try.func22, Try.ntmps22
        go_wp2
        go_region_held3 (fun _ => True) (trivial) (first
          | (go_at_call 31; (with_reducible refine hcc.mono ?_); rintro e w2 ⟨o, k, rfl, hrow, hb⟩
             obtain ⟨hrow2, hb2⟩ := arm.out w2 o k hrow hb
             have hx2 := hx.below hb2
             have hy2 := hy.below hb2
             have hix := index_walk hrow2 hx2 hy2
             rw [e1] at hix
             have hKb : MK2 w w2 x.c y.c := .of_below hb2
             obtain ⟨gr, cp, hfm, _, _⟩ := hrow2.form (by omega)
             obtain ⟨ho, _, hk2⟩ := Value.slice.inj hfm
             subst ho
             subst hk2
             have r0 : w2.cell? ⟨gr, 0, none⟩ = some (.pointer (some ⟨x.A, 0, none⟩)) := (hrow2.cellAt 0 (by omega)).trans rfl
             have r1 : w2.cell? ⟨gr, 1, none⟩ = some (.pointer (some ⟨y.A, 0, none⟩)) := (hrow2.cellAt 1 (by omega)).trans rfl
             clear hrow hb hrow2 hfm))
        go_wp2_with (first
          | (go_at_call 32; (with_reducible refine hix.mono ?_); rintro e w3 ⟨rfl, rfl⟩))
        go_returns
        exact ⟨rfl, hx2, hy2, hKb⟩
      · have e1 : idxOf [x.l, y.l] = 1 := by simp [idxOf, firstOf, hn1, hn2]
        have e_turnK : turnK x.l y.l 0 = 1 := by simp [turnK, who, hn1, hn2]
        have e_turnS : turnS x.l y.l 0 = hd y.l := by simp [turnS, who, hn1, hn2]
        have e_turnB : turnB x.l y.l 0 = true := by simp [turnB, who, hn1, hn2]
        have e_turnX : turnX x.l y.l 0 = x.l := by simp [turnX, who, hn1, hn2]
        have e_turnY : turnY x.l y.l 0 = y.l.tail := by simp [turnY, who, hn1, hn2]
        rw [e_turnK, e_turnS, e_turnB, e_turnX, e_turnY]
        clear e_turnK e_turnS e_turnB e_turnX e_turnY
        have hzz := hx
        clear hzz
        go_enter Try.func22, Try.ntmps22
        go_wp2
        go_region_held3 (fun _ => True) (trivial) (first
          | (go_at_call 31; (with_reducible refine hcc.mono ?_); rintro e w2 ⟨o, k, rfl, hrow, hb⟩
             obtain ⟨hrow2, hb2⟩ := arm.out w2 o k hrow hb
             have hx2 := hx.below hb2
             have hy2 := hy.below hb2
             have hix := index_walk hrow2 hx2 hy2
             rw [e1] at hix
             have hKb : MK2 w w2 x.c y.c := .of_below hb2
             obtain ⟨gr, cp, hfm, _, _⟩ := hrow2.form (by omega)
             obtain ⟨ho, _, hk2⟩ := Value.slice.inj hfm
             subst ho
             subst hk2
             have r0 : w2.cell? ⟨gr, 0, none⟩ = some (.pointer (some ⟨x.A, 0, none⟩)) := (hrow2.cellAt 0 (by omega)).trans rfl
             have r1 : w2.cell? ⟨gr, 1, none⟩ = some (.pointer (some ⟨y.A, 0, none⟩)) := (hrow2.cellAt 1 (by omega)).trans rfl
             clear hrow hb hrow2 hfm))
        go_wp2_with (first
          | (go_at_call 32; (with_reducible refine hix.mono ?_); rintro e w3 ⟨rfl, rfl⟩)
          | (go_at_call 13; (with_reducible refine (take_walk hy2).mono ?_); rintro e w4 ⟨rfl, hm, hK⟩))
        go_returns
        exact ⟨rfl, hx2.keeps hK s1 s2, hm, (hK.two' _).after hKb⟩
    · have e1 : idxOf [x.l, y.l] = 0 := by simp [idxOf, firstOf, hn1]
      have e_turnK : turnK x.l y.l 0 = 0 := by simp [turnK, who, hn1]
      have e_turnS : turnS x.l y.l 0 = hd x.l := by simp [turnS, who, hn1]
      have e_turnB : turnB x.l y.l 0 = true := by simp [turnB, who, hn1]
      have e_turnX : turnX x.l y.l 0 = x.l.tail := by simp [turnX, who, hn1]
      have e_turnY : turnY x.l y.l 0 = y.l := by simp [turnY, who, hn1]
      rw [e_turnK, e_turnS, e_turnB, e_turnX, e_turnY]
      clear e_turnK e_turnS e_turnB e_turnX e_turnY
      have hzz := hx
      clear hzz
      go_enter Try.func22, Try.ntmps22
      go_wp2
      go_region_held3 (fun _ => True) (trivial) (first
        | (go_at_call 31; (with_reducible refine hcc.mono ?_); rintro e w2 ⟨o, k, rfl, hrow, hb⟩
           obtain ⟨hrow2, hb2⟩ := arm.out w2 o k hrow hb
           have hx2 := hx.below hb2
           have hy2 := hy.below hb2
           have hix := index_walk hrow2 hx2 hy2
           rw [e1] at hix
           have hKb : MK2 w w2 x.c y.c := .of_below hb2
           obtain ⟨gr, cp, hfm, _, _⟩ := hrow2.form (by omega)
           obtain ⟨ho, _, hk2⟩ := Value.slice.inj hfm
           subst ho
           subst hk2
           have r0 : w2.cell? ⟨gr, 0, none⟩ = some (.pointer (some ⟨x.A, 0, none⟩)) := (hrow2.cellAt 0 (by omega)).trans rfl
           have r1 : w2.cell? ⟨gr, 1, none⟩ = some (.pointer (some ⟨y.A, 0, none⟩)) := (hrow2.cellAt 1 (by omega)).trans rfl
           clear hrow hb hrow2 hfm))
      go_wp2_with (first
        | (go_at_call 32; (with_reducible refine hix.mono ?_); rintro e w3 ⟨rfl, rfl⟩)
        | (go_at_call 13; (with_reducible refine (take_walk hx2).mono ?_); rintro e w4 ⟨rfl, hm, hK⟩))
      go_returns
      exact ⟨rfl, hm, hy2.keeps hK s3 (Ne.symm s2), (hK.two _).after hKb⟩
  by_cases hf1 : f = 1
  · subst hf1
    have hb : Below w.heap.size w ((w.alloc (.cells #[.slice (some ⟨g, 1, none⟩) 1 1, .slice (some ⟨g, 0, none⟩) 1 2] 42)).drew) := ((Below.refl _ w).alloc (Nat.le_refl _) _).drew
    have hTwo : Two ((w.alloc (.cells #[.slice (some ⟨g, 1, none⟩) 1 1, .slice (some ⟨g, 0, none⟩) 1 2] 42)).drew) w.heap.size ⟨g, 1, none⟩ ⟨g, 0, none⟩ 1 1 1 2 [y.ptr] [x.ptr] := by
      refine ⟨heap_alloc_new w _, rfl, rfl, fun j u hu => ?_, fun j u hu => by match j, hu with | 0, hu => (simp at hu; subst hu; exact (hb.cell (p := ⟨g, 0, none⟩) hgl).trans h0), by intro u hu; simp [BoxV.ptr] at hu; subst hu; rfl, by intro u hu; simp [BoxV.ptr] at hu; subst hu; rfl⟩
      match j, hu with
      | 0, hu =>
        simp at hu
        subst hu
        exact (hb.cell (p := ⟨g, 1, none⟩) hgl).trans h1
    have hcc := concat_walk hTwo (by omega) (by omega)
    have hbs := hb.size
    have arm := fun (w2 : World) (o : Option Addr) (k : Nat) (hrow : w2.ownsRow ((w.alloc (.cells #[.slice (some ⟨g, 1, none⟩) 1 1, .slice (some ⟨g, 0, none⟩) 1 2] 42)).drew).heap.size 23 1 (.slice o (1 + 1) k) (1 + 1) ([y.ptr] ++ [x.ptr])) (hb2 : Below ((w.alloc (.cells #[.slice (some ⟨g, 1, none⟩) 1 1, .slice (some ⟨g, 0, none⟩) 1 2] 42)).drew).heap.size ((w.alloc (.cells #[.slice (some ⟨g, 1, none⟩) 1 1, .slice (some ⟨g, 0, none⟩) 1 2] 42)).drew) w2) =>
      (⟨hrow, hb.trans (hb2.mono hbs)⟩ : w2.ownsRow ((w.alloc (.cells #[.slice (some ⟨g, 1, none⟩) 1 1, .slice (some ⟨g, 0, none⟩) 1 2] 42)).drew).heap.size 23 1 (.slice o 2 k) 2 [y.ptr, x.ptr] ∧ Below w.heap.size w w2)
    have arm := Lib.hid arm
    clear hTwo hb hbs
    cases hn1 : non y.l
    · cases hn2 : non x.l
      · have e1 : idxOf [y.l, x.l] = -1 := by simp [idxOf, firstOf, hn1, hn2]
        have e_turnK : turnK x.l y.l 1 = 0 := by simp [turnK, who, hn1, hn2]
        have e_turnS : turnS x.l y.l 1 = ⟨#[]⟩ := by simp [turnS, who, hn1, hn2]
        have e_turnB : turnB x.l y.l 1 = false := by simp [turnB, who, hn1, hn2]
        have e_turnX : turnX x.l y.l 1 = x.l := by simp [turnX, who, hn1, hn2]
        have e_turnY : turnY x.l y.l 1 = y.l := by simp [turnY, who, hn1, hn2]
        rw [e_turnK, e_turnS, e_turnB, e_turnX, e_turnY]
        clear e_turnK e_turnS e_turnB e_turnX e_turnY
        have hzz := hx
        clear hzz
        go_enter Try.func22, Try.ntmps22
        go_wp2
        go_region_held3 (fun _ => True) (trivial) (first
          | (go_at_call 31; (with_reducible refine hcc.mono ?_); rintro e w2 ⟨o, k, rfl, hrow, hb⟩
             obtain ⟨hrow2, hb2⟩ := arm.out w2 o k hrow hb
             have hx2 := hx.below hb2
             have hy2 := hy.below hb2
             have hix := index_walk hrow2 hy2 hx2
             rw [e1] at hix
             have hKb : MK2 w w2 x.c y.c := .of_below hb2
             obtain ⟨gr, cp, hfm, _, _⟩ := hrow2.form (by omega)
             obtain ⟨ho, _, hk2⟩ := Value.slice.inj hfm
             subst ho
             subst hk2
             have r0 : w2.cell? ⟨gr, 0, none⟩ = some (.pointer (some ⟨y.A, 0, none⟩)) := (hrow2.cellAt 0 (by omega)).trans rfl
             have r1 : w2.cell? ⟨gr, 1, none⟩ = some (.pointer (some ⟨x.A, 0, none⟩)) := (hrow2.cellAt 1 (by omega)).trans rfl
             clear hrow hb hrow2 hfm))
        go_wp2_with (first
          | (go_at_call 32; (with_reducible refine hix.mono ?_); rintro e w3 ⟨rfl, rfl⟩))
        go_returns
        exact ⟨rfl, hx2, hy2, hKb⟩
      · have e1 : idxOf [y.l, x.l] = 1 := by simp [idxOf, firstOf, hn1, hn2]
        have e_turnK : turnK x.l y.l 1 = 0 := by simp [turnK, who, hn1, hn2]
        have e_turnS : turnS x.l y.l 1 = hd x.l := by simp [turnS, who, hn1, hn2]
        have e_turnB : turnB x.l y.l 1 = true := by simp [turnB, who, hn1, hn2]
        have e_turnX : turnX x.l y.l 1 = x.l.tail := by simp [turnX, who, hn1, hn2]
        have e_turnY : turnY x.l y.l 1 = y.l := by simp [turnY, who, hn1, hn2]
        rw [e_turnK, e_turnS, e_turnB, e_turnX, e_turnY]
        clear e_turnK e_turnS e_turnB e_turnX e_turnY
        have hzz := hx
        clear hzz
        go_enter Try.func22, Try.ntmps22
        go_wp2
        go_region_held3 (fun _ => True) (trivial) (first
          | (go_at_call 31; (with_reducible refine hcc.mono ?_); rintro e w2 ⟨o, k, rfl, hrow, hb⟩
             obtain ⟨hrow2, hb2⟩ := arm.out w2 o k hrow hb
             have hx2 := hx.below hb2
             have hy2 := hy.below hb2
             have hix := index_walk hrow2 hy2 hx2
             rw [e1] at hix
             have hKb : MK2 w w2 x.c y.c := .of_below hb2
             obtain ⟨gr, cp, hfm, _, _⟩ := hrow2.form (by omega)
             obtain ⟨ho, _, hk2⟩ := Value.slice.inj hfm
             subst ho
             subst hk2
             have r0 : w2.cell? ⟨gr, 0, none⟩ = some (.pointer (some ⟨y.A, 0, none⟩)) := (hrow2.cellAt 0 (by omega)).trans rfl
             have r1 : w2.cell? ⟨gr, 1, none⟩ = some (.pointer (some ⟨x.A, 0, none⟩)) := (hrow2.cellAt 1 (by omega)).trans rfl
             clear hrow hb hrow2 hfm))
        go_wp2_with (first
          | (go_at_call 32; (with_reducible refine hix.mono ?_); rintro e w3 ⟨rfl, rfl⟩)
          | (go_at_call 13; (with_reducible refine (take_walk hx2).mono ?_); rintro e w4 ⟨rfl, hm, hK⟩))
        go_returns
        exact ⟨rfl, hm, hy2.keeps hK s3 (Ne.symm s2), (hK.two _).after hKb⟩
    · have e1 : idxOf [y.l, x.l] = 0 := by simp [idxOf, firstOf, hn1]
      have e_turnK : turnK x.l y.l 1 = 1 := by simp [turnK, who, hn1]
      have e_turnS : turnS x.l y.l 1 = hd y.l := by simp [turnS, who, hn1]
      have e_turnB : turnB x.l y.l 1 = true := by simp [turnB, who, hn1]
      have e_turnX : turnX x.l y.l 1 = x.l := by simp [turnX, who, hn1]
      have e_turnY : turnY x.l y.l 1 = y.l.tail := by simp [turnY, who, hn1]
      rw [e_turnK, e_turnS, e_turnB, e_turnX, e_turnY]
      clear e_turnK e_turnS e_turnB e_turnX e_turnY
      have hzz := hx
      clear hzz
      go_enter Try.func22, Try.ntmps22
      go_wp2
      go_region_held3 (fun _ => True) (trivial) (first
        | (go_at_call 31; (with_reducible refine hcc.mono ?_); rintro e w2 ⟨o, k, rfl, hrow, hb⟩
           obtain ⟨hrow2, hb2⟩ := arm.out w2 o k hrow hb
           have hx2 := hx.below hb2
           have hy2 := hy.below hb2
           have hix := index_walk hrow2 hy2 hx2
           rw [e1] at hix
           have hKb : MK2 w w2 x.c y.c := .of_below hb2
           obtain ⟨gr, cp, hfm, _, _⟩ := hrow2.form (by omega)
           obtain ⟨ho, _, hk2⟩ := Value.slice.inj hfm
           subst ho
           subst hk2
           have r0 : w2.cell? ⟨gr, 0, none⟩ = some (.pointer (some ⟨y.A, 0, none⟩)) := (hrow2.cellAt 0 (by omega)).trans rfl
           have r1 : w2.cell? ⟨gr, 1, none⟩ = some (.pointer (some ⟨x.A, 0, none⟩)) := (hrow2.cellAt 1 (by omega)).trans rfl
           clear hrow hb hrow2 hfm))
      go_wp2_with (first
        | (go_at_call 32; (with_reducible refine hix.mono ?_); rintro e w3 ⟨rfl, rfl⟩)
        | (go_at_call 13; (with_reducible refine (take_walk hy2).mono ?_); rintro e w4 ⟨rfl, hm, hK⟩))
      go_returns
      exact ⟨rfl, hx2.keeps hK s1 s2, hm, (hK.two' _).after hKb⟩
  · have hw : who x.l y.l f = none := by unfold who; rw [if_neg hf0, if_neg hf1]
    have e1 : turnK x.l y.l f = 0 := by simp [turnK, hw]
    have e2 : turnS x.l y.l f = ⟨#[]⟩ := by simp [turnS, hw]
    have e3 : turnB x.l y.l f = false := by simp [turnB, hw]
    have e4 : turnX x.l y.l f = x.l := by simp [turnX, hw]
    have e5 : turnY x.l y.l f = y.l := by simp [turnY, hw]
    rw [e1, e2, e3, e4, e5]
    have hc : f < 0 ∨ 0 ≤ f ∧ 2 ≤ f := by omega
    have hK : MK2 w w x.c y.c := ⟨rfl, rfl, rfl, Nat.le_refl _, fun _ _ _ _ => rfl⟩
    clear hw e1 e2 e3 e4 e5 hf0 hf1
    rcases hc with hc | ⟨hc, hc2⟩
    all_goals
      go_enter Try.func22, Try.ntmps22
      go_wp2
      go_returns
      exact ⟨rfl, hx, hy, hK⟩
set_option maxHeartbeats 4000000 in
theorem turn_one {w : World} {g : Nat} {x : BoxV} (h0 : w.cell? ⟨g, 0, none⟩ = some x.ptr) (hx : MAt w x.A x.c x.cap x.l) (hne : x.l = []) :
    Calls Try.prog 22 #[.slice (some ⟨g, 0, none⟩) 1 1, .int .i64 0] w fun e w' => e = .returned (.tuple #[.int .i64 0, .string ⟨#[]⟩, .bool false]) ∧ Below w.heap.size w w' := by
  have hgl : g < w.heap.size := by
    unfold World.cell? at h0
    rcases Nat.lt_or_ge g w.heap.size with h | h
    · exact h
    · rw [Array.getElem?_eq_none h] at h0
      cases h0
  have hb : Below w.heap.size w ((w.alloc (.cells #[.slice (some ⟨g, 0, none⟩) 1 1, .slice (some ⟨g, 0, none⟩) 0 1] 42)).drew) := ((Below.refl _ w).alloc (Nat.le_refl _) _).drew
  have hTwo : Two ((w.alloc (.cells #[.slice (some ⟨g, 0, none⟩) 1 1, .slice (some ⟨g, 0, none⟩) 0 1] 42)).drew) w.heap.size ⟨g, 0, none⟩ ⟨g, 0, none⟩ 1 1 0 1 [x.ptr] [] := by
    refine ⟨heap_alloc_new w _, rfl, rfl, fun j u hu => ?_, fun j u hu => by simp at hu, by intro u hu; simp [BoxV.ptr] at hu; subst hu; rfl, by intro u hu; simp at hu⟩
    rw [add0, hb.cell (p := ⟨g, j, none⟩) hgl]
    match j, hu with
    | 0, hu => simp at hu; subst hu; exact h0
  have hcc := concat_walk hTwo (by omega) (by omega)
  have hbs := hb.size
  have arm := fun (w2 : World) (o : Option Addr) (k : Nat) (hrow : w2.ownsRow ((w.alloc (.cells #[.slice (some ⟨g, 0, none⟩) 1 1, .slice (some ⟨g, 0, none⟩) 0 1] 42)).drew).heap.size 23 1 (.slice o (1 + 0) k) (1 + 0) ([x.ptr] ++ [])) (hb2 : Below ((w.alloc (.cells #[.slice (some ⟨g, 0, none⟩) 1 1, .slice (some ⟨g, 0, none⟩) 0 1] 42)).drew).heap.size ((w.alloc (.cells #[.slice (some ⟨g, 0, none⟩) 1 1, .slice (some ⟨g, 0, none⟩) 0 1] 42)).drew) w2) =>
    (⟨hrow, hb.trans (hb2.mono hbs)⟩ : w2.ownsRow ((w.alloc (.cells #[.slice (some ⟨g, 0, none⟩) 1 1, .slice (some ⟨g, 0, none⟩) 0 1] 42)).drew).heap.size 23 1 (.slice o 1 k) 1 [x.ptr] ∧ Below w.heap.size w w2)
  have arm := Lib.hid arm
  have hne := Lib.hid hne
  clear hTwo hb hbs
  go_enter Try.func22, Try.ntmps22
  go_wp2
  go_region_held3 (fun _ => True) (trivial) (first
    | (go_at_call 31; (with_reducible refine hcc.mono ?_); rintro e w2 ⟨o, k, rfl, hrow, hb⟩
       obtain ⟨hrow2, hb2⟩ := arm.out w2 o k hrow hb
       have hix := index_one hrow2 (hx.below hb2) hne.out
       clear hrow hb hrow2))
  go_wp2_with (first
    | (go_at_call 32; (with_reducible refine hix.mono ?_); rintro e w3 ⟨rfl, rfl⟩))
  go_returns
  exact ⟨rfl, hb2⟩
end Go.Proofs.Ytgomnnddfddkhaa.ML
