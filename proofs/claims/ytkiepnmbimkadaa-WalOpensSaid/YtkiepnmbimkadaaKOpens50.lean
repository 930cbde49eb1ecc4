import Derived.Deep.RegionHeld3
import Derived.Deep.Cut
import Derived.Test.YtkiepnmbimkadaaKOpens48
import Derived.Test.YtkiepnmbimkadaaKOpens49
namespace Go.Proofs.Ytkiepnmbimkadaa.WL
open Go.RowKit Go.Proofs.Ytkiepnmbimkadaa Go.Proofs.Ytkiepnmbimkadaa.DK Go.Proofs.Ytkiepnmbimkadaa.Pr Go.Proofs.Ytkiepnmbimkadaa.VP Go.Proofs.Ytkiepnmbimkadaa.VF Go.Proofs.Ytkiepnmbimkadaa.CF Go.Proofs.Ytkiepnmbimkadaa.WF Go.Proofs.Ytkiepnmbimkadaa.ML
attribute [local go_sem] max2_int min2_int max_two min_two
theorem bare_start (w1 : World) :
    Trio w1.heap.size w1 ((w1.alloc (.cells (cellsOf zero4 zero4 (.slice none 0 0)) 61)).alloc (.cells #[.string ⟨#[]⟩, .string ⟨#[]⟩, .string ⟨#[]⟩, .string ⟨#[]⟩, .slice none 0 0] 51))
      (InD w1.heap.size (.slice none 0 0)) (InD (w1.heap.size + 1) (.slice none 0 0)) (fun _ => False) (fun w => own.D w w1.heap.size (.slice none 0 0) ⟨zero4, zero4, []⟩) (fun w => ref.D w (w1.heap.size + 1) (.slice none 0 0) ⟨zero4, zero4, []⟩) (fun _ => True) := by
  refine ⟨(At.new w1).alloc _, ⟨heap_alloc2_new w1 _ _, World.ownsRow_nil _ _ _ _, by simp [Value.ownBlock]⟩, trivial, Kind.foot .., Kind.foot .., Foot.none, ((Below.refl _ _).alloc (Nat.le_refl _) _).alloc (by simp) _, by simp; omega, ?_, ?_, ?_, fun _ _ g => g, fun _ _ g => g⟩
  · rintro k (rfl | e)
    · exact Nat.le_refl _
    · rw [nil_own] at e; cases e
  · rintro k (rfl | e)
    · omega
    · rw [nil_own] at e; cases e
  · rintro k (rfl | e) (g | g)
    · omega
    · rw [nil_own] at g; cases g
    · rw [nil_own] at e; cases e
    · rw [nil_own] at e; cases e
theorem openT_sound {b : Nat} {st : St} (h : Sound b st) : Sound (b + 1) (openT st) := by
  unfold openT
  split
  · exact h.sync.mono (by omega)
  · exact (h.replace 1 _).sync
theorem openL_bd {b : Nat} {st : St} (h : Sound b st) : (openL st).l.length ≤ 65536 := by
  have hz := h.now_le 1
  have hab := allS_bd (s := st.n.at 1) (by omega)
  have hrb := recsS_bd (openR st) (b := 65536) (allS (st.n.at 1)).1 hab.2
  show (recsT st).length ≤ _
  unfold recsT
  omega
theorem cut400 (s : ByteArray) : ∃ j : Int, (if 400 < (s.size : Int) then 400 else (s.size : Int)) = j ∧ 0 ≤ j ∧ j ≤ s.size ∧ j ≤ 400 := ⟨_, rfl, by split <;> omega, by split <;> omega, by split <;> omega⟩
set_option maxHeartbeats 8000000 in
set_option maxRecDepth 100000 in
theorem WalOpens_walk (a0 a1 : ByteArray) (w : World) (w0 : a0.size ≤ 140737488351232) (w1 : a1.size ≤ 140737488351232) :
    Calls Try.prog 7 #[.string a0, .string a1] w fun e w' => e = .returned (.bool true) ∧ Below w.heap.size w w' := by
  obtain ⟨j0, hj0, hj00, hj01, hj02⟩ := cut400 a0
  obtain ⟨j1, hj1, hj10, hj11, hj12⟩ := cut400 a1
  have hz0 : (a0.extract 0 j0.toNat).size ≤ 400 := by rw [ByteArray.size_extract]; omega
  have hz1 : (a1.extract 0 j1.toNat).size ≤ 400 := by rw [ByteArray.size_extract]; omega
  generalize hS0 : a0.extract 0 j0.toNat = S0 at *
  generalize hS1 : a1.extract 0 j1.toNat = S1 at *
  have h0 := bare_start w
  have hfx := wfixed_walk
  have hsd := (Sound.zero 0).replace 0 S0
  have hsd2 := hsd.replace 1 S1
  go_enter Try.func7, Try.ntmps7
  go_wp2_with (first
    | (go_at_call 9; (with_reducible refine (new_walk _).mono ?_); rintro e w2 ⟨rfl, rfl⟩)
    | (go_at_call 22; (with_reducible refine (replace_walk h0.dsk (by decide) 0 S0 (by omega)).mono ?_); rintro e w3 ⟨rfl, hq⟩
       obtain ⟨W3, hD, hk, hW⟩ := replace_puts (st := ⟨zero4, zero4, []⟩) h0.dsk hq
       have h3 := h0.disk (st2 := replaceT ⟨zero4, zero4, []⟩ 0 S0) hD hk hW
       have hl3 := hsd.len
       clear hq hD hk hW)
    | (go_at_call 22; (with_reducible refine (replace_walk h3.dsk (by omega) 1 S1 (by omega)).mono ?_); rintro e w4 ⟨rfl, hq⟩
       obtain ⟨W4, hD, hk, hW⟩ := replace_puts h3.dsk hq
       have h4 := h3.disk (st2 := replaceT (replaceT ⟨zero4, zero4, []⟩ 0 S0) 1 S1) hD hk hW
       clear hq hD hk hW)
    | (go_at_call 32; (with_reducible refine (rreplace_walk (st := ⟨zero4, zero4, []⟩) h4.rat (by decide) 0 S0 (by omega)).mono ?_); rintro e w5 ⟨rfl, hq⟩
       obtain ⟨X5, hD, hk, hW⟩ := hq
       have h5 := (h4.swap.disk (K := ref) (st2 := replaceT ⟨zero4, zero4, []⟩ 0 S0) hD hk hW).swap
       clear hD hk hW)
    | (go_at_call 32; (with_reducible refine (rreplace_walk h5.rat (by omega) 1 S1 (by omega)).mono ?_); rintro e w6 ⟨rfl, hq⟩
       obtain ⟨X6, hD, hk, hW⟩ := hq
       have h6 := (h5.swap.disk (K := ref) (st2 := replaceT (replaceT ⟨zero4, zero4, []⟩ 0 S0) 1 S1) hD hk hW).swap
       clear hD hk hW))
  clear h5 h4 h3 h0 hsd
  generalize replaceT (replaceT ⟨zero4, zero4, []⟩ 0 S0) 1 S1 = st at *
  have HS := Lib.hid hsd2
  have hsl := hsd2.len
  have HT := Lib.hid (openT_sound hsd2)
  have HU : Hid (unitsOf st.l ≤ 65536 * st.l.length) := Lib.hid (unitsOf_le _ hsd2.ok)
  have HU2 : Hid (unitsOf (openT st).l ≤ 65536 * (openT st).l.length) := Lib.hid (unitsOf_le _ HT.out.ok)
  have hsl2 := HT.out.len
  have hll := openL_bd hsd2
  clear hsd2
  by_cases hE : openE st = 0
  · refine (open_good h6.dsk HS.out (by decide) hE).mono ?_
    rintro e w7 ⟨L, rfl, ho⟩
    obtain ⟨W7, V7, h7⟩ := h6.opened ho
    clear ho h6
    go_wp2_with (first
      | (go_at_call 24; (with_reducible refine (ropen_good h7.rat HS.out (by decide) hE).mono ?_); rintro e w8 ⟨R, rfl, ho⟩
         obtain ⟨X8, Y8, h8⟩ := h7.swap.opened ho
         have h8 := h8.swap
         clear ho)
      | (go_at_call 21; (with_reducible refine (read_walk h8.pdsk 0).mono ?_); rintro e w9 ⟨rfl, rfl⟩)
      | (go_at_call 33; (with_reducible refine (rread_walk h8.qdsk HT.out (by decide) 0).mono ?_); rintro e w9 ⟨rfl, hb9⟩
         have h9 := h8.below hb9
         clear hb9)
      | (go_at_call 21; (with_reducible refine (read_walk h9.pdsk 1).mono ?_); rintro e w10 ⟨rfl, rfl⟩)
      | (go_at_call 33; (with_reducible refine (rread_walk h9.qdsk HT.out (by decide) 1).mono ?_); rintro e w10 ⟨rfl, hb10⟩
         have h10 := h9.below hb10
         clear hb10)
      | (go_at_call 11; (with_reducible refine (units_walk h10.pdsk (by omega) (by have := HU2.out; omega)).mono ?_); rintro e w11 ⟨rfl, hb11⟩
         have h11 := h10.below hb11
         clear hb11)
      | (go_at_call 34; (with_reducible refine (runits_walk h11.qdsk (by omega) (by have := HU2.out; omega)).mono ?_); rintro e w12 ⟨rfl, rfl⟩)
      | (go_at_call 25; (with_reducible refine (lsame_walk h11.pl h11.ql HT.out (by decide) (by omega)).mono ?_); rintro e w13 ⟨rfl, hb13⟩
         have h13 := h11.below hb13
         clear hb13)
      | (go_at_call 20; (with_reducible refine (hfx _).mono ?_); rintro e w14 ⟨rfl, hb14⟩
         have h14 := h13.below hb14))
    go_returns
    exact ⟨rfl, h14.bel⟩
  · refine (open_bad h6.dsk HS.out hE).mono ?_
    rintro e w7 ⟨rfl, hb7⟩
    have h7 := h6.below hb7
    clear hb7 h6
    go_wp2_with (first
      | (go_at_call 24; (with_reducible refine (ropen_bad h7.rat HS.out (by decide) hE).mono ?_); rintro e w8 ⟨rfl, hb8⟩
         have h8 := h7.below hb8
         clear hb8)
      | (go_at_call 21; (with_reducible refine (read_walk h8.dsk 0).mono ?_); rintro e w9 ⟨rfl, rfl⟩)
      | (go_at_call 33; (with_reducible refine (rread_walk h8.rat HS.out (by decide) 0).mono ?_); rintro e w9 ⟨rfl, hb9⟩
         have h9 := h8.below hb9
         clear hb9)
      | (go_at_call 21; (with_reducible refine (read_walk h9.dsk 1).mono ?_); rintro e w10 ⟨rfl, rfl⟩)
      | (go_at_call 33; (with_reducible refine (rread_walk h9.rat HS.out (by decide) 1).mono ?_); rintro e w10 ⟨rfl, hb10⟩
         have h10 := h9.below hb10
         clear hb10)
      | (go_at_call 11; (with_reducible refine (units_walk h10.dsk (by omega) (by have := HU.out; omega)).mono ?_); rintro e w11 ⟨rfl, hb11⟩
         have h11 := h10.below hb11
         clear hb11)
      | (go_at_call 34; (with_reducible refine (runits_walk h11.rat (by omega) (by have := HU.out; omega)).mono ?_); rintro e w12 ⟨rfl, rfl⟩)
      | (go_at_call 20; (with_reducible refine (hfx _).mono ?_); rintro e w14 ⟨rfl, hb14⟩
         have h14 := h11.below hb14))
    go_returns
    exact ⟨rfl, h14.bel⟩
end Go.Proofs.Ytkiepnmbimkadaa.WL
namespace Go.Proofs.Ytkiepnmbimkadaa.VF
open Go.RowKit
theorem WalOpens_walk (a0 a1 : ByteArray) (w : World) (w0 : a0.size ≤ 140737488351232) (w1 : a1.size ≤ 140737488351232) :
    Calls Try.prog 7 #[.string a0, .string a1] w fun e w' => e = .returned (.bool true) ∧ Below w.heap.size w w' := WL.WalOpens_walk a0 a1 w w0 w1
end Go.Proofs.Ytkiepnmbimkadaa.VF
