import Derived.Laws.BytesArg
import Derived.Outline
import Derived.Deep.Cut
import Derived.Test.YtkiepnmbimkadaaKRecovers43
namespace Go.Proofs.Ytkiepnmbimkadaa.WL
open Go.RowKit Go.Proofs.Ytkiepnmbimkadaa Go.Proofs.Ytkiepnmbimkadaa.DK Go.Proofs.Ytkiepnmbimkadaa.Pr Go.Proofs.Ytkiepnmbimkadaa.VP Go.Proofs.Ytkiepnmbimkadaa.VF Go.Proofs.Ytkiepnmbimkadaa.CF Go.Proofs.Ytkiepnmbimkadaa.WF
abbrev bA : ByteArray := ⟨#[97]⟩
abbrev bB : ByteArray := ⟨#[98]⟩
abbrev bS : ByteArray := ⟨#[115]⟩
abbrev bX : ByteArray := ⟨#[120]⟩
def F1 : Four := ⟨⟨#[]⟩, textS 0 [bA], ⟨#[]⟩, ⟨#[]⟩⟩
def F2 : Four := ⟨⟨#[]⟩, textS 0 [bA, bB], ⟨#[]⟩, ⟨#[]⟩⟩
def F3 : Four := ⟨rowB 1 bS, ⟨#[]⟩, ⟨#[]⟩, ⟨#[]⟩⟩
def F4 : Four := ⟨rowB 1 bS, textS 0 [bA, bB], ⟨#[]⟩, ⟨#[]⟩⟩
def wB : List Wr := [⟨false, 1, rowB 0 bB⟩]
def wC : List Wr := [⟨false, 1, rowB 0 bB⟩, ⟨true, 0, rowB 1 bS⟩, ⟨true, 1, ⟨#[]⟩⟩]
theorem below_then {N M : Nat} {w0 w1 w2 : World} (h2 : Below M w1 w2) (h1 : Below N w0 w1) (h : N ≤ M) : Below N w0 w2 := h1.trans (h2.mono h)
theorem rA_size : (rowB 0 bA).size ≤ 23 := (rowB_size 0 bA).2
theorem rB_size : (rowB 0 bB).size ≤ 23 := (rowB_size 0 bB).2
theorem rS_size : (rowB 1 bS).size ≤ 23 := (rowB_size 1 bS).2
theorem nil_app (s : ByteArray) : (⟨#[]⟩ : ByteArray) ++ s = s := by
  apply ByteArray.ext
  simp
theorem text_one (r : Int) (x : ByteArray) : textS r [x] = rowB r x := app_nil _
theorem text_two (r : Int) (x y : ByteArray) : textS r [x, y] = rowB r x ++ rowB r y := by
  show rowB r x ++ textS r [y] = _
  rw [text_one]
theorem t1_size : (textS 0 [bA]).size ≤ 23 := by rw [text_one]; exact rA_size
theorem t2_size : (textS 0 [bA, bB]).size ≤ 46 := by
  rw [text_two, ByteArray.size_append]
  have := rA_size
  have := rB_size
  omega
theorem f1_le (i : Int) : (F1.at i).size ≤ 65536 := at_le _ (Nat.zero_le _) (Nat.le_trans t1_size (by decide)) (Nat.zero_le _) (Nat.zero_le _) i
theorem f4_le (i : Int) : (F4.at i).size ≤ 65536 := at_le _ (Nat.le_trans rS_size (by decide)) (Nat.le_trans t2_size (by decide)) (Nat.zero_le _) (Nat.zero_le _) i
theorem tells1 (u : Nat) : Tells F1 ⟨0, ⟨#[]⟩, [bA], u⟩ := Tells.whole (by decide) (by decide) head_none (fun y hy => by simp at hy; subst hy; decide) rfl (f1_le 1)
theorem tells4 (u : Nat) : Tells F4 ⟨1, bS, [], u⟩ :=
  ⟨(show (0 : Int) ≤ 1 by decide), (show (1 : Int) ≤ 1099511000000 by decide), head_row (by decide) (by decide) bS (by decide), 0, [bA, bB], ⟨#[]⟩, 0, by decide, by decide, (fun y hy => by simp at hy; rcases hy with rfl | rfl <;> decide), by decide, by have := rowB_size 0 ⟨#[]⟩; omega, by rw [row_none, app_nil]; rfl, f4_le 1, .inr ⟨(show (0 : Int) ≠ 1 by decide), rfl⟩⟩
theorem sound_b : Sound 1 ⟨F2, F1, wB⟩ := by
  have h := (Sound.sure 0 f1_le).append 1 (rowB 0 bB)
  have e : appendT ⟨F1, F1, []⟩ 1 (rowB 0 bB) = ⟨F2, F1, wB⟩ := by
    unfold appendT
    rw [if_pos (app_yes (by omega) (by have := rB_size; have := t1_size; show (textS 0 [bA]).size + _ ≤ _; omega))]
    have : F1.to 1 (F1.at 1 ++ rowB 0 bB) = F2 := by
      show Four.mk _ (textS 0 [bA] ++ rowB 0 bB) _ _ = Four.mk _ (textS 0 [bA, bB]) _ _
      rw [text_one, text_two]
      rfl
    rw [this]
    rfl
  rw [e] at h
  exact h
theorem sound_c : Sound 3 ⟨F3, F1, wC⟩ := by
  have h := (sound_b.replace 0 (rowB 1 bS)).replace 1 ⟨#[]⟩
  have e : replaceT (replaceT ⟨F2, F1, wB⟩ 0 (rowB 1 bS)) 1 ⟨#[]⟩ = ⟨F3, F1, wC⟩ := by
    unfold replaceT
    rw [if_pos (rep_yes (i := 0) (s := rowB 1 bS) (by omega) (by have := rS_size; omega)), if_pos (rep_yes (i := 1) (s := ⟨#[]⟩) (by omega) (by decide))]
    rfl
  rw [e] at h
  exact h
theorem units_c : unitsOf wC = (rowB 0 bB).size + 2 := rfl
theorem stays_c : stays wC ((rowB 0 bB).size + 1) F1 = F4 := by
  show stays (⟨false, 1, rowB 0 bB⟩ :: [⟨true, 0, rowB 1 bS⟩, ⟨true, 1, ⟨#[]⟩⟩]) ((rowB 0 bB).size + 1) F1 = F4
  rw [stays_on (by simp)]
  have e1 : min ((rowB 0 bB).size + 1) (Wr.units ⟨false, 1, rowB 0 bB⟩) = (rowB 0 bB).size := by
    show min _ (rowB 0 bB).size = _
    omega
  rw [e1, show (rowB 0 bB).size + 1 - (rowB 0 bB).size = 1 by omega]
  have e2 : (Wr.mk false 1 (rowB 0 bB)).act F1 (rowB 0 bB).size = F2 := by
    show Four.to F1 1 (F1.at 1 ++ (rowB 0 bB).extract 0 (rowB 0 bB).size) = F2
    rw [extract_whole]
    show Four.mk _ (textS 0 [bA] ++ rowB 0 bB) _ _ = Four.mk _ (textS 0 [bA, bB]) _ _
    rw [text_one, text_two]
    rfl
  rw [e2]
  rfl
theorem open_x (k : Four) (l : List Wr) : openE ⟨zero4.to 0 bX, k, l⟩ = 3 := by
  have hg : getS bX 0 = (120, 1, 0) := by kernel_rfl
  have hc : cutS bX 0 = (⟨#[]⟩, 0, 3) := by
    unfold cutS
    rw [hg]
    decide
  have ho : openS bX 0 = (⟨#[]⟩, 0, 3) := by
    unfold openS
    rw [hc]
    rfl
  have hh : headS bX = (0, ⟨#[]⟩, 3) := by
    unfold headS
    rw [if_neg (by decide), ho]
    rfl
  have e : (zero4.to 0 bX).at 0 = bX := rfl
  unfold openE
  rw [e, hh]
theorem same_lit {w : World} {b1 b2 n : Nat} {o1 o2 : Option Addr} {c1 c2 : Nat} (l : List ByteArray) (xs : List Value) (hl : l.length = n) (hx : l.map Value.string = xs) (h1 : w.ownsRow b1 9 1 (.slice o1 n c1) n xs) (h2 : w.ownsRow b2 9 1 (.slice o2 n c2) n xs) (hn : n ≤ 1000000) :
    Calls Try.prog 18 #[.slice o1 n c1, .slice o2 n c2] w fun e w2 => e = .returned (.bool true) ∧ Below w.heap.size w w2 := by
  subst hl
  subst hx
  exact same_yes h1 h2 hn
theorem k_state {w : World} {A : Nat} {V : Value} {L : Nat} (h : LAt 65 w L A V ⟨1, bS, [], 0⟩) : Calls Try.prog 13 #[.pointer (some ⟨L, 0, none⟩)] w fun e w2 => e = .returned (.string ⟨#[115]⟩) ∧ w = w2 := state_walk h
theorem k_round {w : World} {A : Nat} {V : Value} {L : Nat} (h : LAt 65 w L A V ⟨1, bS, [], 0⟩) : Calls Try.prog 23 #[.pointer (some ⟨L, 0, none⟩)] w fun e w2 => e = .returned (.int .i64 1) ∧ w = w2 := round_walk h
theorem k_sure {w : World} {A : Nat} {V : Value} {L : Nat} (h : LAt 65 w L A V ⟨1, bS, [], 0⟩) : Calls Try.prog 19 #[.pointer (some ⟨L, 0, none⟩)] w fun e w2 => e = .returned (.int .i64 0) ∧ w = w2 := sure_walk h
theorem k_recs {w : World} {A : Nat} {V : Value} {L : Nat} (h : LAt 65 w L A V ⟨1, bS, [], 0⟩) : Calls Try.prog 14 #[.pointer (some ⟨L, 0, none⟩)] w fun e w2 => ∃ o c, e = .returned (.slice o 0 c) ∧ Below w.heap.size w w2 :=
  (records_walk h (by decide)).mono fun e w2 ⟨o, c, he, _, hb⟩ => ⟨o, c, he, hb⟩
theorem k_read {w : World} {A : Nat} {W : Value} (h : At w A W F3 F3 []) : Calls Try.prog 21 #[.pointer (some ⟨A, 0, none⟩), .int .i64 1] w fun e w2 => e = .returned (.string ⟨#[]⟩) ∧ w = w2 := read_walk h 1
def mkRow : Obj := .cells (madeCells #[.int .u8 0] 1025) 5
def bigB : ByteArray := strOfNums (List.replicate 1025 0)
theorem big_size : bigB.size = 1025 := by
  unfold bigB
  rw [strOfNums_size, List.length_replicate]
theorem infoU : (Try.prog.info? 5).map (fun i => (i.zero, i.size, i.bytes)) = some (some (.int .u8 0), 1, 1) := by kernel_rfl
theorem underU : Try.prog.underlying 77 = some (.slice 5) := by kernel_rfl
theorem underU1 : Try.prog.underlying 5 = some (.int .u8) := by kernel_rfl
theorem underS1 : Try.prog.underlying 9 = some .string := by kernel_rfl
theorem made_big (w : World) : (Instr.makeSlice 77 (.int .i64 1025) (.int .i64 1025)).run Try.prog w = .ok (.slice (some ⟨w.heap.size, 0, none⟩) 1025 1025) (w.alloc mkRow) := by
  obtain ⟨i0, hi, hz⟩ := Option.map_eq_some_iff.1 infoU
  simp only [Prod.mk.injEq] at hz
  obtain ⟨hz0, hz1, hz2⟩ := hz
  have h := run_makeSlice (P := Try.prog) w 77 5 i0 (.int .u8 0) underU hi hz0 .i64 .i64 1025 1025 (by decide) (by decide) (by rw [hz1]; decide) (by rw [hz2]; decide) (by decide)
  rw [hz1] at h
  exact h
theorem conv_big {w : World} {b : Nat} (h : w.heap[b]? = some mkRow) : (convert 77 9 (.slice (some ⟨b, 0, none⟩) 1025 1025)).run Try.prog w = .ok (.string bigB) w := by
  refine run_convert_bytes_arg w 77 5 underU underU1 b 0 1025 1025 (List.replicate 1025 0) (List.length_replicate ..) (fun i hi => ?_) 9 underS1
  have hc : w.cell? ⟨b, i, none⟩ = (madeCells #[.int .u8 0] 1025)[i]? := cell_of h i
  rw [Nat.zero_add, hc, ← Array.getElem?_toList, toList_madeCells_one]
  rw [List.getElem?_replicate, if_pos hi, List.getD_eq_getElem?_getD, List.getElem?_replicate, if_pos hi]
  rfl
abbrev LT : TypeId := 65
section
variable {w : World} {A : Nat} {W : Value} {L : Nat} {V : Value}
theorem fx_open (h : At w A W zero4 zero4 []) : Calls Try.prog 10 #[.pointer (some ⟨A, 0, none⟩)] w fun e w2 => ∃ L, e = .returned (.tuple #[.pointer (some ⟨L, 0, none⟩), .int .i64 0]) ∧ Opened own LT w w2 A W L ⟨zero4, zero4, []⟩ ⟨0, ⟨#[]⟩, [], 0⟩ :=
  open_ok (st := ⟨zero4, zero4, []⟩) h (Sound.zero 0) (by decide) (s := ⟨0, ⟨#[]⟩, [], 0⟩) Tells.zero
theorem f1_of : zero4.to 1 (zero4.at 1 ++ rowB 0 bA) = F1 := by
  show Four.mk _ (⟨#[]⟩ ++ rowB 0 bA) _ _ = Four.mk _ (textS 0 [bA]) _ _
  rw [text_one, nil_app]
  rfl
theorem f2_of : F1.to 1 (F1.at 1 ++ rowB 0 bB) = F2 := by
  show Four.mk _ (textS 0 [bA] ++ rowB 0 bB) _ _ = Four.mk _ (textS 0 [bA, bB]) _ _
  rw [text_one, text_two]
  rfl
theorem fx_app_a (h : PL own LT w A W L V ⟨zero4, zero4, []⟩ ⟨0, ⟨#[]⟩, [], 0⟩) : Calls Try.prog 12 #[.pointer (some ⟨L, 0, none⟩), .string ⟨#[97]⟩] w fun e w2 => e = .returned (.int .i64 0) ∧ Step own LT w w2 A W L V ⟨F1, zero4, [⟨false, 1, rowB 0 bA⟩]⟩ ⟨0, ⟨#[]⟩, [bA], 0⟩ := by
  have hw := lappend_ok h (Sound.zero 0) (by decide) (show (0 : Int) ≤ 0 by decide) (show (0 : Int) ≤ 1099511000000 by decide) (by decide) bA (by decide) (by have := rA_size; show 0 + (rowB 0 bA).size ≤ _; omega)
  simp only [f1_of] at hw
  exact hw
theorem fx_sync (h : PL own LT w A W L V ⟨F1, zero4, [⟨false, 1, rowB 0 bA⟩]⟩ ⟨0, ⟨#[]⟩, [bA], 0⟩) : Calls Try.prog 16 #[.pointer (some ⟨L, 0, none⟩)] w fun e w2 => e = .returned (.tuple #[]) ∧ Step own LT w w2 A W L V ⟨F1, F1, []⟩ ⟨0, ⟨#[]⟩, [bA], 1⟩ :=
  lsync_walk h (by decide)
theorem fx_app_b (h : PL own LT w A W L V ⟨F1, F1, []⟩ ⟨0, ⟨#[]⟩, [bA], 1⟩) : Calls Try.prog 12 #[.pointer (some ⟨L, 0, none⟩), .string ⟨#[98]⟩] w fun e w2 => e = .returned (.int .i64 0) ∧ Step own LT w w2 A W L V ⟨F2, F1, wB⟩ ⟨0, ⟨#[]⟩, [bA, bB], 1⟩ := by
  have hw := lappend_ok h (Sound.sure 0 f1_le) (by decide) (show (0 : Int) ≤ 0 by decide) (show (0 : Int) ≤ 1099511000000 by decide) (show 1 ≤ 100000 by decide) bB (by decide) (by have := rB_size; have := t1_size; show (textS 0 [bA]).size + (rowB 0 bB).size ≤ _; omega)
  simp only [f2_of] at hw
  exact hw
theorem fx_big (h : PL own LT w A W L V ⟨F2, F1, wB⟩ ⟨0, ⟨#[]⟩, [bA, bB], 1⟩) (x : ByteArray) (hx : x.size = 1025) : Calls Try.prog 12 #[.pointer (some ⟨L, 0, none⟩), .string x] w fun e w2 => e = .returned (.int .i64 2) ∧ Step own LT w w2 A W L V ⟨F2, F1, wB⟩ ⟨0, ⟨#[]⟩, [bA, bB], 1⟩ :=
  lappend_big h sound_b (by decide) (show (0 : Int) ≤ 0 by decide) (show (0 : Int) ≤ 1099511000000 by decide) (show 2 ≤ 100000 by decide) x (by omega) (by omega)
theorem fx_open_m (h : At w A W F1 F1 []) : Calls Try.prog 10 #[.pointer (some ⟨A, 0, none⟩)] w fun e w2 => ∃ L, e = .returned (.tuple #[.pointer (some ⟨L, 0, none⟩), .int .i64 0]) ∧ Opened own LT w w2 A W L ⟨F1, F1, []⟩ ⟨0, ⟨#[]⟩, [bA], 1⟩ :=
  open_ok (st := ⟨F1, F1, []⟩) h (Sound.sure 0 f1_le) (by decide) (s := ⟨0, ⟨#[]⟩, [bA], 0⟩) (tells1 0)
theorem fx_check (h : PL own LT w A W L V ⟨F2, F1, wB⟩ ⟨0, ⟨#[]⟩, [bA, bB], 1⟩) : Calls Try.prog 15 #[.pointer (some ⟨L, 0, none⟩), .string ⟨#[115]⟩] w fun e w2 => e = .returned (.int .i64 0) ∧ Step own LT w w2 A W L V ⟨F3, F1, wC⟩ ⟨1, bS, [], 0⟩ :=
  lcheck_ok h sound_b (by decide) (show (0 : Int) ≤ 0 by decide) (show (0 : Int) ≤ 1099511000000 by decide) bS (by decide)
theorem fx_open_k (h : At w A W F4 F4 []) : Calls Try.prog 10 #[.pointer (some ⟨A, 0, none⟩)] w fun e w2 => ∃ L, e = .returned (.tuple #[.pointer (some ⟨L, 0, none⟩), .int .i64 0]) ∧ Opened own LT w w2 A W L ⟨F3, F3, []⟩ ⟨1, bS, [], 0⟩ :=
  open_ok (st := ⟨F4, F4, []⟩) h (Sound.sure 0 f4_le) (by decide) (s := ⟨1, bS, [], 0⟩) (tells4 0)
theorem fx_crash_o (h : At w A W F2 F1 wB) : Calls Try.prog 17 #[.pointer (some ⟨A, 0, none⟩), .int .i64 0] w fun e w2 => e = .returned (.int .i64 0) ∧ At w2 A (.slice none 0 0) F1 F1 [] ∧ Keeps w w2 A W := by
  have hw := crash_walk h (sound_b.fine (by decide)) 0
  have e : staysN 0 (unitsOf wB) = 0 := by unfold staysN; omega
  rw [e, stays_zero] at hw
  exact hw
theorem fx_crash_d (h : At w A W F3 F1 wC) {u : Int} (hu : u = (rowB 0 bB).size + 1) : Calls Try.prog 17 #[.pointer (some ⟨A, 0, none⟩), .int .i64 u] w fun e w2 => e = .returned (.int .i64 u) ∧ At w2 A (.slice none 0 0) F4 F4 [] ∧ Keeps w w2 A W := by
  have hw := crash_walk h (sound_c.fine (by decide)) u
  have e : staysN u (unitsOf wC) = (rowB 0 bB).size + 1 := by unfold staysN; rw [units_c]; omega
  rw [e, stays_c, hu] at hw
  rw [hu]
  exact hw
theorem fx_units (h : At w A W F3 F1 wC) : Calls Try.prog 11 #[.pointer (some ⟨A, 0, none⟩)] w fun e w2 => e = .returned (.int .i64 (((rowB 0 bB).size + 2 : Nat) : Int)) ∧ Below w.heap.size w w2 :=
  units_walk h (by decide) (by rw [units_c]; have := rB_size; omega)
theorem fx_bad (h : At w A W zero4 zero4 []) : Calls Try.prog 22 #[.pointer (some ⟨A, 0, none⟩), .int .i64 0, .string ⟨#[120]⟩] w fun e w2 => e = .returned (.int .i64 0) ∧ Puts w w2 A W (zero4.to 0 bX) zero4 [⟨true, 0, bX⟩] := by
  have hw := replace_walk h (by decide) 0 bX (by decide)
  simp only [rep_yes (i := 0) (s := bX) (by omega) (by decide), if_true] at hw
  exact hw
theorem fx_open_x (h : At w A W (zero4.to 0 bX) zero4 [⟨true, 0, bX⟩]) : Calls Try.prog 10 #[.pointer (some ⟨A, 0, none⟩)] w fun e w2 => e = .returned (.tuple #[.pointer none, .int .i64 3]) ∧ Below w.heap.size w w2 := by
  have hs : Sound 1 ⟨zero4.to 0 bX, zero4, [⟨true, 0, bX⟩]⟩ := by
    have hr := (Sound.zero 0).replace 0 bX
    unfold replaceT at hr
    rw [if_pos (rep_yes (i := 0) (s := bX) (by omega) (by decide))] at hr
    exact hr
  have e := open_x zero4 [⟨true, 0, bX⟩]
  have hw := open_bad (st := ⟨zero4.to 0 bX, zero4, [⟨true, 0, bX⟩]⟩) h hs (by rw [e]; decide)
  rw [e] at hw
  exact hw
end
set_option maxHeartbeats 8000000 in
set_option maxRecDepth 100000 in
theorem wfixed_walk (w : World) : Calls Try.prog 20 #[] w fun e w2 => e = .returned (.bool true) ∧ Below w.heap.size w w2 := by
  have hn := Own.new w
  go_enter Try.func20, Try.ntmps20
  go_wp2_with (first
    | (go_at_call 9; (with_reducible refine (new_walk _).mono ?_); rintro e w1 ⟨rfl, rfl⟩)
    | (go_at_call 10; (with_reducible refine (fx_open hn.at_).mono ?_); rintro e w2 ⟨L, rfl, hopen⟩
       obtain ⟨W2, V2, h2, _, _⟩ := own_opened hn hopen
       clear hopen)
    | (go_at_call 12; (with_reducible refine (fx_app_a h2.pl).mono ?_); rintro e w3 ⟨rfl, hst⟩
       obtain ⟨W3, V3, h3, _, _⟩ := h2.step hst
       clear hst)
    | (go_at_call 16; (with_reducible refine (fx_sync h3.pl).mono ?_); rintro e w4 ⟨rfl, hst⟩
       obtain ⟨W4, V4, h4, _, _⟩ := h3.step hst
       clear hst))
  go_cut [5, 6] from 18 (fun v5 v6 wx => ∃ W V, v5 = .int .i64 0 ∧ v6 = .int .i64 2 ∧ OP own LT w.heap.size w wx w.heap.size W L V ⟨F2, F1, wB⟩ ⟨0, ⟨#[]⟩, [bA, bB], 1⟩)
  case first =>
    have hm0 := made_big
    have hl4 := h4.pl.inlt
    have hc1 := conv_big (w := (w4.alloc mkRow).drew) (b := w4.heap.size) (heap_alloc_new w4 _)
    have hb0 := fx_app_b (h4.pl.drew)
    have hb1 := fx_app_b ((h4.alloc mkRow).pl.drew)
    have hl5 := Lib.hid (fun k g => by have := hl4 k g; omega : ∀ k, InF w.heap.size W4 L V4 k → k ≠ w4.heap.size)
    clear hl4
    go_region_with (first
      | (go_at_call 12; (with_reducible refine hb0.mono ?_); rintro e w5 ⟨rfl, hst5⟩
         have hc2 := conv_big (w := w5.alloc mkRow) (b := w5.heap.size) (heap_alloc_new w5 _)
         obtain ⟨W5, V5, h5, hk5, hf5⟩ := h4.drew.step hst5
         have hb2 := fx_big (h5.alloc mkRow).pl bigB big_size
         have h6 := h5.alloc mkRow
         clear hst5 hk5 hf5)
      | (go_at_call 12; (with_reducible refine hb1.mono ?_); rintro e w5 ⟨rfl, hst5⟩
         obtain ⟨W5, V5, h5, hk5, hf5⟩ := (h4.alloc mkRow).drew.step hst5
         have hc2 := conv_big (w := w5) (b := w4.heap.size) ((hk5.block w4.heap.size (by simp) (fun g => hl5.out _ g rfl)).trans (heap_alloc_new w4 _))
         have hb2 := fx_big h5.pl bigB big_size
         have h6 := h5
         clear hst5 hk5 hf5)
      | (go_at_call 12; (with_reducible refine hb2.mono ?_); rintro e w7 ⟨rfl, hst7⟩
         obtain ⟨W7, V7, h7, _, _⟩ := h6.step hst7
         clear hst7))
    all_goals
      go_wp2
      go_meet
      exact ⟨_, _, rfl, rfl, h7⟩
  case rest =>
    obtain ⟨W0, V0, rfl, rfl, h0⟩ := hcut
    clear h4 h3 h2 hn
    have hrec := records_walk h0.pl.log (by decide)
    have l0 := Lib.hid h0.pl.inlt
    have hrb := rB_size
    go_wp2_with (first
      | (go_at_call 14; (with_reducible refine hrec.mono ?_); rintro e w1 ⟨ro, rc, rfl, hrow1, hb1⟩
         have h1 := h0.below hb1
         clear hb1)
      | (go_at_call 19; (with_reducible refine (sure_walk h1.pl.log).mono ?_); rintro e w2 ⟨rfl, rfl⟩)
      | (go_at_call 42; (with_reducible refine (copy_walk h1.disk.at_ (by decide)).mono ?_); rintro e w2 ⟨B, X, rfl, ho, hb2, hB, hX⟩
         have z2 := hb2.size)
      | (go_at_call 17; (with_reducible refine (fx_crash_o ho).mono ?_); rintro e w3 ⟨rfl, ho3, hk3⟩
         have hb3 := hk3.bel hb2 z2 hB hX
         have z3 := hb3.size
         clear ho hk3)
      | (go_at_call 10; (with_reducible refine (fx_open_m ho3).mono ?_); rintro e w4 ⟨M, rfl, hopen⟩
         obtain ⟨WM, VM, hM, kM, fM⟩ := own_opened ⟨ho3, below_then hb3 h1.bel h1.base, Nat.le_trans h1.base z3, Nat.le_trans h1.base hB, fun b e => by rw [nil_own] at e; cases e⟩ hopen
         have hb4 := kM.bel hb3 z3 (fun k g => by rcases g with g | g; omega; rw [nil_own] at g; cases g)
         have h4 := h1.below hb4
         have fM2 : ∀ k, InF B WM M VM k → w1.heap.size ≤ k := fun k g => by
           rcases fM k g with (g | g) | g
           · omega
           · rw [nil_own] at g; cases g
           · omega
         have lM := hM.pl.inlt
         have l1 := h1.pl.inlt
         have HM : Hid (∀ k, InF B WM M VM k → ¬ InF w.heap.size W0 L V0 k) := Lib.hid (fun k g g2 => by have := fM2 k g; have := l1 k g2; omega)
         clear hopen kM fM)
      | (go_at_call 15; (with_reducible refine (fx_check h4.pl).mono ?_); rintro e w5 ⟨rfl, hst⟩
         obtain ⟨W5, V5, h5, k5, f5⟩ := h4.step hst
         clear hst)
      | (go_at_call 11; (with_reducible refine (fx_units h5.disk.at_).mono ?_); rintro e w6 ⟨rfl, hb6⟩
         have h6 := h5.below hb6
         have k6 := k5.below hb6)
      | (go_at_call 17; (with_reducible refine (fx_crash_d h6.disk.at_ (u := ((rowB 0 bB).size : Int) + 2 - 1) (by omega)).mono ?_); rintro e w7 ⟨rfl, ho7, hk7⟩
         have l4 := h4.pl.inlt
         have k7 := k6.trans (KeepsF.of_keeps (F := fun k => k = w.heap.size ∨ W5.ownBlock = some k) hk7 (.inl rfl) (fun k e => .inr e)) (fun k hk g => by
           have g2 : InF w.heap.size W5 L V5 k := g.imp id (fun e => .inl e)
           rcases f5 k g2 with e | e
           · exact e
           · omega)
         have z7 := k7.size
         have z4 := hb4.size
         have own7 : Own w.heap.size w w7 w.heap.size (.slice none 0 0) F4 F4 [] := ⟨ho7, k7.bel h4.bel h4.base h4.low, Nat.le_trans h4.base z7, Nat.le_refl _, fun b e => by rw [nil_own] at e; cases e⟩
         clear hk7 h5 h6 k5 k6 f5)
      | (go_at_call 10; (with_reducible refine (fx_open_k ho7).mono ?_); rintro e w8 ⟨K, rfl, hopen⟩
         obtain ⟨WK, VK, hK, kK, fK⟩ := own_opened own7 hopen
         have k8 := k7.trans kK (fun k hk g => by rcases g with g | g; exact .inl g; rw [nil_own] at g; cases g)
         have z8 := k8.size
         have lK := Lib.hid hK.pl.inlt
         clear hopen kK fK k7)
      | (go_at_call 9; (with_reducible refine (new_walk _).mono ?_); rintro e w9 ⟨rfl, rfl⟩
         have hbad := At.new w8)
      | (go_at_call 22; (with_reducible refine (fx_bad hbad).mono ?_); rintro e w10 ⟨rfl, hq⟩
         obtain ⟨WX, hbad2, hkx, _⟩ := hq
         have hb10 : Below w8.heap.size w8 w10 := hkx.bel ((Below.refl _ _).alloc (Nat.le_refl _) _) (by simp) (Nat.le_refl _) (fun b e => by rw [nil_own] at e; cases e)
         clear hkx hbad)
      | (go_at_call 10; (with_reducible refine (fx_open_x hbad2).mono ?_); rintro e w11 ⟨rfl, hb11⟩
         have hb12 := hb10.trans (hb11.mono hb10.size)
         have hK11 := hK.below hb12
         have k11 := k8.below hb12
         have hM11 : PL own LT w11 B WM M VM ⟨F1, F1, []⟩ ⟨0, ⟨#[]⟩, [bA], 1⟩ := hM.pl.keep k11 HM.out
         have hr11 : w11.ownsRow wc.heap.size 9 1 (.slice ro 2 rc) 2 [.string ⟨#[97]⟩, .string ⟨#[98]⟩] :=
           row_moved hrow1 (fun k e => (k11.block k (by have := (hrow1.lt k e).2; omega) (fun g => by have := l0.out k g; have := (hrow1.lt k e).1; omega)).trans (hb4.block k (hrow1.lt k e).2))
         have HB := Lib.hid (Below.refl w11.heap.size w11)
         have hs1 := same_lit (n := 2) (w := w11.alloc (.cells #[.string ⟨#[97]⟩, .string ⟨#[98]⟩] 9)) [⟨#[97]⟩, ⟨#[98]⟩] _ rfl rfl (hr11.alloc _) (World.ownsRow_lit (base := 0) (e := 9) (size := 1) w11 #[.string ⟨#[97]⟩, .string ⟨#[98]⟩] 2 (Nat.zero_le _) (by decide) rfl) (by decide)
         clear hb11 hb10 hbad2)
      | (go_at_call 18; (with_reducible refine hs1.mono ?_); rintro e w12 ⟨rfl, hbs⟩
         have n0 := Lib.hid (((Below.refl w11.heap.size w11).alloc (Nat.le_refl _) (.cells #[.string ⟨#[97]⟩, .string ⟨#[98]⟩] 9)).trans (hbs.mono (by simp)))
         clear HB hbs hr11 hs1
         have HB := n0
         clear n0
         have hrc := records_walk (hM11.below HB.out).log (by decide))
      | (go_at_call 14; (with_reducible refine hrc.mono ?_); rintro e w13 ⟨mo, mc, rfl, hrow13, hb13⟩
         have n0 := Lib.hid (HB.out.trans (hb13.mono HB.out.size))
         have hs2 := same_lit (n := 1) (w := w13.alloc (.cells #[.string ⟨#[97]⟩] 9)) [⟨#[97]⟩] _ rfl rfl (hrow13.alloc _) (World.ownsRow_lit (base := 0) (e := 9) (size := 1) w13 #[.string ⟨#[97]⟩] 1 (Nat.zero_le _) (by decide) rfl) (by decide)
         clear HB hb13 hrc
         have HB := n0
         clear n0)
      | (go_at_call 18; (with_reducible refine hs2.mono ?_); rintro e w14 ⟨rfl, hbs⟩
         have n0 := Lib.hid ((HB.out.alloc HB.out.size (.cells #[.string ⟨#[97]⟩] 9)).trans (hbs.mono (by have := HB.out.size; simp; omega)))
         clear HB hbs hrow13 hs2
         have HB := n0
         clear n0
         have hks := hK11.below HB.out)
      | (go_at_call 13; (with_reducible refine (k_state hks.pl.log).mono ?_); rintro e w15 ⟨rfl, rfl⟩
         have hrk := k_recs hks.pl.log)
      | (go_at_call 14; (with_reducible refine hrk.mono ?_); rintro e w15 ⟨ko, kc, rfl, hb15⟩
         have hkf := hks.below hb15
         clear hrk hb15)
      | (go_at_call 23; (with_reducible refine (k_round hkf.pl.log).mono ?_); rintro e w16 ⟨rfl, rfl⟩)
      | (go_at_call 19; (with_reducible refine (k_sure hkf.pl.log).mono ?_); rintro e w16 ⟨rfl, rfl⟩)
      | (go_at_call 21; (with_reducible refine (k_read hkf.disk.at_).mono ?_); rintro e w16 ⟨rfl, rfl⟩))
    go_returns
    exact ⟨rfl, hkf.bel⟩
end Go.Proofs.Ytkiepnmbimkadaa.WL
