/-
  Chapter 08: a box: its state in memory; New, Put, Take, First, Len, Room.
-/
import Derived.Test.YtgomnnddfddkhaaMailList
import Derived.LoopN
import Derived.Lib.Hide
import Derived.OwnWalk
import Derived.Handy
import Derived.WalkLawsBesides
namespace Go.Proofs.Ytgomnnddfddkhaa.ML
open Go.RowKit Go.Conc Go.Proofs.Ytgomnnddfddkhaa

/-- A box at a block: its channel, how many it may have, its texts. -/
structure MAt (w : World) (A c cap : Nat) (l : List ByteArray) : Prop where
  box : w.heap[A]? = some (.cells #[.chan (some c)] 57 (0, 0))
  chan : ∃ s r, w.heap[c]? = some (.chan cap (l.map Value.string).toArray false s r false)
  le : l.length ≤ cap
theorem MAt.ltA {w : World} {A c cap : Nat} {l : List ByteArray} (h : MAt w A c cap l) : A < w.heap.size := (Array.getElem?_eq_some_iff.1 h.box).1
theorem MAt.ltc {w : World} {A c cap : Nat} {l : List ByteArray} (h : MAt w A c cap l) : c < w.heap.size := by
  obtain ⟨s, r, hc⟩ := h.chan
  exact (Array.getElem?_eq_some_iff.1 hc).1
theorem MAt.ne {w : World} {A c cap : Nat} {l : List ByteArray} (h : MAt w A c cap l) : A ≠ c := by
  rintro rfl
  obtain ⟨s, r, hc⟩ := h.chan
  rw [h.box] at hc
  cases hc
theorem MAt.cell {w : World} {A c cap : Nat} {l : List ByteArray} (h : MAt w A c cap l) : w.cell? ⟨A, 0, none⟩ = some (.chan (some c)) := by simp [World.cell?, h.box]
theorem MAt.len {w : World} {A c cap : Nat} {l : List ByteArray} (h : MAt w A c cap l) (ty : TypeId) : (Builtin.len_ #[53] ty #[.chan (some c)]).run Try.prog w = .ok (.int .i64 l.length) w := by
  obtain ⟨s, r, hc⟩ := h.chan
  have := run_len_chan (P := Try.prog) 53 ty Try.underlying53 hc
  simpa [goInt] using this
theorem MAt.cap {w : World} {A c cap : Nat} {l : List ByteArray} (h : MAt w A c cap l) (ty : TypeId) : (Builtin.cap_ #[53] ty #[.chan (some c)]).run Try.prog w = .ok (.int .i64 cap) w := by
  obtain ⟨s, r, hc⟩ := h.chan
  have := run_cap_chan (P := Try.prog) 53 ty Try.underlying53 hc
  simpa [goInt] using this
theorem MAt.below {w w2 : World} {A c cap : Nat} {l : List ByteArray} (h : MAt w A c cap l) (hb : Below w.heap.size w w2) : MAt w2 A c cap l :=
  ⟨(hb.block A h.ltA).trans h.box, by obtain ⟨s, r, hc⟩ := h.chan; exact ⟨s, r, (hb.block c h.ltc).trans hc⟩, h.le⟩
theorem MAt.alloc {w : World} {A c cap : Nat} {l : List ByteArray} (h : MAt w A c cap l) (o : Obj) : MAt (w.alloc o) A c cap l := h.below ((Below.refl _ _).alloc (Nat.le_refl _) o)
theorem MAt.drew {w : World} {A c cap : Nat} {l : List ByteArray} (h : MAt w A c cap l) : MAt w.drew A c cap l := ⟨h.box, h.chan, h.le⟩
theorem MAt.keeps {w w2 : World} {A c c2 cap : Nat} {l : List ByteArray} (h : MAt w A c cap l) (hK : MKeeps w w2 c2) (h1 : A ≠ c2) (h2 : c ≠ c2) : MAt w2 A c cap l :=
  ⟨(hK.block A h.ltA h1).trans h.box, by obtain ⟨s, r, hc⟩ := h.chan; exact ⟨s, r, (hK.block c h.ltc h2).trans hc⟩, h.le⟩
theorem MKeeps.drew {w w2 : World} {c : Nat} (h : MKeeps w w2 c) : MKeeps w w2.drew c := ⟨h.os, h.tape, h.output, h.size, h.block⟩
/-- The answers. -/
def hd : List ByteArray → ByteArray
  | [] => ⟨#[]⟩
  | x :: _ => x
def non : List ByteArray → Bool
  | [] => false
  | _ :: _ => true
def putT (cap : Nat) (l : List ByteArray) (x : ByteArray) : List ByteArray := if l.length < cap then l ++ [x] else l
def putE (cap : Nat) (l : List ByteArray) : Int := if l.length < cap then 0 else 7
theorem bytes9 : ∃ i, Try.prog.info? 9 = some i ∧ i.bytes = 16 := by
  have h : (Try.prog.info? 9).map (·.bytes) = some 16 := by kernel_rfl
  obtain ⟨i, hi, hb⟩ := Option.map_eq_some_iff.1 h
  exact ⟨i, hi, hb⟩
theorem mkn (w : World) (n : Nat) (hn : n ≤ 1000000) : (Instr.makeChan 53 (.int .i64 n)).run Try.prog w = .ok (.chan (some w.heap.size)) (w.alloc (.chan n #[] false 0 0 false)) := by
  obtain ⟨i, hi, hb⟩ := bytes9
  simpa using run_makeChan (P := Try.prog) (w := w) Try.underlying53 hi .i64 n (by omega) (by rw [hb]; omega)
set_option maxHeartbeats 1000000 in
theorem fresh_walk (n : Nat) (hn : n ≤ 1000000) (w : World) : Calls Try.prog 27 #[.int .i64 n] w fun e w' => e = .returned (.pointer (some ⟨w.heap.size + 1, 0, none⟩)) ∧ MAt w' (w.heap.size + 1) w.heap.size n [] ∧ Below w.heap.size w w' := by
  have hm := fun w => mkn w n hn
  have hres : MAt ((w.alloc (.chan n #[] false 0 0 false)).alloc (.cells #[.chan (some w.heap.size)] 57)) (w.heap.size + 1) w.heap.size n [] := by
    refine ⟨?_, ⟨0, 0, (Below.heap_alloc _ _ _ (by simp)).trans (heap_alloc_new w _)⟩, Nat.zero_le _⟩
    have := heap_alloc_new (w.alloc (.chan n #[] false 0 0 false)) (.cells #[.chan (some w.heap.size)] 57)
    simpa using this
  have hbl : Below w.heap.size w ((w.alloc (.chan n #[] false 0 0 false)).alloc (.cells #[.chan (some w.heap.size)] 57)) := ((Below.refl _ w).alloc (Nat.le_refl _) _).alloc (by simp) _
  go_enter Try.func27, Try.ntmps27
  go_wp2
  go_returns
  exact ⟨rfl, hres, hbl⟩
set_option maxHeartbeats 1000000 in
theorem new_walk (n : Nat) (h1 : 1 ≤ n) (h2 : n ≤ 256) (w : World) : Calls Try.prog 9 #[.int .i64 n] w fun e w' => e = .returned (.tuple #[.pointer (some ⟨w.heap.size + 1, 0, none⟩), .int .i64 0]) ∧ MAt w' (w.heap.size + 1) w.heap.size n [] ∧ Below w.heap.size w w' := by
  have hf := fresh_walk n (by omega)
  have h3 : ¬ (n : Int) < 1 := by omega
  have h4 : ¬ 256 < (n : Int) := by omega
  have h3b : ¬ n < 1 := by omega
  have h4b : ¬ 256 < n := by omega
  clear h1 h2
  go_enter Try.func9, Try.ntmps9
  go_wp2_with (go_at_call 27; (with_reducible refine (hf _).mono ?_); rintro e w2 ⟨rfl, hm, hb⟩)
  go_returns
  exact ⟨rfl, hm, hb⟩
set_option maxHeartbeats 1000000 in
theorem new_no (n : Int) (h : ¬ (1 ≤ n ∧ n ≤ 256)) (w : World) : Calls Try.prog 9 #[.int .i64 n] w fun e w' => e = .returned (.tuple #[.pointer none, .int .i64 1]) ∧ w = w' := by
  have h0 : n < 1 ∨ 1 ≤ n ∧ 256 < n := by omega
  clear h
  rcases h0 with h0 | ⟨h0, h1⟩
  all_goals
    go_enter Try.func9, Try.ntmps9
    go_wp2
    go_returns
    exact ⟨rfl, rfl⟩
set_option maxHeartbeats 1000000 in
theorem put_walk {w : World} {A c cap : Nat} {l : List ByteArray} (h : MAt w A c cap l) (x : ByteArray) :
    Calls Try.prog 11 #[.pointer (some ⟨A, 0, none⟩), .string x] w fun e w' => e = .returned (.int .i64 (putE cap l)) ∧ MAt w' A c cap (putT cap l x) ∧ MKeeps w w' c := by
  have hcell := h.cell
  have hcl := h.ltc
  obtain ⟨s, r, hc⟩ := h.chan
  by_cases hr : l.length < cap
  · have hp := put_room x hc (by simpa using hr)
    have hpush : (l.map Value.string).toArray.push (.string x) = ((l ++ [x]).map Value.string).toArray := by simp
    rw [hpush] at hp
    have e1 : putE cap l = 0 := by unfold putE; rw [if_pos hr]
    have e2 : putT cap l x = l ++ [x] := by unfold putT; rw [if_pos hr]
    rw [e1, e2]
    have hKa : MKeeps w (w.alloc (pipeB c)) c := (MKeeps.refl w c).alloc _
    have hfin : MAt ((w.alloc (pipeB c)).setChan c cap ((l ++ [x]).map Value.string).toArray false (s + 1) r false) A c cap (l ++ [x]) := by
      refine ⟨(((MKeeps.refl (w.alloc (pipeB c)) c).setChan cap _ false _ _ false).block A (by simp; have := h.ltA; omega) h.ne).trans ((Below.heap_alloc _ _ _ h.ltA).trans h.box), ⟨s + 1, r, heap_setChan _ c cap _ false _ _ false (by simp; omega)⟩, by simp; omega⟩
    have hK : MKeeps w ((w.alloc (pipeB c)).setChan c cap ((l ++ [x]).map Value.string).toArray false (s + 1) r false) c := hKa.setChan _ _ _ _ _ _
    generalize (w.alloc (pipeB c)).setChan c cap ((l ++ [x]).map Value.string).toArray false (s + 1) r false = W at *
    clear hpush e1 e2 hKa h hc
    go_enter Try.func11, Try.ntmps11
    go_wp2_with (go_at_call 28; (with_reducible refine hp.mono ?_); rintro e w2 ⟨rfl, rfl⟩)
    go_returns
    exact ⟨rfl, hfin, hK⟩
  · have hp := put_full x hc (by simpa using hr)
    have e1 : putE cap l = 7 := by unfold putE; rw [if_neg hr]
    have e2 : putT cap l x = l := by unfold putT; rw [if_neg hr]
    rw [e1, e2]
    have hfin : MAt (w.alloc (pipeB c)) A c cap l := h.alloc _
    have hK : MKeeps w (w.alloc (pipeB c)) c := (MKeeps.refl w c).alloc _
    generalize w.alloc (pipeB c) = W at *
    clear e1 e2 h hc
    go_enter Try.func11, Try.ntmps11
    go_wp2_with (go_at_call 28; (with_reducible refine hp.mono ?_); rintro e w2 ⟨rfl, rfl⟩)
    go_returns
    exact ⟨rfl, hfin, hK⟩
set_option maxHeartbeats 1000000 in
theorem take_walk {w : World} {A c cap : Nat} {l : List ByteArray} (h : MAt w A c cap l) :
    Calls Try.prog 13 #[.pointer (some ⟨A, 0, none⟩)] w fun e w' => e = .returned (.tuple #[.string (hd l), .bool (non l)]) ∧ MAt w' A c cap l.tail ∧ MKeeps w w' c := by
  have hcell := h.cell
  have hcl := h.ltc
  obtain ⟨s, r, hc⟩ := h.chan
  cases l with
  | nil =>
    have hp := take_none hc
    have hfin : MAt (w.alloc (pipeB c)) A c cap [] := h.alloc _
    have hK : MKeeps w (w.alloc (pipeB c)) c := (MKeeps.refl w c).alloc _
    generalize w.alloc (pipeB c) = W at *
    clear h hc
    show Calls Try.prog 13 #[.pointer (some ⟨A, 0, none⟩)] w fun e w' => e = .returned (.tuple #[.string ⟨#[]⟩, .bool false]) ∧ MAt w' A c cap [] ∧ MKeeps w w' c
    go_enter Try.func13, Try.ntmps13
    go_wp2_with (go_at_call 29; (with_reducible refine hp.mono ?_); rintro e w2 ⟨rfl, rfl⟩)
    go_returns
    exact ⟨rfl, hfin, hK⟩
  | cons x l =>
    have hp := take_some (x := x) (l := l.map Value.string) hc
    have hKa : MKeeps w (w.alloc (pipeB c)) c := (MKeeps.refl w c).alloc _
    have hfin : MAt ((w.alloc (pipeB c)).setChan c cap (l.map Value.string).toArray false s (r + 1) false) A c cap l := by
      refine ⟨(((MKeeps.refl (w.alloc (pipeB c)) c).setChan cap _ false _ _ false).block A (by simp; have := h.ltA; omega) h.ne).trans ((Below.heap_alloc _ _ _ h.ltA).trans h.box), ⟨s, r + 1, heap_setChan _ c cap _ false _ _ false (by simp; omega)⟩, by have := h.le; simp at this; omega⟩
    have hK : MKeeps w ((w.alloc (pipeB c)).setChan c cap (l.map Value.string).toArray false s (r + 1) false) c := hKa.setChan _ _ _ _ _ _
    generalize (w.alloc (pipeB c)).setChan c cap (l.map Value.string).toArray false s (r + 1) false = W at *
    clear h hc hKa
    show Calls Try.prog 13 #[.pointer (some ⟨A, 0, none⟩)] w fun e w' => e = .returned (.tuple #[.string x, .bool true]) ∧ MAt w' A c cap l ∧ MKeeps w w' c
    go_enter Try.func13, Try.ntmps13
    go_wp2_with (go_at_call 29; (with_reducible refine hp.mono ?_); rintro e w2 ⟨rfl, rfl⟩)
    go_returns
    exact ⟨rfl, hfin, hK⟩
set_option maxHeartbeats 1000000 in
theorem len_walk {w : World} {A c cap : Nat} {l : List ByteArray} (h : MAt w A c cap l) :
    Calls Try.prog 24 #[.pointer (some ⟨A, 0, none⟩)] w fun e w' => e = .returned (.int .i64 l.length) ∧ w = w' := by
  have hcell := h.cell
  have hlen := h.len
  clear h
  go_enter Try.func24, Try.ntmps24
  go_wp2
  go_returns
  exact ⟨rfl, rfl⟩
set_option maxHeartbeats 1000000 in
theorem room_walk {w : World} {A c cap : Nat} {l : List ByteArray} (h : MAt w A c cap l) (hcap : cap ≤ 1000000) :
    Calls Try.prog 25 #[.pointer (some ⟨A, 0, none⟩)] w fun e w' => e = .returned (.int .i64 (cap - l.length)) ∧ w' = w.drew := by
  have hcell := h.cell
  have hlen := h.drew.len
  have hcp := h.drew.cap
  have hle := h.le
  clear h
  go_enter Try.func25, Try.ntmps25
  go_wp2
  go_region
  go_wp2
  go_returns
  exact ⟨rfl, rfl⟩
end Go.Proofs.Ytgomnnddfddkhaa.ML
