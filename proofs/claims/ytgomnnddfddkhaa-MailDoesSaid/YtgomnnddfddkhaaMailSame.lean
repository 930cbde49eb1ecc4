/-
  Chapter 08: Same of two rows of texts; boxes of the call's own, side by side.
-/
import Derived.Test.YtgomnnddfddkhaaMailTurn2
namespace Go.Proofs.Ytgomnnddfddkhaa.ML
open Go.RowKit Go.Conc Go.Proofs.Ytgomnnddfddkhaa

/-- Texts in memory. -/
def SRow (w : World) (o : Option Addr) (l : List ByteArray) : Prop := ∀ j (hj : j < l.length), ∃ a, o = some a ∧ w.cell? (a.add j) = some (.string (l[j]'hj)) ∧ a.block < w.heap.size
theorem SRow.below {w w2 : World} {o : Option Addr} {l : List ByteArray} (h : SRow w o l) (hb : Below w.heap.size w w2) : SRow w2 o l := fun j hj => by
  obtain ⟨a, ha, hc, hlt⟩ := h j hj
  have e : (a.add j).block = a.block := by
    unfold Addr.add
    split <;> rfl
  exact ⟨a, ha, (hb.cell (by rw [e]; exact hlt)).trans hc, Nat.lt_of_lt_of_le hlt hb.size⟩
theorem SRow.own {w : World} {N : Nat} {o : Option Addr} {k : Nat} {l : List ByteArray} (h : w.ownsRow N 9 1 (.slice o l.length k) l.length (l.map Value.string)) : SRow w o l := fun j hj => by
  obtain ⟨g, cap, hf, _, hlt⟩ := h.form (by omega)
  obtain ⟨ho, _, hk⟩ := Value.slice.inj hf
  subst ho
  subst hk
  refine ⟨⟨g, 0, none⟩, rfl, ?_, hlt⟩
  rw [add0, h.cellAt j (by omega)]
  simp [hj]
set_option maxHeartbeats 2000000 in
theorem same_walk {w : World} {o1 o2 : Option Addr} {k1 k2 : Nat} {l : List ByteArray} (h1 : SRow w o1 l) (h2 : SRow w o2 l) (hl : l.length ≤ 1000000) :
    Calls Try.prog 17 #[.slice o1 l.length k1, .slice o2 l.length k2] w fun e w' => e = .returned (.bool true) ∧ Below w.heap.size w w' := by
  go_enter Try.func17, Try.ntmps17
  go_wp2
  go_loopw [5] (fun v5 wr => ∃ j : Nat, v5 = .int .i64 j ∧ j ≤ l.length ∧ Below w.heap.size w wr) (fun i _ => l.length - (intOf i).toNat)
  case atStart => exact ⟨0, rfl, Nat.zero_le _, Below.refl _ _⟩
  case round =>
    obtain ⟨j, rfl, hj, hb⟩ := hrel
    by_cases hlt : j < l.length
    · obtain ⟨a, rfl, ha, hla⟩ := (h1.below hb) j hlt
      obtain ⟨b, rfl, hc, hlb⟩ := (h2.below hb) j hlt
      generalize l[j]'hlt = x at *
      clear h1 h2
      have hbd := hb.drew
      go_wp2
      go_region
      go_wp2
      go_roundw
      case rel => exact ⟨j + 1, by go_num, by omega, hbd⟩
      case measure => simp [intOf]; omega
    · go_wp2
      go_returns
      exact ⟨rfl, hb⟩
/-- A box of the call's own: it lies from N on. -/
structure MO (N : Nat) (w0 w : World) (A c cap : Nat) (l : List ByteArray) : Prop where
  at_ : MAt w A c cap l
  bel : Below N w0 w
  base : N ≤ w.heap.size
  lowA : N ≤ A
  lowc : N ≤ c
theorem MKeeps.bel {w w1 w2 : World} {N c : Nat} (hK : MKeeps w1 w2 c) (hb : Below N w w1) (hN : N ≤ w1.heap.size) (hc : N ≤ c) : Below N w w2 :=
  ⟨hK.os.trans hb.os, hK.tape.trans hb.tape, hK.output.trans hb.output, Nat.le_trans hb.size hK.size, fun k hk => (hK.block k (by omega) (by omega)).trans (hb.block k hk)⟩
theorem MK2.bel {w w1 w2 : World} {N c d : Nat} (hK : MK2 w1 w2 c d) (hb : Below N w w1) (hN : N ≤ w1.heap.size) (hc : N ≤ c) (hd : N ≤ d) : Below N w w2 :=
  ⟨hK.os.trans hb.os, hK.tape.trans hb.tape, hK.output.trans hb.output, Nat.le_trans hb.size hK.size, fun k hk => (hK.block k (by omega) (by omega) (by omega)).trans (hb.block k hk)⟩
/-- Two boxes share no block. -/
structure Sep (A c B d : Nat) : Prop where
  a : A ≠ d
  b : c ≠ d
  c : B ≠ c
theorem Sep.symm {A c B d : Nat} (h : Sep A c B d) : Sep B d A c := ⟨h.c, h.b.symm, h.a⟩
theorem Sep.fresh {w : World} {A c cap B d : Nat} {l : List ByteArray} (h : MAt w A c cap l) (hB : w.heap.size ≤ B) (hd : w.heap.size ≤ d) : Sep A c B d := by
  have := h.ltA
  have := h.ltc
  exact ⟨by omega, by omega, by omega⟩
section
variable {N : Nat} {w0 w w2 : World} {A c cap B d cap2 : Nat} {l l2 m : List ByteArray}
theorem MO.below (h : MO N w0 w A c cap l) (hb : Below w.heap.size w w2) : MO N w0 w2 A c cap l := ⟨h.at_.below hb, h.bel.trans (hb.mono h.base), Nat.le_trans h.base hb.size, h.lowA, h.lowc⟩
theorem MO.alloc (h : MO N w0 w A c cap l) (o : Obj) : MO N w0 (w.alloc o) A c cap l := h.below ((Below.refl _ _).alloc (Nat.le_refl _) o)
theorem MO.drew (h : MO N w0 w A c cap l) : MO N w0 w.drew A c cap l := ⟨h.at_.drew, h.bel.drew, h.base, h.lowA, h.lowc⟩
theorem MO.own (h : MO N w0 w A c cap l) (hm : MAt w2 A c cap l2) (hK : MKeeps w w2 c) : MO N w0 w2 A c cap l2 := ⟨hm, hK.bel h.bel h.base h.lowc, Nat.le_trans h.base hK.size, h.lowA, h.lowc⟩
theorem MO.other (h : MO N w0 w B d cap2 l2) (hx : MO N w0 w2 A c cap l) (hK : MKeeps w w2 c) (hs : Sep A c B d) : MO N w0 w2 B d cap2 l2 := ⟨h.at_.keeps hK hs.c hs.b.symm, hx.bel, hx.base, h.lowA, h.lowc⟩
theorem MO.eq (h : MO N w0 w A c cap l) (e : l = m) : MO N w0 w A c cap m := e ▸ h
theorem MO.new (h : MAt w2 (w.heap.size + 1) w.heap.size cap []) (hb : Below w.heap.size w w2) (hN : N ≤ w.heap.size) (hbl : Below N w0 w) : MO N w0 w2 (w.heap.size + 1) w.heap.size cap [] := ⟨h, hbl.trans (hb.mono hN), Nat.le_trans hN hb.size, by omega, hN⟩
/-- Behind a call that a box's channel alone was turned by, other blocks. -/
theorem SRow.keeps {o : Option Addr} (h : SRow w o l) (hK : MKeeps w w2 c) (hn : ∀ a, o = some a → 0 < l.length → a.block ≠ c) : SRow w2 o l := fun j hj => by
  obtain ⟨a, ha, hc, hlt⟩ := h j hj
  have e : (a.add j).block = a.block := by
    unfold Addr.add
    split <;> rfl
  refine ⟨a, ha, ?_, Nat.lt_of_lt_of_le hlt hK.size⟩
  rw [← hc]
  unfold World.cell?
  rw [e, hK.block a.block hlt (hn a ha (by omega))]
end
theorem turn_calls {w : World} {g A c cap B d cap2 : Nat} {l l2 : List ByteArray} (h0 : w.cell? ⟨g, 0, none⟩ = some (.pointer (some ⟨A, 0, none⟩))) (h1 : w.cell? ⟨g, 1, none⟩ = some (.pointer (some ⟨B, 0, none⟩))) (hx : MAt w A c cap l) (hy : MAt w B d cap2 l2) (hs : Sep A c B d) (f : Int) :
    Calls Try.prog 22 #[.slice (some ⟨g, 0, none⟩) 2 2, .int .i64 f] w fun e w' => e = .returned (.tuple #[.int .i64 (turnK l l2 f), .string (turnS l l2 f), .bool (turnB l l2 f)]) ∧ MAt w' A c cap (turnX l l2 f) ∧ MAt w' B d cap2 (turnY l l2 f) ∧ MK2 w w' c d :=
  turn_walk (x := ⟨A, c, cap, l⟩) (y := ⟨B, d, cap2, l2⟩) h0 h1 hx hy hs.a hs.b hs.c f
end Go.Proofs.Ytgomnnddfddkhaa.ML
