import Derived.Deep.RegionHeld3
import Derived.Test.YtkiepnmbimkadaaKOpens45
import Derived.Test.YtkiepnmbimkadaaKOpens27
namespace Go.Proofs.Ytkiepnmbimkadaa.WL
open Go.RowKit Go.Proofs.Ytkiepnmbimkadaa Go.Proofs.Ytkiepnmbimkadaa.DK Go.Proofs.Ytkiepnmbimkadaa.Pr Go.Proofs.Ytkiepnmbimkadaa.VP Go.Proofs.Ytkiepnmbimkadaa.VF Go.Proofs.Ytkiepnmbimkadaa.CF Go.Proofs.Ytkiepnmbimkadaa.WF
theorem same_calls {w : World} {b1 b2 : Nat} {o1 o2 : Option Addr} {c1 c2 : Nat} {l m : List ByteArray} (h1 : w.ownsRow b1 9 1 (.slice o1 l.length c1) l.length (l.map Value.string)) (h2 : w.ownsRow b2 9 1 (.slice o2 m.length c2) m.length (m.map Value.string)) (hl : l.length ≤ 1000000) :
    Calls Try.prog 18 #[.slice o1 l.length c1, .slice o2 m.length c2] w fun e w2 => e = .returned (.bool (decide (l = m))) ∧ Below w.heap.size w w2 :=
  (rivuletref02_Same.calls (l.length + 1) o1 c1 l o2 c2 m _ w (strs_C h1).1 (strs_C h1).2 (strs_C h2).1 (strs_C h2).2 (same_f l m (by omega) (by omega))).mono fun e w2 ⟨he, hd⟩ => ⟨he, hd.below⟩
theorem same_yes {w : World} {b1 b2 : Nat} {o1 o2 : Option Addr} {c1 c2 : Nat} {l : List ByteArray} (h1 : w.ownsRow b1 9 1 (.slice o1 l.length c1) l.length (l.map Value.string)) (h2 : w.ownsRow b2 9 1 (.slice o2 l.length c2) l.length (l.map Value.string)) (hl : l.length ≤ 1000000) :
    Calls Try.prog 18 #[.slice o1 l.length c1, .slice o2 l.length c2] w fun e w2 => e = .returned (.bool true) ∧ Below w.heap.size w w2 :=
  (same_calls h1 h2 hl).mono fun e w2 ⟨he, hb⟩ => ⟨by rw [he]; simp, hb⟩
theorem below_next {N : Nat} {w w1 w2 : World} (h : Hid (Below N w w1)) (hN : N ≤ w.heap.size) (hb : Below w1.heap.size w1 w2) : Hid (Below N w w2) := Lib.hid (h.out.trans (hb.mono (Nat.le_trans hN h.out.size)))
set_option maxHeartbeats 8000000 in
set_option maxRecDepth 100000 in
theorem lsame_walk {w : World} {A : Nat} {W : Value} {L : Nat} {V : Value} {B : Nat} {X : Value} {R : Nat} {Y : Value} {st : St} {s : LSt} (hP : PL own 65 w A W L V st s) (hQ : PL ref 84 w B X R Y st s) {b : Nat} (hs : Sound b st) (hb : b ≤ 900) (hl : s.l.length ≤ 100000) :
    Calls Try.prog 25 #[.pointer (some ⟨L, 0, none⟩), .pointer (some ⟨R, 0, none⟩), .pointer (some ⟨A, 0, none⟩)] w fun e w2 => e = .returned (.bool true) ∧ Below w.heap.size w w2 := by
  have hlen := hs.len
  have hU : unitsOf st.l ≤ 65536 * st.l.length := unitsOf_le _ hs.ok
  have hstate := fun w2 (hb2 : Below w.drew.heap.size w.drew w2) => state_walk (hP.drew.below hb2).log
  have hrecs := fun w2 (hb2 : Below w.drew.heap.size w.drew w2) => records_walk (hP.drew.below hb2).log (by omega)
  have hround := fun w2 (hb2 : Below w.drew.heap.size w.drew w2) => round_walk (hP.drew.below hb2).log
  have hsure := fun w2 (hb2 : Below w.drew.heap.size w.drew w2) => sure_walk (hP.drew.below hb2).log
  have hread := fun w2 (hb2 : Below w.drew.heap.size w.drew w2) i => read_walk (show At w2 A W st.n st.k st.l from (hP.drew.below hb2).disk) i
  have hkept := fun w2 (hb2 : Below w.drew.heap.size w.drew w2) => kept_walk (show At w2 A W st.n st.k st.l from (hP.drew.below hb2).disk) 1
  have hunits := fun w2 (hb2 : Below w.drew.heap.size w.drew w2) => units_walk (show At w2 A W st.n st.k st.l from (hP.drew.below hb2).disk) (by omega) (by omega)
  have hrread := fun w2 (hb2 : Below w.drew.heap.size w.drew w2) i => rread_walk (show RAt w2 B X st.k st.l from (hQ.drew.below hb2).disk) hs (by omega) i
  have hrkept := fun w2 (hb2 : Below w.drew.heap.size w.drew w2) => rkept_walk (show RAt w2 B X st.k st.l from (hQ.drew.below hb2).disk) 1
  have hrunits := fun w2 (hb2 : Below w.drew.heap.size w.drew w2) => runits_walk (show RAt w2 B X st.k st.l from (hQ.drew.below hb2).disk) (by omega) (by omega)
  obtain ⟨ro, rc, rfl⟩ := own_form hQ.log.row
  have hcell := fun w2 (hb2 : Below w.drew.heap.size w.drew w2) j => (hQ.drew.below hb2).log.cell j
  have hrow := fun w2 (hb2 : Below w.drew.heap.size w.drew w2) => (hQ.drew.below hb2).log.row
  have HB := Lib.hid (Below.refl w.drew.heap.size w.drew)
  have k0 : w.cell? ⟨R, 0, none⟩ = some (.pointer (some ⟨B, 0, none⟩)) := hQ.log.cell 0
  have k1 : w.cell? ⟨R, 1, none⟩ = some (.int .i64 s.round) := hQ.log.cell 1
  have k2 : w.cell? ⟨R, 2, none⟩ = some (.string s.state) := hQ.log.cell 2
  have k3 : w.cell? ⟨R, 3, none⟩ = some (.slice ro s.l.length rc) := hQ.log.cell 3
  have k4 : w.cell? ⟨R, 4, none⟩ = some (.int .i64 s.sure) := hQ.log.cell 4
  have hN : w.heap.size ≤ w.drew.heap.size := Nat.le_refl _
  clear hs hP hQ hU
  go_enter Try.func25, Try.ntmps25
  go_wp2
  simp only [List.append_eq, List.cons_append, List.nil_append]
  go_region_held3 (fun Z => Z.cell? ⟨R, 0, none⟩ = some (.pointer (some ⟨B, 0, none⟩)) ∧ Z.cell? ⟨R, 1, none⟩ = some (.int .i64 s.round) ∧ Z.cell? ⟨R, 2, none⟩ = some (.string s.state) ∧ Z.cell? ⟨R, 3, none⟩ = some (.slice ro s.l.length rc) ∧ Z.cell? ⟨R, 4, none⟩ = some (.int .i64 s.sure)) (exact ⟨k0, k1, k2, k3, k4⟩) (first
    | (go_at_call 13; (with_reducible refine (hstate _ HB.out).mono ?_); rintro e w1 ⟨rfl, rfl⟩)
    | (go_at_call 19; (with_reducible refine (hsure _ HB.out).mono ?_); rintro e w1 ⟨rfl, rfl⟩)
    | (go_at_call 23; (with_reducible refine (hround _ HB.out).mono ?_); rintro e w1 ⟨rfl, rfl⟩)
    | (go_at_call 21; (with_reducible refine (hread _ HB.out _).mono ?_); rintro e w1 ⟨rfl, rfl⟩)
    | (go_at_call 48; (with_reducible refine (hkept _ HB.out).mono ?_); rintro e w1 ⟨rfl, rfl⟩)
    | (go_at_call 49; (with_reducible refine (hrkept _ HB.out).mono ?_); rintro e w1 ⟨rfl, rfl⟩)
    | (go_at_call 34; (with_reducible refine (hrunits _ HB.out).mono ?_); rintro e w1 ⟨rfl, rfl⟩)
    | (go_at_call 14; (with_reducible refine (hrecs _ HB.out).mono ?_); rintro e w1 ⟨vo, vc, rfl, hown, hb_⟩
       have n0 := below_next HB hN hb_
       clear HB hb_
       have HB := n0
       clear n0
       have k0 : w1.cell? ⟨R, 0, none⟩ = some (.pointer (some ⟨B, 0, none⟩)) := hcell _ HB.out 0
       have k1 : w1.cell? ⟨R, 1, none⟩ = some (.int .i64 s.round) := hcell _ HB.out 1
       have k2 : w1.cell? ⟨R, 2, none⟩ = some (.string s.state) := hcell _ HB.out 2
       have k3 : w1.cell? ⟨R, 3, none⟩ = some (.slice ro s.l.length rc) := hcell _ HB.out 3
       have k4 : w1.cell? ⟨R, 4, none⟩ = some (.int .i64 s.sure) := hcell _ HB.out 4)
    | (go_at_call 18; (with_reducible refine (same_yes hown (hrow _ HB.out) (by omega)).mono ?_); rintro e w2 ⟨rfl, hb_⟩
       have n0 := below_next HB hN hb_
       clear HB hb_ hown
       have HB := n0
       clear n0
       have k0 : w2.cell? ⟨R, 0, none⟩ = some (.pointer (some ⟨B, 0, none⟩)) := hcell _ HB.out 0
       have k1 : w2.cell? ⟨R, 1, none⟩ = some (.int .i64 s.round) := hcell _ HB.out 1
       have k2 : w2.cell? ⟨R, 2, none⟩ = some (.string s.state) := hcell _ HB.out 2
       have k3 : w2.cell? ⟨R, 3, none⟩ = some (.slice ro s.l.length rc) := hcell _ HB.out 3
       have k4 : w2.cell? ⟨R, 4, none⟩ = some (.int .i64 s.sure) := hcell _ HB.out 4)
    | (go_at_call 33; (with_reducible refine (hrread _ HB.out _).mono ?_); rintro e w3 ⟨rfl, hb_⟩
       have n0 := below_next HB hN hb_
       clear HB hb_
       have HB := n0
       clear n0
       have k0 : w3.cell? ⟨R, 0, none⟩ = some (.pointer (some ⟨B, 0, none⟩)) := hcell _ HB.out 0
       have k1 : w3.cell? ⟨R, 1, none⟩ = some (.int .i64 s.round) := hcell _ HB.out 1
       have k2 : w3.cell? ⟨R, 2, none⟩ = some (.string s.state) := hcell _ HB.out 2
       have k3 : w3.cell? ⟨R, 3, none⟩ = some (.slice ro s.l.length rc) := hcell _ HB.out 3
       have k4 : w3.cell? ⟨R, 4, none⟩ = some (.int .i64 s.sure) := hcell _ HB.out 4)
    | (go_at_call 11; (with_reducible refine (hunits _ HB.out).mono ?_); rintro e w4 ⟨rfl, hb_⟩
       have n0 := below_next HB hN hb_
       clear HB hb_
       have HB := n0
       clear n0
       have k0 : w4.cell? ⟨R, 0, none⟩ = some (.pointer (some ⟨B, 0, none⟩)) := hcell _ HB.out 0
       have k1 : w4.cell? ⟨R, 1, none⟩ = some (.int .i64 s.round) := hcell _ HB.out 1
       have k2 : w4.cell? ⟨R, 2, none⟩ = some (.string s.state) := hcell _ HB.out 2
       have k3 : w4.cell? ⟨R, 3, none⟩ = some (.slice ro s.l.length rc) := hcell _ HB.out 3
       have k4 : w4.cell? ⟨R, 4, none⟩ = some (.int .i64 s.sure) := hcell _ HB.out 4))
  go_wp2
  go_returns
  exact ⟨rfl, (Below.refl w.heap.size w).drew.trans HB.out⟩
end Go.Proofs.Ytkiepnmbimkadaa.WL
