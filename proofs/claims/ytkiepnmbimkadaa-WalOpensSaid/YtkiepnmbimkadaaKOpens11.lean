import Derived.Deep.Cut
import Derived.Deep.RegionHeld3
import Derived.Maps.AppendAt
import Derived.Test.YtkiepnmbimkadaaKOpens10
namespace Go.Proofs.Ytkiepnmbimkadaa.DK
open Go.RowKit Go.Proofs.Ytkiepnmbimkadaa
attribute [local go_sem] max2_int min2_int max_two min_two
theorem four_cell2 {w : World} {B : Nat} {n : Four} {t : TypeId} (h : w.heap[B]? = some (.cells #[.string n.a, .string n.b, .string n.c, .string n.d] t (0, 0))) {j : Nat} (hj : j < 4) : w.cell? ⟨B, j, none⟩ = some (.string (n.at j)) := by
  rw [cell_of h]
  match j, hj with
  | 0, _ => rfl
  | 1, _ => rfl
  | 2, _ => rfl
  | 3, _ => rfl
def part4 (r : Four) (j : Nat) : Four := ⟨if 0 < j then r.a else ⟨#[]⟩, if 1 < j then r.b else ⟨#[]⟩, if 2 < j then r.c else ⟨#[]⟩, if 3 < j then r.d else ⟨#[]⟩⟩
theorem RAt.off {w w2 : World} {A B : Nat} {W V : Value} {k : Four} {l : List Wr} (ho : RAt w B V k l) (hK : Keeps w w2 A W) (h : Off B V A W) : RAt w2 B V k l := by
  refine ⟨(hK.block B ho.lt h.a h.c).trans ho.cells, ⟨ho.row.1, ?_⟩, ho.apart⟩
  rcases ho.row.2 with e | ⟨g, cap, cur, rfl, hb, hg, r⟩
  · exact .inl e
  · refine .inr ⟨g, cap, cur, rfl, hb, ?_, r⟩
    have hl : g < w.heap.size := (Array.getElem?_eq_some_iff.1 hg).1
    rw [hK.block g hl (fun e => h.b (by rw [← e]; rfl)) (h.d g rfl)]
    exact hg
set_option maxHeartbeats 8000000 in
set_option maxRecDepth 100000 in
theorem rcrash_walk {w : World} {B : Nat} {V : Value} {st : St} (h : RAt w B V st.k st.l) {b : Nat} (hs : Sound b st) (hb : b ≤ 1000) (u : Int) :
    Calls Try.prog 31 #[.pointer (some ⟨B, 0, none⟩), .int .i64 u] w fun e w' => e = .returned (.int .i64 (staysN u (unitsOf st.l))) ∧ RAt w' B (.slice none 0 0) (crashT st u).k [] ∧ Keeps w w' B V := by
  have hU : unitsOf st.l ≤ 65536 * st.l.length := unitsOf_le _ hs.ok
  have hlen := hs.len
  have hB := h.lt
  have hru := runits_walk h (by omega) (by omega)
  obtain ⟨m, hm⟩ : ∃ m : Int, (if (unitsOf st.l : Int) < u then (unitsOf st.l : Int) else u) = m := ⟨_, rfl⟩
  obtain ⟨T, hT⟩ : ∃ T : Nat, (if 0 < m then m else 0) = (T : Int) := ⟨(if 0 < m then m else 0).toNat, by split <;> omega⟩
  have hTT : staysN u (unitsOf st.l) = T := by
    unfold staysN
    have : (max 0 (min u (unitsOf st.l : Int))) = (T : Int) := by
      rw [← hT, ← hm]
      (repeat' split) <;> omega
    rw [this]
    rfl
  have hTl : T ≤ 100000000 := by
    have : staysN u (unitsOf st.l) ≤ unitsOf st.l := by unfold staysN; omega
    omega
  unfold crashT
  simp only
  rw [hTT]
  clear hTT
  obtain ⟨r, hr⟩ : ∃ r, stays st.l T st.k = r := ⟨_, rfl⟩
  have haf := fun (w : World) (h : RAt w B V st.k st.l) (f : Nat) (hf : f < 4) => after_walk h (by omega) hs.ok hs.kept_le (f := f) hf T (by omega)
  have hrf : ∀ f : Nat, f < 4 → afterT st.l f T (st.k.at f) = r.at f := fun f hf => by rw [← afterT_stays _ _ _ _ (by omega), hr]
  rw [hr]
  go_enter Try.func31, Try.ntmps31
  go_wp2_with (first
    | (go_at_call 34; (with_reducible refine hru.mono ?_); rintro e w2 ⟨rfl, rfl⟩))
  go_loopw [7] (fun v7 wr => ∃ j : Nat, v7 = .int .i64 j ∧ j ≤ 4 ∧ RAt wr B V st.k st.l ∧ Keeps w wr B V ∧ wr.heap[w.heap.size]? = some (.cells #[.string (part4 r j).a, .string (part4 r j).b, .string (part4 r j).c, .string (part4 r j).d] 48 (0, 0))) (fun i _ => 4 - (intOf i).toNat)
  case atStart => exact ⟨0, rfl, by omega, h.alloc _, (Keeps.refl w B V).alloc _, heap_alloc_new w _⟩
  case round =>
    obtain ⟨j, rfl, hj, hR, hK, hL⟩ := hrel
    have hV := fun b e => (h.row.lt b e).2
    have hVl : V.ownBlock ≠ some w.heap.size := fun e => by have := hV _ e; omega
    by_cases hj4 : j < 4
    · have ha := haf wr hR j hj4
      rw [hrf j hj4] at ha
      have hfin : ∀ w3, Below wr.heap.size wr w3 → RAt (w3.setCell ⟨w.heap.size, j, none⟩ (.string (r.at j))) B V st.k st.l ∧ Keeps w (w3.setCell ⟨w.heap.size, j, none⟩ (.string (r.at j))) B V ∧
          (w3.setCell ⟨w.heap.size, j, none⟩ (.string (r.at j))).heap[w.heap.size]? = some (.cells #[.string (part4 r (j + 1)).a, .string (part4 r (j + 1)).b, .string (part4 r (j + 1)).c, .string (part4 r (j + 1)).d] 48 (0, 0)) := by
        intro w3 hbl
        have hL3 := (hbl.block _ (Array.getElem?_eq_some_iff.1 hL).1).trans hL
        refine ⟨(hR.below hbl).off ((Keeps.refl w3 w.heap.size (.slice none 0 0)).setCell j _) ⟨by omega, hVl, (fun e => by rw [nil_own] at e; cases e), fun b _ e => by rw [nil_own] at e; cases e⟩, (hK.below hbl).setNew (Nat.le_refl _) j _, (set_self hL3).trans ?_⟩
        match j, hj4 with
        | 0, _ => rfl
        | 1, _ => rfl
        | 2, _ => rfl
        | 3, _ => rfl
      have hLc := four_cell2 hL hj4
      have hLf : wr.frozen? ⟨w.heap.size, j, none⟩ = false := by simp [World.frozen?, hL]
      have hLb : w.heap.size < wr.heap.size := (Array.getElem?_eq_some_iff.1 hL).1
      clear haf hrf hru hm hT
      go_wp2_with (first
        | (go_at_call 52; (with_reducible refine ha.mono ?_); rintro e w3 ⟨rfl, hbl⟩
           have hz := hfin w3 hbl
           have d0 := (hbl.cell (p := ⟨w.heap.size, j, none⟩) hLb).trans hLc
           have d1 : w3.frozen? ⟨w.heap.size, j, none⟩ = false := by simp [World.frozen?, (hbl.block _ hLb).trans hL]
           clear hbl))
      go_roundw
      case rel => exact ⟨j + 1, by go_num, by omega, hz⟩
      case measure => simp [intOf]; omega
    · obtain rfl : j = 4 := by omega
      have e0 : wr.cell? ⟨w.heap.size, 0, none⟩ = some (.string r.a) := cell_of hL 0
      have e1 : wr.cell? ⟨w.heap.size, 1, none⟩ = some (.string r.b) := cell_of hL 1
      have e2 : wr.cell? ⟨w.heap.size, 2, none⟩ = some (.string r.c) := cell_of hL 2
      have e3 : wr.cell? ⟨w.heap.size, 3, none⟩ = some (.string r.d) := cell_of hL 3
      have c0 : wr.cell? ⟨B, 0, none⟩ = some (.string st.k.a) := hR.cell 0
      have c1 : wr.cell? ⟨B, 1, none⟩ = some (.string st.k.b) := hR.cell 1
      have c2 : wr.cell? ⟨B, 2, none⟩ = some (.string st.k.c) := hR.cell 2
      have c3 : wr.cell? ⟨B, 3, none⟩ = some (.string st.k.d) := hR.cell 3
      have c4 : wr.cell? ⟨B, 4, none⟩ = some V := hR.cell 4
      have f0 := hR.frozen 0
      have f1 := hR.frozen 1
      have f2 := hR.frozen 2
      have f3 := hR.frozen 3
      have f4 := hR.frozen 4
      have hfin : RAt (((((wr.setCell ⟨B, 0, none⟩ (.string r.a)).setCell ⟨B, 1, none⟩ (.string r.b)).setCell ⟨B, 2, none⟩ (.string r.c)).setCell ⟨B, 3, none⟩ (.string r.d)).setCell ⟨B, 4, none⟩ (.slice none 0 0)) B (.slice none 0 0) r [] ∧ Keeps w (((((wr.setCell ⟨B, 0, none⟩ (.string r.a)).setCell ⟨B, 1, none⟩ (.string r.b)).setCell ⟨B, 2, none⟩ (.string r.c)).setCell ⟨B, 3, none⟩ (.string r.d)).setCell ⟨B, 4, none⟩ (.slice none 0 0)) B V :=
        ⟨⟨(set_self (set_self (set_self (set_self (set_self hR.cells))))).trans (by simp [rcells]), World.ownsRow_nil _ _ _ _, by simp [Value.ownBlock]⟩, ((((hK.setCell 0 _).setCell 1 _).setCell 2 _).setCell 3 _).setCell 4 _⟩
      clear haf hrf hru hm hT hR hL hs h
      go_wp2
      go_returns
      exact ⟨rfl, hfin.1, hfin.2⟩
set_option maxHeartbeats 4000000 in
set_option maxRecDepth 100000 in
theorem rsync_walk {w : World} {B : Nat} {V : Value} {st : St} (h : RAt w B V st.k st.l) {b : Nat} (hs : Sound b st) (hb : b ≤ 1000) :
    Calls Try.prog 51 #[.pointer (some ⟨B, 0, none⟩)] w fun e w' => e = .returned (.tuple #[]) ∧ RAt w' B (.slice none 0 0) st.n [] ∧ Keeps w w' B V := by
  have hU : unitsOf st.l ≤ 65536 * st.l.length := unitsOf_le _ hs.ok
  have hlen := hs.len
  have hru := runits_walk h (by omega) (by omega)
  have hc := rcrash_walk h hs hb (unitsOf st.l)
  have e : staysN (unitsOf st.l) (unitsOf st.l) = unitsOf st.l := by unfold staysN; omega
  unfold crashT at hc
  simp only [e, hs.now] at hc
  clear hU hs h e
  go_enter Try.func51, Try.ntmps51
  go_wp2_with (first
    | (go_at_call 34; (with_reducible refine hru.mono ?_); rintro e w2 ⟨rfl, rfl⟩)
    | (go_at_call 31; (with_reducible refine hc.mono ?_); rintro e w2 ⟨rfl, hq, hK⟩))
  go_returns
  exact ⟨rfl, hq, hK⟩
theorem RPuts.of {w w1 w2 : World} {B : Nat} {V : Value} {k : Four} {l : List Wr} (h1 : Keeps w w1 B V) (hp : RPuts w1 w2 B V k l) : RPuts w w2 B V k l := by
  obtain ⟨V2, ha, hK, hw⟩ := hp
  exact ⟨V2, ha, hK.after h1, hw.imp id fun f b hb => Nat.le_trans h1.size (f b hb)⟩
theorem RPuts.nil {w w2 : World} {B : Nat} {V : Value} {k : Four} {l : List Wr} (ha : RAt w2 B (.slice none 0 0) k l) (hK : Keeps w w2 B V) : RPuts w w2 B V k l := ⟨_, ha, hK, .inr fun b hb => by simp [Value.ownBlock] at hb⟩
theorem RPuts.same {w w2 : World} {B : Nat} {V : Value} {k : Four} {l : List Wr} (ha : RAt w2 B V k l) (hK : Keeps w w2 B V) : RPuts w w2 B V k l := ⟨_, ha, hK, .inl rfl⟩
end Go.Proofs.Ytkiepnmbimkadaa.DK
