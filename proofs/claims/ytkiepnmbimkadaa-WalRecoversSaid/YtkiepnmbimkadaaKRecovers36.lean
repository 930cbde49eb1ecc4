import Derived.Deep.LoopGhost
import Derived.Test.YtkiepnmbimkadaaKRecovers34
namespace Go.Proofs.Ytkiepnmbimkadaa.WL
open Go.RowKit Go.Proofs.Ytkiepnmbimkadaa Go.Proofs.Ytkiepnmbimkadaa.DK Go.Proofs.Ytkiepnmbimkadaa.Pr Go.Proofs.Ytkiepnmbimkadaa.VP Go.Proofs.Ytkiepnmbimkadaa.VF Go.Proofs.Ytkiepnmbimkadaa.CF Go.Proofs.Ytkiepnmbimkadaa.WF
def NextPost (ba i : Nat) (l : List ByteArray) (round : Int) (w : World) (e : Ending) (w2 : World) : Prop :=
  ∃ j : Nat, i ≤ j ∧ j ≤ l.length ∧ w2.heap[ba]? = some (.cells #[.int .i64 j] 3 (0, 0)) ∧ KeepsF w w2 (fun k => k = ba) ∧
    ((∃ s, e = .returned (.tuple #[.string s, .bool true]) ∧ recsS round (l.drop i) = s :: recsS round (l.drop j)) ∨ (e = .returned (.tuple #[.string ⟨#[]⟩, .bool false]) ∧ recsS round (l.drop i) = []))
theorem recsS_bad {x : ByteArray} (h : (getS x 0).2.2 ≠ 0) (round : Int) (m : List ByteArray) : recsS round (x :: m) = [] := by
  rw [recsS, if_neg h]
theorem recsS_hit {x : ByteArray} {n p : Int} (h : getS x 0 = (n, p, 0)) (m : List ByteArray) : recsS n (x :: m) = x.extract p.toNat x.size :: recsS n m := by
  rw [recsS, h]
  simp only [if_true]
theorem recsS_miss {x : ByteArray} {n p round : Int} (h : getS x 0 = (n, p, 0)) (hn : n ≠ round) (m : List ByteArray) : recsS round (x :: m) = recsS round m := by
  rw [recsS, h]
  simp only [if_true]
  rw [if_neg hn]
set_option maxHeartbeats 4000000 in
theorem next_walk {w : World} {ba bl br : Nat} {V : Value} {l : List ByteArray} {round : Int} {i : Nat} (h0 : w.heap[ba]? = some (.cells #[.int .i64 i] 3 (0, 0))) (h1 : w.heap[bl]? = some (.cells #[V] 30 (0, 0))) (h2 : w.heap[br]? = some (.cells #[.int .i64 round] 3 (0, 0)))
    (hV : w.ownsRow 0 9 1 V l.length (l.map Value.string)) (d1 : bl ≠ ba) (d2 : br ≠ ba) (d3 : V.ownBlock ≠ some ba) (hi : i ≤ l.length) (hl : l.length ≤ 1000000) (hx : ∀ x ∈ l, x.size ≤ 65536) (hr0 : 0 ≤ round) (hr1 : round ≤ 4611686018427387904) :
    Calls Try.prog 55 #[.pointer (some ⟨ba, 0, none⟩), .pointer (some ⟨bl, 0, none⟩), .pointer (some ⟨br, 0, none⟩)] w (NextPost ba i l round w) := by
  have b0 : ba < w.heap.size := (Array.getElem?_eq_some_iff.1 h0).1
  have b1 : bl < w.heap.size := (Array.getElem?_eq_some_iff.1 h1).1
  have b2 : br < w.heap.size := (Array.getElem?_eq_some_iff.1 h2).1
  rcases hV.2 with ⟨rfl, hn⟩ | ⟨g, cap, cur, rfl, _, hg, _⟩
  · have c0 : w.cell? ⟨ba, 0, none⟩ = some (.int .i64 i) := cell_of h0 0
    have c1 : w.cell? ⟨bl, 0, none⟩ = some (.slice none 0 0) := cell_of h1 0
    have hi0 : i = 0 := by omega
    subst hi0
    have hl0 : l = [] := List.eq_nil_of_length_eq_zero hn
    subst hl0
    clear hV hn hx hl hi
    go_enter Try.func55, Try.ntmps55
    go_wp2
    refine wp_loop_rounds 1 ?_
    rw [rounds_succ]
    go_wp2
    go_ret2
    exact ⟨0, Nat.le_refl _, Nat.le_refl _, h0, KeepsF.refl _ _, .inr ⟨rfl, rfl⟩⟩
  · have hg2 : g < w.heap.size := (Array.getElem?_eq_some_iff.1 hg).1
    have hgb : g ≠ ba := fun e => d3 (by rw [e]; rfl)
    have hcell : ∀ j (hj : j < l.length), w.cell? ⟨g, j, none⟩ = some (.string (l[j]'hj)) := fun j hj => by
      rw [hV.cellAt j (by omega)]
      simp [hj]
    clear hV hg d3
    go_enter Try.func55, Try.ntmps55
    go_wp2
    go_loopg [] (l.length + 1 - i) (fun gg wr => ∃ j : Nat, gg = l.length + 1 - j ∧ i ≤ j ∧ j ≤ l.length ∧ wr.heap[ba]? = some (.cells #[.int .i64 j] 3 (0, 0)) ∧ KeepsF w wr (fun k => k = ba) ∧ Hid (recsS round (l.drop i) = recsS round (l.drop j)))
    case atStart => exact ⟨i, rfl, Nat.le_refl _, hi, h0, KeepsF.refl _ _, Lib.hid rfl⟩
    case round =>
      obtain ⟨j, rfl, hij, hj, k0, hK, hrec⟩ := hrel
      have c0 : wr.cell? ⟨ba, 0, none⟩ = some (.int .i64 j) := cell_of k0 0
      have f0 : wr.frozen? ⟨ba, 0, none⟩ = false := by simp [World.frozen?, k0]
      have c1 : wr.cell? ⟨bl, 0, none⟩ = some (.slice (some ⟨g, 0, none⟩) l.length cap) := cell_of ((hK.block bl b1 d1).trans h1) 0
      have c2 : wr.cell? ⟨br, 0, none⟩ = some (.int .i64 round) := cell_of ((hK.block br b2 d2).trans h2) 0
      have hs := hK.size
      by_cases hlt : j < l.length
      · have c3 : wr.cell? ⟨g, j, none⟩ = some (.string (l[j]'hlt)) := (World.cell?_of_block (hK.block g hg2 hgb)).trans (hcell j hlt)
        have hxz := hx _ (List.getElem_mem hlt)
        have hdr : l.drop j = l[j]'hlt :: l.drop (j + 1) := List.drop_eq_getElem_cons hlt
        have hrec2 := hrec.out
        rw [hdr] at hrec2
        clear hcell hx hrec hdr h0 h1 h2
        generalize l[j]'hlt = x at *
        have hget := fun n p e w h => varint_Get.calls 12 x 0 n p e w h
        rw [get_getS (by omega) 0 (by omega)] at hget
        rcases getS_cases x 0 with ⟨he, _, _⟩ | ⟨n, q, hq, e1, _, hp2, hn0, hn1⟩
        · rw [recsS_bad he] at hrec2
          have hfin := Lib.hid hrec2
          obtain ⟨⟨n, p, e⟩, hG⟩ : ∃ G, getS x 0 = G := ⟨_, rfl⟩
          rw [hG] at he hget
          have hgw := fun w => hget n p e w rfl
          have he1 : (e == 0) = false := by simpa using he
          have he2 : (e != 0) = true := by simpa using he
          clear hget hrec2 hG
          have he := Lib.hid he
          go_wp2_with (first
            | (go_at_call 56; (with_reducible refine (hgw _).mono ?_); rintro e2 w1 ⟨rfl, hb⟩
               have hK1 := hK.below hb
               have q0 := (hb.block ba (by omega)).trans k0
               clear hb))
          go_ret2
          exact ⟨j, hij, hj, q0, hK1, .inr ⟨rfl, hfin.out⟩⟩
        · rw [e1] at hget
          have hgw := fun w => hget n _ 0 w rfl
          have hq0 : q = 0 := by omega
          subst hq0
          clear hq
          rw [Nat.zero_add] at hgw e1 hp2
          generalize sz n = p at *
          by_cases hnr : n = round
          · subst hnr
            rw [recsS_hit e1, Int.toNat_natCast] at hrec2
            have hfin := Lib.hid hrec2
            have hu : IntKind.u64.wrap n = n := u64 (by omega)
            clear hget hrec2 e1 hr1 hn1
            go_wp2_with (first
              | (go_at_call 56; (with_reducible refine (hgw _).mono ?_); rintro e2 w1 ⟨rfl, hb⟩
                 have hK1 := hK.below hb
                 have q0 := (hb.block ba (by omega)).trans k0
                 have e0 : w1.cell? ⟨ba, 0, none⟩ = some (.int .i64 j) := cell_of q0 0
                 have f1 : w1.frozen? ⟨ba, 0, none⟩ = false := by simp [World.frozen?, q0]
                 have e1 : w1.cell? ⟨bl, 0, none⟩ = some (.slice (some ⟨g, 0, none⟩) l.length cap) := (hb.cell (p := ⟨bl, 0, none⟩) (by show bl < _; omega)).trans c1
                 have e2 : w1.cell? ⟨br, 0, none⟩ = some (.int .i64 n) := (hb.cell (p := ⟨br, 0, none⟩) (by show br < _; omega)).trans c2
                 have e3 : w1.cell? ⟨g, j, none⟩ = some (.string x) := (hb.cell (p := ⟨g, j, none⟩) (by show g < _; omega)).trans c3
                 clear hb))
            go_ret2
            exact ⟨j + 1, by omega, by omega, (set_self q0).trans (by simp), hK1.setCell (.inl rfl) _ _, .inl ⟨_, rfl, hfin.out⟩⟩
          · rw [recsS_miss e1 hnr] at hrec2
            have hfin := Lib.hid hrec2
            have he1 : (n == round) = false := by simpa using hnr
            have hu : IntKind.u64.wrap round = round := u64 (by omega)
            clear hget hrec2 e1 hnr hr1 hn1
            go_wp2_with (first
              | (go_at_call 56; (with_reducible refine (hgw _).mono ?_); rintro e2 w1 ⟨rfl, hb⟩
                 have hK1 := hK.below hb
                 have q0 := (hb.block ba (by omega)).trans k0
                 have e0 : w1.cell? ⟨ba, 0, none⟩ = some (.int .i64 j) := cell_of q0 0
                 have f1 : w1.frozen? ⟨ba, 0, none⟩ = false := by simp [World.frozen?, q0]
                 have e1 : w1.cell? ⟨bl, 0, none⟩ = some (.slice (some ⟨g, 0, none⟩) l.length cap) := (hb.cell (p := ⟨bl, 0, none⟩) (by show bl < _; omega)).trans c1
                 have e2 : w1.cell? ⟨br, 0, none⟩ = some (.int .i64 round) := (hb.cell (p := ⟨br, 0, none⟩) (by show br < _; omega)).trans c2
                 have e3 : w1.cell? ⟨g, j, none⟩ = some (.string x) := (hb.cell (p := ⟨g, j, none⟩) (by show g < _; omega)).trans c3
                 clear hb))
            go_roundg (l.length - j)
            case measure => omega
            case rel => exact ⟨j + 1, by omega, by omega, by omega, (set_self q0).trans (by simp), hK1.setCell (.inl rfl) _ _, hfin⟩
      · have hjl : j = l.length := by omega
        have hfin : Hid (recsS round (l.drop i) = []) := Lib.hid (by rw [hrec.out, hjl, List.drop_length]; rfl)
        clear hcell hx hrec h0 h1 h2
        go_wp2
        go_ret2
        exact ⟨j, hij, hj, k0, hK, .inr ⟨rfl, hfin.out⟩⟩
def hdS (l : List ByteArray) : ByteArray := match l with | [] => ⟨#[]⟩ | x :: _ => x
def neS (l : List ByteArray) : Bool := match l with | [] => false | _ :: _ => true
theorem next_any {w : World} {ba bl br : Nat} {V : Value} {l : List ByteArray} {round : Int} {i : Nat} (h0 : w.heap[ba]? = some (.cells #[.int .i64 i] 3 (0, 0))) (h1 : w.heap[bl]? = some (.cells #[V] 30 (0, 0))) (h2 : w.heap[br]? = some (.cells #[.int .i64 round] 3 (0, 0)))
    (hV : w.ownsRow 0 9 1 V l.length (l.map Value.string)) (d1 : bl ≠ ba) (d2 : br ≠ ba) (d3 : V.ownBlock ≠ some ba) (hi : i ≤ l.length) (hl : l.length ≤ 1000000) (hx : ∀ x ∈ l, x.size ≤ 65536) (hr0 : 0 ≤ round) (hr1 : round ≤ 4611686018427387904) {rest : List ByteArray} (hs : recsS round (l.drop i) = rest) :
    Calls Try.prog 55 #[.pointer (some ⟨ba, 0, none⟩), .pointer (some ⟨bl, 0, none⟩), .pointer (some ⟨br, 0, none⟩)] w fun e w2 => e = .returned (.tuple #[.string (hdS rest), .bool (neS rest)]) ∧ KeepsF w w2 (fun k => k = ba) ∧ Hid (∃ j : Nat, j ≤ l.length ∧ w2.heap[ba]? = some (.cells #[.int .i64 j] 3 (0, 0)) ∧ (rest ≠ [] → recsS round (l.drop j) = rest.drop 1)) :=
  (next_walk h0 h1 h2 hV d1 d2 d3 hi hl hx hr0 hr1).mono fun e w2 ⟨j, _, hj, hb, hK, h⟩ => by
    rcases h with ⟨t, rfl, h⟩ | ⟨rfl, h⟩
    · rw [hs] at h
      subst h
      exact ⟨rfl, hK, Lib.hid ⟨j, hj, hb, fun _ => rfl⟩⟩
    · rw [hs] at h
      subst h
      exact ⟨rfl, hK, Lib.hid ⟨j, hj, hb, fun g => absurd rfl g⟩⟩
end Go.Proofs.Ytkiepnmbimkadaa.WL
