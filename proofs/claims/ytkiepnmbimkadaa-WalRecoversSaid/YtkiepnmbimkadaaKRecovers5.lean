import Derived.Test.YtkiepnmbimkadaaKRecovers3
namespace Go.Proofs.Ytkiepnmbimkadaa.DK
open Go.RowKit Go.Proofs.Ytkiepnmbimkadaa
theorem own_form {w : World} {base e size n : Nat} {v : Value} {xs : List Value} (h : w.ownsRow base e size v n xs) : ∃ o c, v = .slice o n c := by
  rcases h.2 with ⟨rfl, rfl⟩ | ⟨g, cap, _, rfl, _⟩
  · exact ⟨_, _, rfl⟩
  · exact ⟨_, _, rfl⟩
set_option maxHeartbeats 2000000 in
theorem clone_walk {w : World} {A : Nat} {W : Value} {n k : Four} {l : List Wr} (h : At w A W n k l) (hl : l.length ≤ 1000000) :
    Calls Try.prog 59 #[W] w fun e w' => ∃ o c, e = .returned (.slice o l.length c) ∧ w'.ownsRow 0 73 1 (.slice o l.length c) l.length (l.map Wr.val) ∧ Below w.heap.size w w' ∧ (∀ b, (Value.slice o l.length c).ownBlock = some b → w.heap.size ≤ b ∧ b < w'.heap.size) ∧ At w' A W n k l := by
  have h00 := h
  rcases h.wr with ⟨rfl, rfl⟩ | ⟨g, cap, rfl, hg, hc⟩
  · have hb : ∀ w : World, (binOp .eql 59 (.slice none 0 0) (.slice none 0 0)).run Try.prog w = .ok (.bool true) w := fun _ => by kernel_rfl
    clear h
    go_enter Try.func59, Try.ntmps59
    go_wp2
    go_returns
    exact ⟨_, _, rfl, World.ownsRow_nil _ _ _ _, Below.refl _ _, by simp [Value.ownBlock], h00⟩
  · obtain ⟨i0, hi54, hz54⟩ := Option.map_eq_some_iff.1 info54
    simp only [Prod.mk.injEq] at hz54
    obtain ⟨hz0, hz1, hz2⟩ := hz54
    have hnew := fun j u (hu : (l.map Wr.val)[j]? = some u) => (h.row.alloc (.cells #[] 73)).cells (g := g) rfl j u hu
    have hown0 := World.ownsRow_lit (base := 0) (e := 73) (size := 1) w #[] 0 (Nat.zero_le _) (by decide) rfl
    have h1 : ∀ u ∈ l.map Wr.val, u.oneCell' = true := by
      intro u hu
      obtain ⟨x, _, rfl⟩ := List.mem_map.1 hu
      rcases wr_units x with ⟨e, _⟩ | ⟨e, _⟩ <;> rw [e] <;> rfl
    have hb : ∀ w : World, (binOp .eql 59 (.slice (some ⟨g, 0, none⟩) l.length cap) (.slice none 0 0)).run Try.prog w = .ok (.bool false) w := fun _ => by kernel_rfl
    clear h hc
    go_enter Try.func59, Try.ntmps59
    go_wp2_with (first | (at_builtin; refine wpList_append_own_at _ rfl (.tmp 5) (.tmp 6) 59 rfl 0 73 i0 .nilIface 1 16 under49 hi54 hz0 hz1 hz2 rfl (by decide) (.slice (some ⟨w.heap.size, 0, none⟩) 0 0) 0 [] rfl hown0 ⟨g, 0, none⟩ l.length cap (l.map Wr.val) rfl (by simp) hnew h1 (by simp only [maxLen]; omega) (by omega) (Nat.zero_le _) ?_; intro v w5 hown hgr _ hat; obtain ⟨vo, vc, rfl⟩ := own_form hown; simp only [Nat.zero_add, List.nil_append] at hown hat))
    go_returns
    have hbel := ((Below.refl w.heap.size w).alloc (Nat.le_refl _) (.cells #[] 73)).grown (row := some w.heap.size) hgr (by simp) (by intro k hk; simp at hk; omega)
    refine ⟨vo, vc, by simp, hown, hbel, ?_, h00.below hbel⟩
    intro b hb2
    have hlt := (hown.lt b hb2).2
    refine ⟨?_, hlt⟩
    rcases hat with e | e
    · rw [e] at hb2
      simp [Value.ownBlock] at hb2
      omega
    · rw [e] at hb2
      simp at hb2
      omega
set_option maxHeartbeats 4000000 in
theorem copy_walk {w : World} {A : Nat} {W : Value} {n k : Four} {l : List Wr} (h : At w A W n k l) (hl : l.length ≤ 1000000) :
    Calls Try.prog 42 #[.pointer (some ⟨A, 0, none⟩)] w fun e w' => ∃ B V, e = .returned (.pointer (some ⟨B, 0, none⟩)) ∧ At w' B V n k l ∧ Below w.heap.size w w' ∧ w.heap.size ≤ B ∧ (∀ b, V.ownBlock = some b → w.heap.size ≤ b) := by
  have c0 : w.cell? ⟨A, 0, none⟩ = some (.string n.a) := h.cell 0
  have c1 : w.cell? ⟨A, 1, none⟩ = some (.string n.b) := h.cell 1
  have c2 : w.cell? ⟨A, 2, none⟩ = some (.string n.c) := h.cell 2
  have c3 : w.cell? ⟨A, 3, none⟩ = some (.string n.d) := h.cell 3
  have c4 : w.cell? ⟨A, 4, none⟩ = some (.string k.a) := h.cell 4
  have c5 : w.cell? ⟨A, 5, none⟩ = some (.string k.b) := h.cell 5
  have c6 : w.cell? ⟨A, 6, none⟩ = some (.string k.c) := h.cell 6
  have c7 : w.cell? ⟨A, 7, none⟩ = some (.string k.d) := h.cell 7
  have c8 : w.cell? ⟨A, 8, none⟩ = some W := h.cell 8
  have hA := h.lt
  go_enter Try.func42, Try.ntmps42
  go_wp2
  go_region_with (first
    | (go_at_call 59
       refine (clone_walk (A := A) (W := W) (n := n) (k := k) (l := l) (by repeat (first | exact h | apply At.drew | apply At.alloc)) hl).mono ?_; rintro e w3 ⟨vo, vc, rfl, hown, hb, hV, h3⟩
       have d0 : w3.cell? ⟨A, 0, none⟩ = some (.string n.a) := h3.cell 0
       have d1 : w3.cell? ⟨A, 1, none⟩ = some (.string n.b) := h3.cell 1
       have d2 : w3.cell? ⟨A, 2, none⟩ = some (.string n.c) := h3.cell 2
       have d3 : w3.cell? ⟨A, 3, none⟩ = some (.string n.d) := h3.cell 3
       have d4 : w3.cell? ⟨A, 4, none⟩ = some (.string k.a) := h3.cell 4
       have d5 : w3.cell? ⟨A, 5, none⟩ = some (.string k.b) := h3.cell 5
       have d6 : w3.cell? ⟨A, 6, none⟩ = some (.string k.c) := h3.cell 6
       have d7 : w3.cell? ⟨A, 7, none⟩ = some (.string k.d) := h3.cell 7))
  all_goals
    have hbw : Below w.heap.size w w3 := ⟨hb.os, hb.tape, hb.output, hb.size, hb.block⟩
    have hs3 := hb.size
    have hnewAt : At (w3.alloc (.cells (cellsOf n k (.slice vo l.length vc)) 61)) w3.heap.size (.slice vo l.length vc) n k l :=
      ⟨heap_alloc_new w3 _, hown.alloc _, fun e => by have := (hV _ e).2; omega⟩
    have hres : ∃ B V, Ending.returned (.pointer (some ⟨w3.heap.size, 0, none⟩)) = Ending.returned (.pointer (some ⟨B, 0, none⟩)) ∧ At (w3.alloc (.cells (cellsOf n k (.slice vo l.length vc)) 61)) B V n k l ∧ Below w.heap.size w (w3.alloc (.cells (cellsOf n k (.slice vo l.length vc)) 61)) ∧ w.heap.size ≤ B ∧ (∀ b, V.ownBlock = some b → w.heap.size ≤ b) :=
      ⟨_, _, rfl, hnewAt, hbw.alloc hbw.size _, hbw.size, fun b e => (hV b e).1⟩
    clear c0 c1 c2 c3 c4 c5 c6 c7 c8 d0 d1 d2 d3 d4 d5 d6 d7 hnewAt h3 hown hV hb hbw h
    go_wp2
    go_returns
    exact hres
end Go.Proofs.Ytkiepnmbimkadaa.DK
