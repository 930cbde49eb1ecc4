/-
  Chapter 08: the pipe's list: each text is received, noted, and sent back.
-/
import Derived.Test.YtgomnnddfddkhaaMailPipe
import Derived.Laws.AppendOwn
import Derived.Laws.OwnMore
import Derived.Maps.AppendAt
import Derived.Deep.AppendLies
import Derived.Deep.Onto
namespace Go.Proofs.Ytgomnnddfddkhaa.ML
open Go.RowKit Go.Conc Go.Proofs.Ytgomnnddfddkhaa

/-- A loop, step by step: each round ends at the loop again, with less to do, or the loop is left. -/
theorem lone_loop {P : Program} {Q : Goroutine → World → Prop} {b : Frame} {cs : List Frame} {c : Code} {K : List Item} (I : Nat → Act → World → Prop)
    (h : ∀ n a w, I n a w → LoneTo P (fun g2 w2 => (∃ m a2, m < n ∧ g2 = G (b.at a2 (.inLoop c :: K)) cs ∧ I m a2 w2) ∨ Q g2 w2) (G (b.at a (.code c :: .inLoop c :: K)) cs) w) :
    ∀ {n : Nat} {a : Act} {w : World}, I n a w → LoneTo P Q (G (b.at a (.code c :: .inLoop c :: K)) cs) w := by
  intro n
  induction n using Nat.strongRecOn with
  | _ n ih =>
    intro a w h0
    obtain ⟨g2, w2, hs, hq⟩ := h n a w h0
    rcases hq with ⟨m, a2, hm, rfl, hI⟩ | hq
    · obtain ⟨g3, w3, hs3, hq3⟩ := ih m hm hI
      exact ⟨g3, w3, hs.trans (Steps.head (step_solo_go rfl stepG_inLoop) hs3), hq3⟩
    · exact ⟨g2, w2, hs, hq⟩
/-- All blocks but a channel's are as they were. -/
structure MKeeps (w w2 : World) (c : Nat) : Prop where
  os : w2.os = w.os
  tape : w2.tape = w.tape
  output : w2.output = w.output
  size : w.heap.size ≤ w2.heap.size
  block : ∀ k, k < w.heap.size → k ≠ c → w2.heap[k]? = w.heap[k]?
theorem MKeeps.refl (w : World) (c : Nat) : MKeeps w w c := ⟨rfl, rfl, rfl, Nat.le_refl _, fun _ _ _ => rfl⟩
theorem MKeeps.alloc {w w2 : World} {c : Nat} (h : MKeeps w w2 c) (o : Obj) : MKeeps w (w2.alloc o) c :=
  ⟨h.os, h.tape, h.output, by simp; have := h.size; omega, fun k hk hc => (Below.heap_alloc _ _ _ (by have := h.size; omega)).trans (h.block k hk hc)⟩
theorem MKeeps.setChan {w w2 : World} {c : Nat} (h : MKeeps w w2 c) (cap : Nat) (buf : Array Value) (cl : Bool) (s r : Nat) (tm : Bool) : MKeeps w (w2.setChan c cap buf cl s r tm) c :=
  ⟨h.os, h.tape, h.output, by simp only [size_setChan]; exact h.size, fun k hk hc => by
    rw [← h.block k hk hc]
    simp [World.setChan, Array.getElem?_setIfInBounds_ne (Ne.symm hc)]⟩
theorem MKeeps.below {w w1 w2 : World} {c : Nat} (h : MKeeps w w1 c) (hb : Below w1.heap.size w1 w2) : MKeeps w w2 c :=
  ⟨hb.os.trans h.os, hb.tape.trans h.tape, hb.output.trans h.output, Nat.le_trans h.size hb.size, fun k hk hc => (hb.block k (Nat.lt_of_lt_of_le hk h.size)).trans (h.block k hk hc)⟩
theorem MKeeps.after {w w1 w2 : World} {c : Nat} (h2 : MKeeps w1 w2 c) (h1 : MKeeps w w1 c) : MKeeps w w2 c :=
  ⟨h2.os.trans h1.os, h2.tape.trans h1.tape, h2.output.trans h1.output, Nat.le_trans h1.size h2.size, fun k hk hc => (h2.block k (Nat.lt_of_lt_of_le hk h1.size) hc).trans (h1.block k hk hc)⟩
/-- Behind rounds of list. -/
structure LInv (w : World) (c cap s r : Nat) (l : List ByteArray) (j : Nat) (W : World) (v : Value) : Prop where
  le : j ≤ l.length
  box : W.heap[w.heap.size]? = some (pipeB c)
  chan : ∃ s2 r2, W.heap[c]? = some (.chan cap ((l.drop j ++ l.take j).map Value.string).toArray false s2 r2 false)
  row : W.ownsRow (w.heap.size + 1) 9 1 v j ((l.take j).map Value.string)
  keeps : MKeeps w W c
theorem info9 : (Try.prog.info? 9).map (fun i => (i.zero, i.size, i.bytes)) = some (some (.string ⟨#[]⟩), 1, 16) := by kernel_rfl
set_option maxRecDepth 100000 in
set_option maxHeartbeats 1000000 in
theorem list_walk {w : World} {c cap s r : Nat} {l : List ByteArray} (hc : w.heap[c]? = some (.chan cap (l.map Value.string).toArray false s r false)) (hcap : l.length ≤ cap) (hl : l.length ≤ 100000) :
    Calls Try.prog 30 #[.agg #[.chan (some c)]] w fun e w' => ∃ v, e = .returned v ∧ w'.ownsRow w.heap.size 9 1 v l.length (l.map Value.string) ∧ (∃ s2 r2, w'.heap[c]? = some (.chan cap (l.map Value.string).toArray false s2 r2 false)) ∧ MKeeps w w' c := by
  have hcl : c < w.heap.size := (Array.getElem?_eq_some_iff.1 hc).1
  refine calls_of_loneTo (fun cs => ?_) (fun w2 h => by obtain ⟨v, h, _⟩ := h; cases h)
  have e : Frame.enter Try.prog 30 #[.agg #[.chan (some c)]] .normal = (base 30).at ⟨#[.agg #[.chan (some c)], undef, undef, undef, undef, undef, undef, undef, undef, undef, undef, undef, undef, undef, undef, undef, undef, undef, undef, undef, undef, undef], []⟩ [.code (Try.f30.body.getD .skip)] := by
    simp [Frame.enter, Frame.at, Try.func30, base, Try.f30]
    try rfl
  rw [e]
  have hlen := fun ty => run_len_chan (P := Try.prog) 53 ty Try.underlying53 ((Below.heap_alloc w (pipeB c) _ hcl).trans hc)
  unfold pipeB at hlen
  refine LoneTo.goes (n := 40) ?_
  simp only [Try.f30, Option.getD_some]
  s_c stepG_seq
  s_reg
  s_op
  s_op
  s_c stepG_region_end
  s_c stepG_seq
  s_reg
  s_op
  s_c stepG_region_end
  s_c stepG_seq
  s_c stepG_seq
  s_reg
  s_op
  s_op
  s_op
  s_op
  s_c stepG_region_end
  s_c stepG_block
  s_c stepG_loop
  s_stop
  clear hlen
  refine lone_loop (fun n a W => ∃ (j : Nat) (v u4 u9 u10 u11 u12 u13 u14 u15 u16 u17 u18 u19 u20 u21 : Value), n = l.length - j ∧ LInv w c cap s r l j W v ∧
    a = ⟨#[.agg #[.chan (some c)], .pointer (some ⟨w.heap.size, 0, none⟩), .slice none 0 0, v, u4, .pointer (some ⟨w.heap.size, 0, none⟩), .chan (some c), .int .i64 l.length, .int .i64 j, u9, u10, u11, u12, u13, u14, u15, u16, u17, u18, u19, u20, u21], []⟩) ?_
    (n := l.length) ⟨0, .slice none 0 0, _, _, _, _, _, _, _, _, _, _, _, _, _, _, rfl, ⟨Nat.zero_le _, heap_alloc_new w _, ⟨s, r, ?_⟩, World.ownsRow_nil _ _ _ _, (MKeeps.refl w c).alloc _⟩, rfl⟩
  · intro n a W hI
    obtain ⟨j, v, u4, u9, u10, u11, u12, u13, u14, u15, u16, u17, u18, u19, u20, u21, rfl, hI, rfl⟩ := hI
    have hbox : W.cell? ⟨w.heap.size, 0, none⟩ = some (.chan (some c)) := by simp [World.cell?, hI.box, pipeB]
    by_cases hj : j < l.length
    · obtain ⟨s2, r2, hch⟩ := hI.chan
      have hdr : l.drop j = l[j]'hj :: l.drop (j + 1) := List.drop_eq_getElem_cons hj
      rw [hdr, List.cons_append] at hch
      have htk : l.take (j + 1) = l.take j ++ [l[j]'hj] := List.take_succ_eq_append_getElem hj
      obtain ⟨x, hx⟩ : ∃ x, l[j]'hj = x := ⟨_, rfl⟩
      rw [hx] at hch htk
      obtain ⟨R, hR⟩ : ∃ R, l.drop (j + 1) ++ l.take j = R := ⟨_, rfl⟩
      have hRl : R.length + 1 = l.length := by rw [← hR, List.length_append, List.length_drop, List.length_take]; omega
      rw [hR, List.map_cons] at hch
      clear hdr hx
      have hj2 : (j : Int) < l.length := by omega
      refine LoneTo.goes (n := 40) ?_
      s_c stepG_seq
      s_reg
      s_op
      s_c stepG_region_end
      s_c stepG_seq
      s_cond true
      s_c stepG_skip
      s_c stepG_seq
      s_c stepG_block
      s_c stepG_seq
      s_reg
      s_op
      s_op
      s_stop
      refine LoneTo.step (step_lone_recv_buf false (c := c) (z := .string ⟨#[]⟩) (stepG_comm (cases := #[rcase c (.string ⟨#[]⟩)]) (blocking := true) (shape := .recv false) (w' := W) rfl rfl (by decide) (by simp [go_sem, rcase])) hch (by simp)) ?_
      rw [Frame.finish_at]
      simp only [got]
      walk_nrm
      obtain ⟨W1, hW1⟩ : ∃ W1, W.setChan c cap (R.map Value.string).toArray false s2 (r2 + 1) false = W1 := ⟨_, rfl⟩
      have hext : (Value.string x :: R.map Value.string).toArray.extract 1 ((R.map Value.string).length + 1) = (R.map Value.string).toArray := by
        apply Array.ext'
        simp [List.extract_eq_take_drop]
        exact List.take_of_length_le (by simp)
      rw [hext, hW1]
      simp only [Bool.false_eq_true, if_false]
      have hWl : c < W.heap.size := Nat.lt_of_lt_of_le hcl hI.keeps.size
      have hch1 : W1.heap[c]? = some (.chan cap (R.map Value.string).toArray false s2 (r2 + 1) false) := by rw [← hW1]; exact heap_setChan W c cap _ _ _ _ _ hWl
      have hne : w.heap.size ≠ c := by omega
      have hk1 : MKeeps w W1 c := by rw [← hW1]; exact hI.keeps.setChan _ _ _ _ _ _
      have hkW : MKeeps W W1 c := by rw [← hW1]; exact (MKeeps.refl W c).setChan _ _ _ _ _ _
      have hbx1 : W1.heap[w.heap.size]? = some (pipeB c) := (hkW.block _ (Array.getElem?_eq_some_iff.1 hI.box).1 hne).trans hI.box
      have hrow1 : W1.ownsRow (w.heap.size + 1) 9 1 v j ((l.take j).map Value.string) := by
        refine hI.row.kept (row := some c) ⟨hkW.os, hkW.tape, hkW.output, hkW.size, fun k hk hc2 => hkW.block k hk (fun e => hc2 (by rw [e]))⟩ (.inr fun e => ?_)
        have := (hI.row.lt _ e).1
        omega
      have hN1 : w.heap.size + 1 ≤ W1.heap.size := (Array.getElem?_eq_some_iff.1 hbx1).1
      clear hch hkW hbox hext
      clear hW1
      have hbox1 : W1.cell? ⟨w.heap.size, 0, none⟩ = some (.chan (some c)) := by simp [World.cell?, hbx1, pipeB]
      obtain ⟨i0, hi9, hz9⟩ := Option.map_eq_some_iff.1 info9
      simp only [Prod.mk.injEq] at hz9
      obtain ⟨hz0, hz1, hz2⟩ := hz9
      refine LoneTo.goes (n := 40) ?_
      s_op
      s_c stepG_region_end
      s_c stepG_seq
      s_reg
      s_op
      s_op
      s_op
      obtain ⟨v2, W2, hr, hown, hgr, _, hat⟩ := run_append_own_at (P := Try.prog) (W1.alloc (.cells #[.string x] 9)) (w.heap.size + 1) 36 36 9 i0 (.string ⟨#[]⟩) 1 16 Try.underlying36 hi9 hz0 hz1 hz2 rfl (by decide) v j ((l.take j).map Value.string) (hrow1.alloc _) ⟨W1.heap.size, 0, none⟩ 1 1 [.string x] rfl (World.news_of_block (cs := #[.string x]) (t := 9) (fr := (0, 0)) (heap_alloc_new W1 _)) (by simp [Value.oneCell']) (by simp only [maxLen]; omega) (by omega) (by simp; omega)
      s_in
      refine goes_oper_k rfl rfl (by decide) (fun K hK => ?_)
      simp only [List.getElem_toArray, List.getElem_cons_succ, List.getElem_cons_zero, List.size_toArray, execOp, resolve, invoke, builtin, Sem.run_bind, Sem.run_pure, Result.andThen_ok, List.map_toArray, List.map_cons, List.map_nil, Act.eval]
      simp only [Array.getD_eq_getD_getElem?, List.getElem?_toArray, List.getElem?_cons_succ, List.getElem?_cons_zero, Option.getD_some, hr]
      go_simp
      refine hK _ _ ⟨trivial, ?_⟩
      clear hK K hr
      have hvr : ∀ b, v.ownBlock = some b → w.heap.size + 1 ≤ b := fun b e => (hrow1.lt b e).1
      have far : ∀ k, k ≤ w.heap.size → W2.heap[k]? = W1.heap[k]? := fun k hk =>
        (hgr.block k (by simp; omega) (fun e => by have := hvr _ e.symm; omega)).trans (Below.heap_alloc _ _ _ (by omega))
      have hch2 : W2.heap[c]? = some (.chan cap (R.map Value.string).toArray false s2 (r2 + 1) false) := (far c (by omega)).trans hch1
      have hbx2 : W2.heap[w.heap.size]? = some (pipeB c) := (far _ (Nat.le_refl _)).trans hbx1
      have hbox2 : W2.cell? ⟨w.heap.size, 0, none⟩ = some (.chan (some c)) := by simp [World.cell?, hbx2, pipeB]
      have hsz2 : W1.heap.size ≤ W2.heap.size := by
        have := hgr.size
        simp at this
        omega
      have hk2 : MKeeps w W2 c := ⟨hgr.os.trans hk1.os, hgr.tape.trans hk1.tape, hgr.output.trans hk1.output, Nat.le_trans hk1.size hsz2, fun k hk hkc => (far k (by omega)).trans (hk1.block k hk hkc)⟩
      have hrow2 : ∀ (buf : Array Value) (s3 r3 : Nat), (W2.setChan c cap buf false s3 r3 false).ownsRow (w.heap.size + 1) 9 1 v2 (j + 1) ((l.take (j + 1)).map Value.string) := by
        intro buf s3 r3
        rw [htk, List.map_append]
        have hkS : MKeeps W2 (W2.setChan c cap buf false s3 r3 false) c := (MKeeps.refl W2 c).setChan _ _ _ _ _ _
        refine hown.kept (row := some c) ⟨hkS.os, hkS.tape, hkS.output, hkS.size, fun k hk hc2 => hkS.block k hk (fun e => hc2 (by rw [e]))⟩ (.inr fun e => ?_)
        have := (hown.lt _ e).1
        omega
      have hbx3 : ∀ (buf : Array Value) (s3 r3 : Nat), (W2.setChan c cap buf false s3 r3 false).heap[w.heap.size]? = some (pipeB c) := fun buf s3 r3 =>
        ((MKeeps.refl W2 c).setChan cap buf false s3 r3 false).block _ (Array.getElem?_eq_some_iff.1 hbx2).1 hne |>.trans hbx2
      have hW2l : c < W2.heap.size := (Array.getElem?_eq_some_iff.1 hch2).1
      have hpush : (R.map Value.string).toArray.push (.string x) = ((l.drop (j + 1) ++ l.take (j + 1)).map Value.string).toArray := by
        rw [htk, ← List.append_assoc, hR]
        simp
      clear far hown hgr hat hrow1 hbx1 hch1 hbox1 hk1
      s_op
      s_c stepG_region_end
      s_reg
      s_op
      s_op
      s_op
      s_stop
      refine LoneTo.step (step_lone_send_room (c := c) (cap := cap) (buf := (R.map Value.string).toArray) (s := s2) (r := r2 + 1) (tm := false) (stepG_comm (cases := #[scase c (.string x) (.tuple #[])]) (blocking := true) (shape := .send) (w' := W2) rfl rfl (by decide) (by simp [execOp, scase, Act.eval])) hch2 (by simp; omega)) ?_
      rw [Frame.finish_at]
      obtain ⟨BUF, hBUF⟩ : ∃ B, ((l.drop (j + 1) ++ l.take (j + 1)).map Value.string).toArray = B := ⟨_, rfl⟩
      rw [hpush, hBUF]
      walk_nrm
      refine LoneTo.goes (n := 40) ?_
      s_c stepG_region_end
      s_c stepG_inBlock
      s_reg
      s_op
      s_op
      s_c stepG_region_end
      s_stop
      have hwr : IntKind.i64.wrap ((j : Int) + 1) = ((j + 1 : Nat) : Int) := IntWalk.i64_in _ (by omega)
      rw [hwr]
      exact LoneTo.done (.inl ⟨l.length - (j + 1), _, by omega, rfl, j + 1, v2, _, _, _, _, _, _, _, _, _, _, _, _, _, _, rfl, ⟨by omega, hbx3 _ _ _, ⟨_, _, by rw [hBUF]; exact heap_setChan W2 c cap _ false _ _ false hW2l⟩, hrow2 _ _ _, hk2.setChan _ _ _ _ _ _⟩, rfl⟩)
    · have hjl : j = l.length := by have := hI.le; omega
      have hj2 : ¬ (j : Int) < l.length := by omega
      obtain ⟨s2, r2, hch⟩ := hI.chan
      have hrow := hI.row
      rw [hjl, List.drop_length, List.take_length, List.nil_append] at hch
      rw [hjl, List.take_length] at hrow
      have hrow := hrow.mono (Nat.le_succ _)
      refine LoneTo.goes (n := 40) ?_
      s_c stepG_seq
      s_reg
      s_op
      s_c stepG_region_end
      s_c stepG_seq
      s_cond false
      s_exit
      s_c stepG_seq
      s_reg
      s_op
      s_op
      s_c stepG_region_end
      s_c stepG_ret'
      s_stop
      exact LoneTo.done (.inr ⟨.returned v, _, rfl, ⟨v, rfl, hrow, ⟨s2, r2, hch⟩, hI.keeps⟩, rfl, rfl, rfl, rfl, _, Try.func30, by simp [results, Try.f30, Frame.at]⟩)
  · simpa [pipeB] using (Below.heap_alloc w (pipeB c) _ hcl).trans hc
end Go.Proofs.Ytgomnnddfddkhaa.ML
