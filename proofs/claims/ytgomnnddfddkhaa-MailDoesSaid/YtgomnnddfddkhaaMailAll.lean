/-
  Chapter 08: a box: First, All, Copy.
-/
import Derived.Test.YtgomnnddfddkhaaMailBox
namespace Go.Proofs.Ytgomnnddfddkhaa.ML
open Go.RowKit Go.Conc Go.Proofs.Ytgomnnddfddkhaa

theorem own_form {w : World} {base e size n : Nat} {v : Value} {xs : List Value} (h : w.ownsRow base e size v n xs) : ∃ o c, v = .slice o n c := by
  rcases h.2 with ⟨rfl, rfl⟩ | ⟨g, cap, _, rfl, _⟩
  · exact ⟨_, _, rfl⟩
  · exact ⟨_, _, rfl⟩
/-- list, over a box's pipe. -/
theorem list_calls {w : World} {A c cap : Nat} {l : List ByteArray} (h : MAt w A c cap l) (hl : l.length ≤ 100000) :
    Calls Try.prog 30 #[.agg #[.chan (some c)]] w fun e w' => ∃ o k, e = .returned (.slice o l.length k) ∧ w'.ownsRow w.heap.size 9 1 (.slice o l.length k) l.length (l.map Value.string) ∧ MAt w' A c cap l ∧ MKeeps w w' c := by
  obtain ⟨s, r, hc⟩ := h.chan
  refine (list_walk hc h.le hl).mono ?_
  rintro e w2 ⟨v, rfl, hrow, hch, hK⟩
  obtain ⟨o, k, rfl⟩ := own_form hrow
  exact ⟨o, k, rfl, hrow, ⟨(hK.block A h.ltA h.ne).trans h.box, hch, h.le⟩, hK⟩
set_option maxHeartbeats 2000000 in
theorem first_walk {w : World} {A c cap : Nat} {l : List ByteArray} (h : MAt w A c cap l) (hl : l.length ≤ 100000) :
    Calls Try.prog 15 #[.pointer (some ⟨A, 0, none⟩)] w fun e w' => e = .returned (.tuple #[.string (hd l), .bool (non l)]) ∧ MAt w' A c cap l ∧ MKeeps w w' c := by
  have hcell := h.cell
  have hp := list_calls h hl
  clear h
  cases l with
  | nil =>
    show Calls Try.prog 15 #[.pointer (some ⟨A, 0, none⟩)] w fun e w' => e = .returned (.tuple #[.string ⟨#[]⟩, .bool false]) ∧ MAt w' A c cap [] ∧ MKeeps w w' c
    go_enter Try.func15, Try.ntmps15
    go_wp2_with (go_at_call 30; (with_reducible refine hp.mono ?_); rintro e w2 ⟨o, k, rfl, hrow, hm, hK⟩; simp only [List.length_nil] at hrow)
    go_returns
    exact ⟨rfl, hm, hK⟩
  | cons x l =>
    show Calls Try.prog 15 #[.pointer (some ⟨A, 0, none⟩)] w fun e w' => e = .returned (.tuple #[.string x, .bool true]) ∧ MAt w' A c cap (x :: l) ∧ MKeeps w w' c
    simp only [List.length_cons] at hl hp
    go_enter Try.func15, Try.ntmps15
    go_wp2_with (go_at_call 30; (with_reducible refine hp.mono ?_); rintro e w2 ⟨o, k, rfl, hrow, hm, hK⟩
                 obtain ⟨g, cp, hf, _, _⟩ := hrow.form (by omega)
                 obtain ⟨ho, _, hk2⟩ := Value.slice.inj hf
                 subst ho
                 subst hk2
                 have h0 : w2.cell? ⟨g, 0, none⟩ = some (.string x) := (hrow.cellAt 0 (by omega)).trans rfl
                 have hll : 0 < l.length + 1 := by omega)
    go_returns
    exact ⟨rfl, hm, hK⟩
def lenV : Value → Nat
  | .slice _ n _ => n
  | _ => 0
set_option maxHeartbeats 4000000 in
theorem all_walk {w : World} {A c cap : Nat} {l : List ByteArray} (h : MAt w A c cap l) (hl : l.length ≤ 100000) :
    Calls Try.prog 18 #[.pointer (some ⟨A, 0, none⟩)] w fun e w' => ∃ o k, e = .returned (.slice o l.length k) ∧ w'.ownsRow w.heap.size 9 1 (.slice o l.length k) l.length (l.map Value.string) ∧ MAt w' A c cap [] ∧ MKeeps w w' c := by
  have hA := h.ltA
  have hcl := h.ltc
  have hne := h.ne
  obtain ⟨i0, hi9, hz9⟩ := Option.map_eq_some_iff.1 info9
  simp only [Prod.mk.injEq] at hz9
  obtain ⟨hz0, hz1, hz2⟩ := hz9
  go_enter Try.func18, Try.ntmps18
  go_wp2
  go_loopw [3] (fun v3 wr => ∃ (j : Nat) (o : Option Addr) (k : Nat), v3 = .slice o j k ∧ j ≤ l.length ∧ wr.ownsRow w.heap.size 9 1 (.slice o j k) j ((l.take j).map Value.string) ∧ MAt wr A c cap (l.drop j) ∧ MKeeps w wr c) (fun v _ => l.length - lenV v)
  case atStart => exact ⟨0, none, 0, rfl, Nat.zero_le _, World.ownsRow_nil _ _ _ _, by simpa using h, MKeeps.refl w c⟩
  case round =>
    obtain ⟨j, o, k, rfl, hj, hrow, hm, hK⟩ := hrel
    have hsz := hK.size
    clear h
    by_cases hlt : j < l.length
    · have hdr : l.drop j = l[j]'hlt :: l.drop (j + 1) := List.drop_eq_getElem_cons hlt
      have htk : l.take (j + 1) = l.take j ++ [l[j]'hlt] := List.take_succ_eq_append_getElem hlt
      rw [hdr] at hm
      obtain ⟨x, hx⟩ : ∃ x, l[j]'hlt = x := ⟨_, rfl⟩
      rw [hx] at hm htk
      have ht := take_walk hm
      replace ht : Calls Try.prog 13 #[.pointer (some ⟨A, 0, none⟩)] wr fun e w' => e = .returned (.tuple #[.string x, .bool true]) ∧ MAt w' A c cap (l.drop (j + 1)) ∧ MKeeps wr w' c := ht
      have htk := Lib.hid htk
      clear hdr hx hm
      go_wp2_with (first
        | (go_at_call 13; (with_reducible refine ht.mono ?_); rintro e w2 ⟨rfl, hm2, hK2⟩
           have hs2 := hK2.size
           have hrow2 : w2.ownsRow w.heap.size 9 1 (.slice o j k) j ((l.take j).map Value.string) := by
             refine hrow.kept (row := some c) ⟨hK2.os, hK2.tape, hK2.output, hK2.size, fun b hb hc2 => hK2.block b hb (fun e => hc2 (by rw [e]))⟩ (.inr fun e => ?_)
             have := (hrow.lt _ e).1
             omega
           have hvr := Lib.hid (fun b e => (hrow2.lt b e).1 : ∀ b, (Value.slice o j k).ownBlock = some b → w.heap.size ≤ b)
           have hrow3 := hrow2.alloc (.cells #[.string x] 9)
           clear hrow hrow2)
        | (at_builtin; refine wpList_append_own_at _ rfl (.tmp 14) (.tmp 16) 36 rfl w.heap.size 9 i0 (.string ⟨#[]⟩) 1 16 Try.underlying36 hi9 hz0 hz1 hz2 rfl (by decide) (.slice o j k) j ((l.take j).map Value.string) rfl hrow3 ⟨w2.heap.size, 0, none⟩ 1 1 [.string x] rfl rfl (World.news_of_block (cs := #[.string x]) (t := 9) (fr := (0, 0)) (heap_alloc_new w2 _)) (by simp [Value.oneCell']) (by simp only [maxLen]; omega) (by omega) (by simp; omega) ?_; intro v w5 hown hgr _ _
           have far : ∀ b, b < w.heap.size → w5.heap[b]? = w2.heap[b]? := fun b hb => (hgr.block b (by simp; omega) (fun e => by have := hvr.out _ e.symm; omega)).trans (Below.heap_alloc _ _ _ (by omega))
           have hs5 := hgr.size
           simp at hs5
           have hm5 : MAt w5 A c cap (l.drop (j + 1)) := ⟨(far A hA).trans hm2.box, by obtain ⟨s, r, hc⟩ := hm2.chan; exact ⟨s, r, (far c hcl).trans hc⟩, hm2.le⟩
           have hK5 : MKeeps w w5 c := ⟨hgr.os.trans (hK2.os.trans hK.os), hgr.tape.trans (hK2.tape.trans hK.tape), hgr.output.trans (hK2.output.trans hK.output), by omega, fun b hb hbc => (far b hb).trans ((hK2.block b (by omega) hbc).trans (hK.block b hb hbc))⟩
           obtain ⟨vo, vc, rfl⟩ := own_form hown
           have hown5 : w5.ownsRow w.heap.size 9 1 (.slice vo (j + 1) vc) (j + 1) ((l.take (j + 1)).map Value.string) := by rw [htk.out, List.map_append]; exact hown
           clear far hown hgr hm2 hK2 hrow3))
      go_roundw
      case rel => exact ⟨j + 1, vo, vc, rfl, by omega, hown5, hm5, hK5⟩
      case measure => simp [lenV]; omega
    · have hjl : j = l.length := by omega
      subst hjl
      rw [List.drop_length] at hm
      rw [List.take_length] at hrow
      have ht := take_walk hm
      replace ht : Calls Try.prog 13 #[.pointer (some ⟨A, 0, none⟩)] wr fun e w' => e = .returned (.tuple #[.string ⟨#[]⟩, .bool false]) ∧ MAt w' A c cap [] ∧ MKeeps wr w' c := ht
      go_wp2_with (first
        | (go_at_call 13; (with_reducible refine ht.mono ?_); rintro e w2 ⟨rfl, hm2, hK2⟩
           have hrow2 : w2.ownsRow w.heap.size 9 1 (.slice o l.length k) l.length (l.map Value.string) := by
             refine hrow.kept (row := some c) ⟨hK2.os, hK2.tape, hK2.output, hK2.size, fun b hb hc2 => hK2.block b hb (fun e => hc2 (by rw [e]))⟩ (.inr fun e => ?_)
             have := (hrow.lt _ e).1
             omega))
      go_returns
      exact ⟨o, k, rfl, hrow2, hm2, hK2.after hK⟩
theorem pipe_put {w : World} {A c cap : Nat} {l : List ByteArray} (h : MAt w A c cap l) (hr : l.length < cap) (x : ByteArray) :
    Calls Try.prog 28 #[.agg #[.chan (some c)], .string x] w fun e w' => e = .returned (.bool true) ∧ MAt w' A c cap (l ++ [x]) ∧ MKeeps w w' c := by
  obtain ⟨s, r, hc⟩ := h.chan
  have hp := put_room x hc (by simpa using hr)
  have hpush : (l.map Value.string).toArray.push (.string x) = ((l ++ [x]).map Value.string).toArray := by simp
  rw [hpush] at hp
  refine hp.mono ?_
  rintro e w2 ⟨rfl, rfl⟩
  exact ⟨rfl, ⟨(((MKeeps.refl (w.alloc (pipeB c)) c).setChan cap _ false _ _ false).block A (by simp; have := h.ltA; omega) h.ne).trans ((Below.heap_alloc _ _ _ h.ltA).trans h.box), ⟨s + 1, r, heap_setChan _ c cap _ false _ _ false (by simp; have := h.ltc; omega)⟩, by simp; omega⟩, ((MKeeps.refl w c).alloc _).setChan _ _ _ _ _ _⟩
set_option maxHeartbeats 4000000 in
theorem copy_walk {w : World} {A c cap : Nat} {l : List ByteArray} (h : MAt w A c cap l) (hcap : cap ≤ 100000) :
    Calls Try.prog 20 #[.pointer (some ⟨A, 0, none⟩)] w fun e w' => ∃ B d, e = .returned (.pointer (some ⟨B, 0, none⟩)) ∧ MAt w' B d cap l ∧ MAt w' A c cap l ∧ MKeeps w w' c ∧ w.heap.size ≤ B ∧ w.heap.size ≤ d := by
  have hA := h.ltA
  have hcl := h.ltc
  have hle := h.le
  have hcell := h.cell
  have hcp := h.cap
  have hf := fresh_walk cap (by omega)
  go_enter Try.func20, Try.ntmps20
  go_wp2_with (first
    | (go_at_call 27; (with_reducible refine (hf _).mono ?_); rintro e w2 ⟨rfl, hB, hb⟩
       have h2 := h.below hb
       have hcell2 := h2.cell
       have hs2 := hb.size
       have hl2 := list_calls h2 (by omega)
       have hBl := hB.ltA)
    | (go_at_call 30; (with_reducible refine hl2.mono ?_); rintro e w3 ⟨o, k, rfl, hrow, h3, hK3⟩
       have hB3 := hB.keeps hK3 (by omega) (by omega)
       have hK03 : MKeeps w w3 c := hK3.after ((MKeeps.refl w c).below hb)
       have hs3 := hK3.size
       have hs03 := hK03.size))
  clear hcp hcell hcell2 hl2 hf hB h2 h
  go_loopw [19] (fun v19 wr => ∃ j : Nat, v19 = .int .i64 j ∧ j ≤ l.length ∧ MAt wr (w.heap.size + 1) w.heap.size cap (l.take j) ∧ MKeeps w3 wr w.heap.size) (fun i _ => l.length - (intOf i).toNat)
  case atStart => exact ⟨0, rfl, Nat.zero_le _, by simpa using hB3, MKeeps.refl _ _⟩
  case round =>
    obtain ⟨j, rfl, hj, hm, hK⟩ := hrel
    clear hB3
    by_cases hlt : j < l.length
    · have htk : l.take (j + 1) = l.take j ++ [l[j]'hlt] := List.take_succ_eq_append_getElem hlt
      obtain ⟨g, cp, hfm, hgb, hgl⟩ := hrow.form (by omega)
      obtain ⟨ho, _, hk2⟩ := Value.slice.inj hfm
      subst ho
      subst hk2
      have hcj := hrow.cellAt j (by omega)
      have hcj2 : (l.map Value.string)[j]? = some (.string (l[j]'hlt)) := by simp [hlt]
      have hgne : g ≠ w.heap.size := by have := hBl; omega
      have hcw : wr.cell? ⟨g, j, none⟩ = some (.string (l[j]'hlt)) := by
        rw [← hcj2, ← hcj]
        unfold World.cell?
        rw [hK.block g hgl hgne]
      generalize l[j]'hlt = x at *
      have hcell5 := hm.cell
      have hp := pipe_put hm (by rw [List.length_take]; omega) x
      rw [← htk] at hp
      clear htk hcj hcj2 hrow hfm
      go_wp2_with (first
        | (go_at_call 28; (with_reducible refine hp.mono ?_); rintro e w4 ⟨rfl, hm4, hK4⟩))
      go_roundw
      case rel => exact ⟨j + 1, by go_num, by omega, hm4, hK4.after hK⟩
      case measure => simp [intOf]; omega
    · have hjl : j = l.length := by omega
      subst hjl
      rw [List.take_length] at hm
      have hA3 := h3.ltA
      have hAk : MAt wr A c cap l := h3.keeps hK (by omega) (by omega)
      have hKw : MKeeps w wr c := ⟨hK.os.trans hK03.os, hK.tape.trans hK03.tape, hK.output.trans hK03.output, Nat.le_trans hs03 hK.size, fun b hb hbc => (hK.block b (by omega) (by omega)).trans (hK03.block b hb hbc)⟩
      clear hrow
      go_wp2
      go_returns
      exact ⟨w.heap.size + 1, w.heap.size, rfl, hm, hAk, hKw, by omega, Nat.le_refl _⟩
end Go.Proofs.Ytgomnnddfddkhaa.ML
