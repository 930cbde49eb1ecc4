import Derived.Maps.AppendAt
import Derived.Deep.AppendLies
import Derived.Test.YtkiepnmbimkadaaKRecovers1
namespace Go.Proofs.Ytkiepnmbimkadaa.DK
open Go.RowKit Go.Proofs.Ytkiepnmbimkadaa
theorem info54 : (Try.prog.info? 73).map (fun i => (i.zero, i.size, i.bytes)) = some (some .nilIface, 1, 16) := by kernel_rfl
theorem under49 : Try.prog.underlying 59 = some (.slice 73) := by kernel_rfl
def Puts (w w' : World) (A : Nat) (W : Value) (n' k : Four) (l' : List Wr) : Prop := ∃ W', At w' A W' n' k l' ∧ Keeps w w' A W ∧ (W'.ownBlock = W.ownBlock ∨ ∀ b, W'.ownBlock = some b → w.heap.size ≤ b)
theorem At.lt {w : World} {A : Nat} {W : Value} {n k : Four} {l : List Wr} (h : At w A W n k l) : A < w.heap.size := (Array.getElem?_eq_some_iff.1 h.cells).1
theorem At.below {w w' : World} {A : Nat} {W : Value} {n k : Four} {l : List Wr} (h : At w A W n k l) (hb : Below w.heap.size w w') : At w' A W n k l :=
  ⟨(hb.block A h.lt).trans h.cells, h.row.kept (row := none) ⟨hb.os, hb.tape, hb.output, hb.size, fun k hk _ => hb.block k hk⟩ (by cases W.ownBlock <;> simp), h.apart⟩
theorem At.drew {w : World} {A : Nat} {W : Value} {n k : Four} {l : List Wr} (h : At w A W n k l) : At w.drew A W n k l := ⟨h.cells, h.row, h.apart⟩
theorem At.alloc {w : World} {A : Nat} {W : Value} {n k : Four} {l : List Wr} (h : At w A W n k l) (o : Obj) : At (w.alloc o) A W n k l := h.below ((Below.refl _ _).alloc (Nat.le_refl _) o)
theorem At.store4 {w : World} {A : Nat} {W : Value} {n k : Four} {l : List Wr} (h : At w A W n k l) (r : Four) :
    At ((((w.setCell ⟨A, 0, none⟩ (.string r.a)).setCell ⟨A, 1, none⟩ (.string r.b)).setCell ⟨A, 2, none⟩ (.string r.c)).setCell ⟨A, 3, none⟩ (.string r.d)) A W r k l :=
  ⟨(set_self (set_self (set_self (set_self h.cells)))).trans (by simp [cellsOf]),
   h.row.kept (row := some A) ⟨rfl, rfl, rfl, by simp [World.setCell], fun j _ hj => by
     have hj2 : j ≠ A := fun e => hj (by rw [e])
     rw [Below.heap_setCell _ _ _ _ hj2, Below.heap_setCell _ _ _ _ hj2, Below.heap_setCell _ _ _ _ hj2, Below.heap_setCell _ _ _ _ hj2]⟩ (.inr h.apart), h.apart⟩
theorem Keeps.below {w w1 w2 : World} {A : Nat} {W : Value} (h : Keeps w w1 A W) (hb : Below w1.heap.size w1 w2) : Keeps w w2 A W :=
  ⟨hb.os.trans h.os, hb.tape.trans h.tape, hb.output.trans h.output, Nat.le_trans h.size hb.size, fun k hk ha hw => (hb.block k (Nat.lt_of_lt_of_le hk h.size)).trans (h.block k hk ha hw)⟩
theorem At.grown {w wz w5 : World} {A : Nat} {W v : Value} {n k : Four} {l : List Wr} {x : Wr} (h : At wz A W n k l) (hk : Keeps w wz A W) (o : Obj) (hg : (wz.alloc o).grownBy w5 W.ownBlock)
    (hown : w5.ownsRow 0 73 1 v (l.length + 1) (l.map Wr.val ++ [x.val])) (hat : v.ownBlock = W.ownBlock ∨ v.ownBlock = some (wz.alloc o).heap.size) : Puts w (w5.setCell ⟨A, 8, none⟩ v) A W n k (l ++ [x]) := by
  have hA := h.lt
  have h5 : w5.heap[A]? = some (.cells (cellsOf n k W) 61 (0, 0)) := ((hg.block A (by simp; omega) (fun e => h.apart e.symm)).trans (Below.heap_alloc _ _ _ hA)).trans h.cells
  have hva : v.ownBlock ≠ some A := by
    rcases hat with e | e
    · rw [e]; exact h.apart
    · rw [e]; simp; omega
  have hs := hk.size
  refine ⟨v, ⟨(set_self h5).trans (by simp [cellsOf]), ?_, hva⟩, ⟨hg.os.trans hk.os, hg.tape.trans hk.tape, hg.output.trans hk.output, ?_, fun j hj ha hw => ?_⟩, ?_⟩
  · rw [List.length_append, List.map_append]
    exact hown.kept (row := some A) ⟨rfl, rfl, rfl, by simp [World.setCell], fun j _ hj => Below.heap_setCell _ _ _ _ (fun e => hj (by rw [e]))⟩ (.inr hva)
  · rw [set_size]
    have := hg.size
    simp at this
    omega
  · rw [Below.heap_setCell _ _ _ _ ha, hg.block j (by simp; omega) (fun e => hw e.symm), Below.heap_alloc _ _ _ (by omega)]
    exact hk.block j hj ha hw
  · rcases hat with e | e
    · exact .inl e
    · right
      intro b hb
      rw [e] at hb
      simp at hb
      omega
set_option maxHeartbeats 4000000 in
theorem put_walk {w : World} {A : Nat} {W : Value} {n k : Four} {l : List Wr} (h : At w A W n k l) (hl : l.length ≤ 1000000) {i : Int} (hi : 0 ≤ i ∧ i < 4) (s : ByteArray) (hs : (n.at i).size + s.size ≤ 65536) :
    Calls Try.prog 44 #[.pointer (some ⟨A, 0, none⟩), .iface 86 (.agg #[.int .i64 i, .string s])] w fun e w' => e = .returned (.tuple #[]) ∧ Puts w w' A W (n.to i (n.at i ++ s)) k (l ++ [⟨false, i, s⟩]) := by
  have hA := h.lt
  have c0 : w.cell? ⟨A, 0, none⟩ = some (.string n.a) := h.cell 0
  have c1 : w.cell? ⟨A, 1, none⟩ = some (.string n.b) := h.cell 1
  have c2 : w.cell? ⟨A, 2, none⟩ = some (.string n.c) := h.cell 2
  have c3 : w.cell? ⟨A, 3, none⟩ = some (.string n.d) := h.cell 3
  have e1 : s.extract 0 ((s.size : Int)).toNat = s := by simp
  have hd := fun w => do_behind hi s n s.size (by omega) (by omega) (by rw [e1]; omega) w
  rw [e1] at hd
  unfold Four.val at hd
  have hu := units_behind i s
  clear e1
  have hn : ∀ w : World, (nilAhead 226 86 (.agg #[.int .i64 i, .string s]) "rivulet/disk.do").run Try.prog w = .ok (some false) w := fun _ => by kernel_rfl
  go_enter Try.func44, Try.ntmps44
  go_wp2
  go_region_with (first
    | (go_at_call 102; refine (hu _).mono ?_; rintro e w2 ⟨rfl, rfl⟩)
    | (go_at_call 101; refine (hd _).mono ?_; rintro e w3 ⟨rfl, hb⟩
       have h3 : At w3 A W n k l := At.below (by repeat (first | exact h | apply At.drew | apply At.alloc)) hb
       have d0 : w3.cell? ⟨A, 0, none⟩ = some (.string n.a) := h3.cell 0
       have d1 : w3.cell? ⟨A, 1, none⟩ = some (.string n.b) := h3.cell 1
       have d2 : w3.cell? ⟨A, 2, none⟩ = some (.string n.c) := h3.cell 2
       have d3 : w3.cell? ⟨A, 3, none⟩ = some (.string n.d) := h3.cell 3
       have g0 := h3.frozen 0
       have g1 := h3.frozen 1
       have g2 := h3.frozen 2
       have g3 := h3.frozen 3))
  all_goals
    have hz := h3.store4 (n.to i (n.at i ++ s))
    have hk := (((((by repeat (first | exact Keeps.refl w A W | apply Keeps.drew | apply Keeps.alloc)) : Keeps w _ A W).below hb).setCell 0 (.string (n.to i (n.at i ++ s)).a)).setCell 1 (.string (n.to i (n.at i ++ s)).b)).setCell 2 (.string (n.to i (n.at i ++ s)).c) |>.setCell 3 (.string (n.to i (n.at i ++ s)).d)
    generalize hwz : World.setCell (World.setCell (World.setCell (World.setCell w3 _ _) _ _) _ _) _ _ = wz at *
    clear hwz d0 d1 d2 d3 g0 g1 g2 g3 h3 hb c0 c1 c2 c3 hd hu hn
    have hAz := hz.lt
    have c8 : wz.cell? ⟨A, 8, none⟩ = some W := hz.cell 8
    obtain ⟨i0, hi54, hz54⟩ := Option.map_eq_some_iff.1 info54
    simp only [Prod.mk.injEq] at hz54
    obtain ⟨hz0, hz1, hz2⟩ := hz54
    have hrow := hz.row.alloc (.cells #[.iface 86 (.agg #[.int .i64 i, .string s])] 73)
    go_wp2_with (first | (at_builtin; refine wpList_append_own_at _ rfl (.tmp 22) (.tmp 24) 59 rfl 0 73 i0 .nilIface 1 16 under49 hi54 hz0 hz1 hz2 rfl (by decide) W l.length (l.map Wr.val) rfl hrow ⟨wz.heap.size, 0, none⟩ 1 1 [.iface 86 (.agg #[.int .i64 i, .string s])] rfl rfl (World.news_of_block (cs := #[.iface 86 (.agg #[.int .i64 i, .string s])]) (t := 73) (fr := (0, 0)) (heap_alloc_new wz _)) (by simp [Value.oneCell']) (by simp only [maxLen]; omega) (by omega) (Nat.zero_le _) ?_; intro v w5 hown hg _ hat; obtain ⟨g, cap, rfl, _, hgl⟩ := hown.form (by omega); have hfin := hz.grown (x := ⟨false, i, s⟩) hk _ hg hown hat; have c9 : w5.cell? ⟨A, 8, none⟩ = some W := hg.cell (by go_cell) (fun e => hz.apart e.symm); have f9 : w5.frozen? ⟨A, 8, none⟩ = false := (World.frozen?_of_block (w := wz) (a := ⟨A, 8, none⟩) ((hg.block A (by simp; omega) (fun e => hz.apart e.symm)).trans (Below.heap_alloc _ _ _ hAz))).trans (hz.frozen 8)))
    go_returns
    exact ⟨rfl, hfin⟩
set_option maxHeartbeats 4000000 in
theorem put_instead {w : World} {A : Nat} {W : Value} {n k : Four} {l : List Wr} (h : At w A W n k l) (hl : l.length ≤ 1000000) {i : Int} (hi : 0 ≤ i ∧ i < 4) (s : ByteArray) :
    Calls Try.prog 44 #[.pointer (some ⟨A, 0, none⟩), .iface 81 (.agg #[.int .i64 i, .string s])] w fun e w' => e = .returned (.tuple #[]) ∧ Puts w w' A W (n.to i s) k (l ++ [⟨true, i, s⟩]) := by
  have hA := h.lt
  have c0 : w.cell? ⟨A, 0, none⟩ = some (.string n.a) := h.cell 0
  have c1 : w.cell? ⟨A, 1, none⟩ = some (.string n.b) := h.cell 1
  have c2 : w.cell? ⟨A, 2, none⟩ = some (.string n.c) := h.cell 2
  have c3 : w.cell? ⟨A, 3, none⟩ = some (.string n.d) := h.cell 3
  have hd := fun w => do_instead hi s n 1 w
  rw [if_pos rfl] at hd
  unfold Four.val at hd
  have hu := units_instead i s
  have hn : ∀ w : World, (nilAhead 226 81 (.agg #[.int .i64 i, .string s]) "rivulet/disk.do").run Try.prog w = .ok (some false) w := fun _ => by kernel_rfl
  go_enter Try.func44, Try.ntmps44
  go_wp2
  go_region_with (first
    | (go_at_call 100; refine (hu _).mono ?_; rintro e w2 ⟨rfl, rfl⟩)
    | (go_at_call 99; refine (hd _).mono ?_; rintro e w3 ⟨rfl, hb⟩
       have h3 : At w3 A W n k l := At.below (by repeat (first | exact h | apply At.drew | apply At.alloc)) hb
       have d0 : w3.cell? ⟨A, 0, none⟩ = some (.string n.a) := h3.cell 0
       have d1 : w3.cell? ⟨A, 1, none⟩ = some (.string n.b) := h3.cell 1
       have d2 : w3.cell? ⟨A, 2, none⟩ = some (.string n.c) := h3.cell 2
       have d3 : w3.cell? ⟨A, 3, none⟩ = some (.string n.d) := h3.cell 3
       have g0 := h3.frozen 0
       have g1 := h3.frozen 1
       have g2 := h3.frozen 2
       have g3 := h3.frozen 3))
  all_goals
    have hz := h3.store4 (n.to i s)
    have hk := (((((by repeat (first | exact Keeps.refl w A W | apply Keeps.drew | apply Keeps.alloc)) : Keeps w _ A W).below hb).setCell 0 (.string (n.to i s).a)).setCell 1 (.string (n.to i s).b)).setCell 2 (.string (n.to i s).c) |>.setCell 3 (.string (n.to i s).d)
    generalize hwz : World.setCell (World.setCell (World.setCell (World.setCell w3 _ _) _ _) _ _) _ _ = wz at *
    clear hwz d0 d1 d2 d3 g0 g1 g2 g3 h3 hb c0 c1 c2 c3 hd hu hn
    have hAz := hz.lt
    have c8 : wz.cell? ⟨A, 8, none⟩ = some W := hz.cell 8
    obtain ⟨i0, hi54, hz54⟩ := Option.map_eq_some_iff.1 info54
    simp only [Prod.mk.injEq] at hz54
    obtain ⟨hz0, hz1, hz2⟩ := hz54
    have hrow := hz.row.alloc (.cells #[.iface 81 (.agg #[.int .i64 i, .string s])] 73)
    go_wp2_with (first | (at_builtin; refine wpList_append_own_at _ rfl (.tmp 22) (.tmp 24) 59 rfl 0 73 i0 .nilIface 1 16 under49 hi54 hz0 hz1 hz2 rfl (by decide) W l.length (l.map Wr.val) rfl hrow ⟨wz.heap.size, 0, none⟩ 1 1 [.iface 81 (.agg #[.int .i64 i, .string s])] rfl rfl (World.news_of_block (cs := #[.iface 81 (.agg #[.int .i64 i, .string s])]) (t := 73) (fr := (0, 0)) (heap_alloc_new wz _)) (by simp [Value.oneCell']) (by simp only [maxLen]; omega) (by omega) (Nat.zero_le _) ?_; intro v w5 hown hg _ hat; obtain ⟨g, cap, rfl, _, hgl⟩ := hown.form (by omega); have hfin := hz.grown (x := ⟨true, i, s⟩) hk _ hg hown hat; have c9 : w5.cell? ⟨A, 8, none⟩ = some W := hg.cell (by go_cell) (fun e => hz.apart e.symm); have f9 : w5.frozen? ⟨A, 8, none⟩ = false := (World.frozen?_of_block (w := wz) (a := ⟨A, 8, none⟩) ((hg.block A (by simp; omega) (fun e => hz.apart e.symm)).trans (Below.heap_alloc _ _ _ hAz))).trans (hz.frozen 8)))
    go_returns
    exact ⟨rfl, hfin⟩
end Go.Proofs.Ytkiepnmbimkadaa.DK
