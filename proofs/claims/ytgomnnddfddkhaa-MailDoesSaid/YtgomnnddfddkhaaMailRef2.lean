/-
  Chapter 08: the document's box: New, Put, First, Take, All, Copy.
-/
import Derived.Test.YtgomnnddfddkhaaMailRef
import Derived.Maps.AppendAt
namespace Go.Proofs.Ytgomnnddfddkhaa.ML
open Go.RowKit Go.Conc Go.Proofs.Ytgomnnddfddkhaa

/-- The document's box at a block. -/
structure RB (w : World) (X : Nat) (v : Value) (sz : Nat) (l : List ByteArray) : Prop where
  cells : w.heap[X]? = some (.cells #[v, .int .i64 sz] 47 (0, 0))
  row : ORow w v l
section
variable {w w2 : World} {X A c cap : Nat} {v : Value} {sz : Nat} {l m : List ByteArray}
theorem RB.lt (h : RB w X v sz l) : X < w.heap.size := (Array.getElem?_eq_some_iff.1 h.cells).1
theorem RB.c0 (h : RB w X v sz l) : w.cell? ⟨X, 0, none⟩ = some v := by simp [World.cell?, h.cells]
theorem RB.c1 (h : RB w X v sz l) : w.cell? ⟨X, 1, none⟩ = some (.int .i64 sz) := by simp [World.cell?, h.cells]
theorem RB.frozen (h : RB w X v sz l) (j : Nat) : w.frozen? ⟨X, j, none⟩ = false := by simp [World.frozen?, h.cells]
theorem RB.apart (h : RB w X v sz l) : v.ownBlock ≠ some X := h.row.kind h.cells (fun cur e => by simp at e)
theorem RB.keep (h : RB w X v sz l) (h1 : w2.heap[X]? = w.heap[X]?) (h2 : ∀ g, v.ownBlock = some g → w2.heap[g]? = w.heap[g]?) : RB w2 X v sz l := ⟨h1.trans h.cells, h.row.of h2⟩
theorem RB.below (h : RB w X v sz l) (hb : Below w.heap.size w w2) : RB w2 X v sz l := h.keep (hb.block X h.lt) (fun g e => hb.block g (h.row.lt g e))
theorem RB.drew (h : RB w X v sz l) : RB w.drew X v sz l := ⟨h.cells, h.row⟩
theorem RB.mkeeps (h : RB w X v sz l) (hm : MAt w A c cap m) (hK : MKeeps w w2 c) : RB w2 X v sz l := by
  obtain ⟨s, r, hc⟩ := hm.chan
  have n1 : X ≠ c := by
    rintro rfl
    rw [h.cells] at hc
    cases hc
  have n2 : v.ownBlock ≠ some c := h.row.kind hc (fun cur e => by cases e)
  exact h.keep (hK.block X h.lt n1) (fun g e => hK.block g (h.row.lt g e) (fun e2 => n2 (by rw [← e2]; exact e)))
end
/-- All blocks but a box's, and its row's, are as they were. -/
structure RK (w w2 : World) (X : Nat) (v : Value) : Prop where
  os : w2.os = w.os
  tape : w2.tape = w.tape
  output : w2.output = w.output
  size : w.heap.size ≤ w2.heap.size
  block : ∀ k, k < w.heap.size → k ≠ X → v.ownBlock ≠ some k → w2.heap[k]? = w.heap[k]?
section
variable {w w1 w2 w3 : World} {X Y A c cap N : Nat} {v u : Value} {sz sz2 : Nat} {l m : List ByteArray}
theorem RK.refl (w : World) (X : Nat) (v : Value) : RK w w X v := ⟨rfl, rfl, rfl, Nat.le_refl _, fun _ _ _ _ => rfl⟩
theorem RK.of_below (h : Below w.heap.size w w2) : RK w w2 X v := ⟨h.os, h.tape, h.output, h.size, fun k hk _ _ => h.block k hk⟩
theorem RK.setCell (h : RK w w2 X v) (j : Nat) (x : Value) : RK w (w2.setCell ⟨X, j, none⟩ x) X v :=
  ⟨h.os, h.tape, h.output, by simpa [World.setCell] using h.size, fun k hk h1 h2 => (Below.heap_setCell _ _ _ _ h1).trans (h.block k hk h1 h2)⟩
theorem RK.grown (h : RK w w2 X v) (hg : w2.grownBy w3 v.ownBlock) : RK w w3 X v :=
  ⟨hg.os.trans h.os, hg.tape.trans h.tape, hg.output.trans h.output, Nat.le_trans h.size hg.size, fun k hk h1 h2 => (hg.block k (Nat.lt_of_lt_of_le hk h.size) (fun e => h2 e.symm)).trans (h.block k hk h1 h2)⟩
theorem RK.alloc (h : RK w w2 X v) (o : Obj) : RK w (w2.alloc o) X v := ⟨h.os, h.tape, h.output, by simp; have := h.size; omega, fun k hk h1 h2 => (Below.heap_alloc _ _ _ (by have := h.size; omega)).trans (h.block k hk h1 h2)⟩
theorem RK.bel (hK : RK w1 w2 X v) (hb : Below N w w1) (hN : N ≤ w1.heap.size) (hX : N ≤ X) (hv : ∀ b, v.ownBlock = some b → N ≤ b) : Below N w w2 :=
  ⟨hK.os.trans hb.os, hK.tape.trans hb.tape, hK.output.trans hb.output, Nat.le_trans hb.size hK.size, fun k hk => (hK.block k (by omega) (by omega) (fun e => by have := hv k e; omega)).trans (hb.block k hk)⟩
theorem MAt.rk (h : MAt w A c cap l) (hx : RB w X v sz m) (hK : RK w w2 X v) : MAt w2 A c cap l := by
  have n1 : A ≠ X := by
    rintro rfl
    have := h.box
    rw [hx.cells] at this
    simp at this
  have n2 := hx.row.kind h.box (fun cur e => by simp at e)
  refine ⟨(hK.block A h.ltA n1 n2).trans h.box, ?_, h.le⟩
  obtain ⟨s, r, hc⟩ := h.chan
  have n3 : c ≠ X := by
    rintro rfl
    rw [hx.cells] at hc
    cases hc
  have n4 := hx.row.kind hc (fun cur e => by cases e)
  exact ⟨s, r, (hK.block c h.ltc n3 n4).trans hc⟩
theorem RB.rk (h : RB w Y u sz2 l) (hx : RB w X v sz m) (hK : RK w w2 X v) (h1 : Y ≠ X) (h2 : Far v u) : RB w2 Y u sz2 l := by
  have n1 := hx.row.kind h.cells (fun cur e => by simp at e)
  have n2 := h.row.kind hx.cells (fun cur e => by simp at e)
  exact h.keep (hK.block Y h.lt h1 n1) (fun g e => hK.block g (h.row.lt g e) (fun e2 => n2 (by rw [← e2]; exact e)) (fun e2 => h2 g e2 e))
end
/-- What a call of a document's box leaves: the box, with other texts. -/
def RP (w w2 : World) (X : Nat) (v : Value) (sz : Nat) (l : List ByteArray) : Prop := ∃ v2, RB w2 X v2 sz l ∧ RK w w2 X v ∧ (v2.ownBlock = v.ownBlock ∨ ∀ b, v2.ownBlock = some b → w.heap.size ≤ b)
/-- append at a step of a region that draws its order. -/
theorem step_append_any {P : Program} {w : World} {ops : Array Oper} {o : Oper} {a : Act} {K : Act → World → Prop} {Q : Exit → Act → World → Prop} {E : Prop} (hgd : o.guard = none) (s x : Operand) (t : TypeId)
    (ho : o.op = .call { callee := .builtin .append, args := #[s, x], argTypes := #[t, t] })
    (base : Nat) (e : TypeId) (i : TypeInfo) (z : Value) (size bytes : Nat) (ht : P.underlying t = some (.slice e)) (hi : P.info? e = some i) (hz : i.zero = some z)
    (hsize : i.size = size) (hby : i.bytes = bytes) (hzs : z.cells.size = size) (hsz : 0 < size)
    (v : Value) (n : Nat) (xs : List Value) (hs : a.eval s = v) (hown : w.ownsRow base e size v n xs)
    (ad : Addr) (m c : Nat) (news : List Value) (hx : a.eval x = .slice (some ad) m c) (hl : news.length = m * size) (hnews : ∀ j u, news[j]? = some u → w.cell? (ad.add j) = some u) (h1 : ∀ u ∈ news, u.oneCell' = true)
    (h63 : n + m ≤ maxLen) (hbytes : (n + m) * bytes ≤ 140737488355328) (hbase : base ≤ w.heap.size)
    (h : ∀ v2 w2, w2.ownsRow base e size v2 (n + m) (xs ++ news) → w.grownBy w2 v.ownBlock → (v2.ownBlock = v.ownBlock ∨ v2.ownBlock = some w.heap.size) → K (a.put o.dst v2) w2) :
    if Region.wanted o (yielded ops a.tmps) = true then Oper.wp P o a w K Q else E := by
  have hw : Region.wanted o (yielded ops a.tmps) = true := by simp [Region.wanted, hgd]
  rw [if_pos hw]
  obtain ⟨v2, w2, hr, h2, h3, _, h5⟩ := run_append_own_at (P := P) w base t o.type e i z size bytes ht hi hz hsize hby hzs hsz v n xs hown ad m c news hl hnews h1 h63 hbytes hbase
  unfold Oper.wp execOp
  simp only [ho, resolve, invoke, builtin, Sem.run_bind, Sem.run_pure, Result.andThen_ok, List.map_toArray, List.map_cons, List.map_nil, hs, hx, hr]
  exact h v2 w2 h2 h3 h5
theorem rb_new (w : World) (sz : Nat) : RB (w.alloc (.cells #[.slice none 0 0, .int .i64 sz] 47)) w.heap.size (.slice none 0 0) sz [] := ⟨heap_alloc_new w _, .inl ⟨rfl, rfl⟩⟩
set_option maxHeartbeats 4000000 in
theorem rput_walk {w : World} {X sz : Nat} {v : Value} {l : List ByteArray} (h : RB w X v sz l) (hl : l.length ≤ 100000) (x : ByteArray) :
    Calls Try.prog 12 #[.pointer (some ⟨X, 0, none⟩), .string x] w fun e w' => e = .returned (.int .i64 (putE sz l)) ∧ RP w w' X v sz (putT sz l x) := by
  have c0 := h.c0
  have c1 := h.c1
  have hX := h.lt
  obtain ⟨o, k, rfl⟩ := h.row.form
  by_cases hr : l.length < sz
  · have e1 : putE sz l = 0 := by unfold putE; rw [if_pos hr]
    have e2 : putT sz l x = l ++ [x] := by unfold putT; rw [if_pos hr]
    rw [e1, e2]
    have hr2 : ¬ (sz : Int) ≤ l.length := by omega
    have hal : Below w.heap.size w (w.drew.alloc (.cells #[.string x] 9)) := (Below.refl _ w).drew.alloc (Nat.le_refl _) _
    have h2 := h.below hal
    have c0b := h2.c0
    have arm : ∀ v2 w2, ORow w2 v2 (l ++ [x]) → (w.drew.alloc (.cells #[.string x] 9)).grownBy w2 (Value.slice o l.length k).ownBlock → (v2.ownBlock = (Value.slice o l.length k).ownBlock ∨ ∀ b, v2.ownBlock = some b → (w.drew.alloc (.cells #[.string x] 9)).heap.size ≤ b) →
        w2.cell? ⟨X, 0, none⟩ = some (.slice o l.length k) ∧ w2.frozen? ⟨X, 0, none⟩ = false ∧ RP w (w2.setCell ⟨X, 0, none⟩ v2) X (.slice o l.length k) sz (l ++ [x]) := by
      intro v2 w2 hrow hg hat
      have hb2 : w2.heap[X]? = some (.cells #[.slice o l.length k, .int .i64 sz] 47 (0, 0)) := (hg.block X h2.lt (fun e => h2.apart e.symm)).trans h2.cells
      refine ⟨by simp [World.cell?, hb2], by simp [World.frozen?, hb2], v2, ⟨set_cell9 hb2 0 v2, hrow.of (fun g e => ?_)⟩, ((RK.of_below hal).grown hg).setCell 0 v2, hat.imp id fun f b hb => ?_⟩
      · refine Below.heap_setCell _ _ _ _ (fun e2 => ?_)
        have := hrow.kind hb2 (fun cur e => by simp at e)
        exact this (by rw [show X = g from e2.symm]; exact e)
      · have := f b hb
        simp at this
        omega
    have hrow2 := h2.row
    have hnewB : (w.drew.alloc (.cells #[.string x] 9)).heap[w.heap.size]? = some (.cells #[.string x] 9) := heap_alloc_new w.drew _
    clear e1 e2
    go_enter Try.func12, Try.ntmps12
    go_wp2
    go_region
    go_wp2_with (first
      | (at_builtin; refine wpList_append_orow rfl (.tmp 19) (.tmp 21) rfl (.slice o l.length k) l x w.heap.size rfl rfl hrow2 hnewB hl ?_; intro v2 w2 hrow hg hat
         obtain ⟨d0, d1, hfin⟩ := arm v2 w2 hrow hg hat
         obtain ⟨vo, vc, rfl⟩ := hrow.form
         rw [List.length_append, List.length_singleton] at hfin
         clear hrow hg hat))
    go_returns
    exact ⟨rfl, hfin⟩
  · have e1 : putE sz l = 7 := by unfold putE; rw [if_neg hr]
    have e2 : putT sz l x = l := by unfold putT; rw [if_neg hr]
    rw [e1, e2]
    have hr2 : (sz : Int) ≤ l.length := by omega
    have hfin : RP w w.drew X (.slice o l.length k) sz l := ⟨_, h.drew, .of_below (Below.refl _ w).drew, .inl rfl⟩
    clear e1 e2 h
    go_enter Try.func12, Try.ntmps12
    go_wp2
    go_region
    go_wp2
    go_returns
    exact ⟨rfl, hfin⟩
set_option maxHeartbeats 4000000 in
theorem rfirst_walk {w : World} {X sz : Nat} {v : Value} {l : List ByteArray} (h : RB w X v sz l) :
    Calls Try.prog 16 #[.pointer (some ⟨X, 0, none⟩)] w fun e w' => e = .returned (.tuple #[.string (hd l), .bool (non l)]) ∧ w = w' := by
  have c0 := h.c0
  obtain ⟨o, k, rfl⟩ := h.row.form
  have hrow := h.row.srow
  clear h
  cases l with
  | nil =>
    show Calls Try.prog 16 #[.pointer (some ⟨X, 0, none⟩)] w fun e w' => e = .returned (.tuple #[.string ⟨#[]⟩, .bool false]) ∧ w = w'
    simp only [List.length_nil] at c0
    go_enter Try.func16, Try.ntmps16
    go_wp2
    go_returns
    exact ⟨rfl, rfl⟩
  | cons x l =>
    show Calls Try.prog 16 #[.pointer (some ⟨X, 0, none⟩)] w fun e w' => e = .returned (.tuple #[.string x, .bool true]) ∧ w = w'
    obtain ⟨a, rfl, ha, _⟩ := hrow 0 (by simp)
    replace ha : w.cell? a = some (.string ((x :: l)[0]'(by simp))) := ha
    simp only [List.length_cons, List.getElem_cons_zero] at c0 ha
    have hll : 0 < l.length + 1 := by omega
    go_enter Try.func16, Try.ntmps16
    go_wp2
    go_returns
    exact ⟨rfl, rfl⟩
set_option maxHeartbeats 4000000 in
theorem rtake_walk {w : World} {X sz : Nat} {v : Value} {l : List ByteArray} (h : RB w X v sz l) :
    Calls Try.prog 14 #[.pointer (some ⟨X, 0, none⟩)] w fun e w' => e = .returned (.tuple #[.string (hd l), .bool (non l)]) ∧ RP w w' X v sz l.tail := by
  have hf := rfirst_walk h
  have hX := h.lt
  cases l with
  | nil =>
    replace hf : Calls Try.prog 16 #[.pointer (some ⟨X, 0, none⟩)] w fun e w' => e = .returned (.tuple #[.string ⟨#[]⟩, .bool false]) ∧ w = w' := hf
    show Calls Try.prog 14 #[.pointer (some ⟨X, 0, none⟩)] w fun e w' => e = .returned (.tuple #[.string ⟨#[]⟩, .bool false]) ∧ RP w w' X v sz []
    have hfin : RP w w X v sz [] := ⟨_, h, RK.refl _ _ _, .inl rfl⟩
    clear h
    go_enter Try.func14, Try.ntmps14
    go_wp2_with (first | (go_at_call 16; (with_reducible refine hf.mono ?_); rintro e w2 ⟨rfl, rfl⟩))
    go_returns
    exact ⟨rfl, hfin⟩
  | cons x l =>
    replace hf : Calls Try.prog 16 #[.pointer (some ⟨X, 0, none⟩)] w fun e w' => e = .returned (.tuple #[.string x, .bool true]) ∧ w = w' := hf
    show Calls Try.prog 14 #[.pointer (some ⟨X, 0, none⟩)] w fun e w' => e = .returned (.tuple #[.string x, .bool true]) ∧ RP w w' X v sz l
    rcases h.row with ⟨_, e⟩ | ⟨g, off, k, cur, rfl, hg, hle, hsz, hm, hc⟩
    · cases e
    have c0 := h.c0
    have f0 := h.frozen 0
    have hap := h.apart
    by_cases hk1 : k = 1
    · subst hk1
      have hl0 : l = [] := by
        simp only [List.length_cons] at hle
        exact List.eq_nil_of_length_eq_zero (by omega)
      subst hl0
      have hfin : RP w (w.setCell ⟨X, 0, none⟩ (.slice (some ⟨g, off, none⟩) 0 0)) X (.slice (some ⟨g, off, none⟩) [x].length 1) sz [] :=
        ⟨_, ⟨set_cell9 h.cells 0 _, .inr ⟨g, off, 0, cur, rfl, (Below.heap_setCell _ _ _ _ (fun e => hap (by rw [show X = g from e.symm]; rfl))).trans hg, by simp, by omega, by omega, fun j hj => by simp at hj⟩⟩, (RK.refl _ _ _).setCell 0 _, .inl rfl⟩
      simp only [List.length_cons, List.length_nil] at c0 hfin
      clear hap h
      go_enter Try.func14, Try.ntmps14
      go_wp2_with (first | (go_at_call 16; (with_reducible refine hf.mono ?_); rintro e w2 ⟨rfl, rfl⟩))
      go_returns
      exact ⟨rfl, hfin⟩
    · have hfin : RP w (w.setCell ⟨X, 0, none⟩ (.slice (some ⟨g, off + 1, none⟩) l.length (k - 1))) X (.slice (some ⟨g, off, none⟩) (x :: l).length k) sz l := by
        refine ⟨_, ⟨set_cell9 h.cells 0 _, .inr ⟨g, off + 1, k - 1, cur, rfl, (Below.heap_setCell _ _ _ _ (fun e => hap (by rw [show X = g from e.symm]; rfl))).trans hg, by simp at hle; omega, by simp at hle; omega, by omega, fun j hj => ?_⟩⟩, (RK.refl _ _ _).setCell 0 _, .inl rfl⟩
        have := hc (j + 1) (by simp; omega)
        simpa [Nat.add_assoc, Nat.add_comm 1 j] using this
      simp only [List.length_cons] at c0 hle hfin
      clear hap h
      have k0 : 0 < k := by omega
      have k1 : (1 : Int) ≤ k := by omega
      have k2 : (l.length : Int) + 1 ≤ k := by omega
      have k3 : k - (1 + l.length) + l.length = k - 1 := by omega
      go_enter Try.func14, Try.ntmps14
      go_wp2_with (first | (go_at_call 16; (with_reducible refine hf.mono ?_); rintro e w2 ⟨rfl, rfl⟩))
      go_returns
      exact ⟨rfl, hfin⟩
set_option maxHeartbeats 4000000 in
theorem rall_walk {w : World} {X sz : Nat} {v : Value} {l : List ByteArray} (h : RB w X v sz l) :
    Calls Try.prog 19 #[.pointer (some ⟨X, 0, none⟩)] w fun e w' => ∃ o k, e = .returned (.slice o l.length k) ∧ SRow w' o l ∧ RB w' X (.slice none 0 0) sz [] ∧ MKeeps w w' X := by
  have hap := h.apart
  obtain ⟨o, k, rfl⟩ := h.row.form
  have c0 := h.c0
  have f0 := h.frozen 0
  have hrow2 : ORow (w.setCell ⟨X, 0, none⟩ (.slice none 0 0)) (.slice o l.length k) l := h.row.of (fun g e => Below.heap_setCell _ _ _ _ (fun e2 => hap (by rw [show X = g from e2.symm]; exact e)))
  have hfin : SRow (w.setCell ⟨X, 0, none⟩ (.slice none 0 0)) o l ∧ RB (w.setCell ⟨X, 0, none⟩ (.slice none 0 0)) X (.slice none 0 0) sz [] ∧ MKeeps w (w.setCell ⟨X, 0, none⟩ (.slice none 0 0)) X :=
    ⟨hrow2.srow, ⟨set_cell9 h.cells 0 _, .inl ⟨rfl, rfl⟩⟩, rfl, rfl, rfl, by simp [World.setCell], fun b _ hb2 => Below.heap_setCell _ _ _ _ hb2⟩
  clear h hap hrow2
  go_enter Try.func19, Try.ntmps19
  go_wp2
  go_returns
  exact ⟨o, k, rfl, hfin⟩
set_option maxHeartbeats 8000000 in
theorem rcopy_walk {w : World} {X sz : Nat} {v : Value} {l : List ByteArray} (h : RB w X v sz l) (hl : l.length ≤ 100000) :
    Calls Try.prog 21 #[.pointer (some ⟨X, 0, none⟩)] w fun e w' => ∃ C U, e = .returned (.pointer (some ⟨C, 0, none⟩)) ∧ RB w' C U sz l ∧ Below w.heap.size w w' ∧ w.heap.size ≤ C ∧ (∀ b, U.ownBlock = some b → w.heap.size ≤ b) := by
  have c0 : w.cell? ⟨X, 0, none⟩ = some v := h.c0
  have c1 := h.c1
  have hX := h.lt
  have hdr := h.drew
  rcases h.row with ⟨rfl, rfl⟩ | ⟨g, off, k, cur, rfl, hg, hle, hsz, hm, hc⟩
  · clear hdr
    go_enter Try.func21, Try.ntmps21
    go_wp2
    go_region
    have hres2 : ∃ C U, Ending.returned (.pointer (some ⟨w.heap.size + 1, 0, none⟩)) = Ending.returned (.pointer (some ⟨C, 0, none⟩)) ∧ RB ((w.alloc (.cells #[] 9)).alloc (.cells #[.slice (some ⟨w.heap.size, 0, none⟩) 0 0, .int .i64 sz] 47)).drew C U sz [] ∧ Below w.heap.size w ((w.alloc (.cells #[] 9)).alloc (.cells #[.slice (some ⟨w.heap.size, 0, none⟩) 0 0, .int .i64 sz] 47)).drew ∧ w.heap.size ≤ C ∧ (∀ b, U.ownBlock = some b → w.heap.size ≤ b) := by
      refine ⟨w.heap.size + 1, .slice (some ⟨w.heap.size, 0, none⟩) 0 0, rfl, ⟨?_, .inr ⟨w.heap.size, 0, 0, #[], rfl, ?_, by simp, by simp, by simp [maxLen], by simp⟩⟩, (((Below.refl w.heap.size w).alloc (Nat.le_refl _) _).alloc (by simp) _).drew, by omega, fun b e => by simp [Value.ownBlock] at e; omega⟩
      · have := heap_alloc_new (w.alloc (.cells #[] 9)) (.cells #[.slice (some ⟨w.heap.size, 0, none⟩) 0 0, .int .i64 sz] 47)
        show ((w.alloc (.cells #[] 9)).alloc (.cells #[.slice (some ⟨w.heap.size, 0, none⟩) 0 0, .int .i64 sz] 47)).heap[w.heap.size + 1]? = _
        simpa using this
      · exact (Below.heap_alloc (w.alloc (.cells #[] 9)) _ w.heap.size (by simp)).trans (heap_alloc_new w _)
    clear h
    go_wp2
    go_returns
    exact hres2
  · obtain ⟨i0, hi9, hz9⟩ := Option.map_eq_some_iff.1 info9
    simp only [Prod.mk.injEq] at hz9
    obtain ⟨hz0, hz1, hz2⟩ := hz9
    have hgl : g < w.heap.size := (Array.getElem?_eq_some_iff.1 hg).1
    have hnew : ∀ (j : Nat) (u : Value), (l.map Value.string)[j]? = some u → (w.drew.alloc (.cells #[] 9)).cell? ((⟨g, off, none⟩ : Addr).add j) = some u := fun j u hu => by
      obtain ⟨hjl, rfl⟩ := List.getElem?_eq_some_iff.1 hu
      have hg2 : (w.drew.alloc (.cells #[] 9)).heap[g]? = some (.cells cur 9 (0, 0)) := (Below.heap_alloc _ _ _ hgl).trans hg
      rw [Addr.add_lit, cell_in hg2, hc j (by simpa using hjl)]
      simp
    have hown0 := World.ownsRow_lit (base := 0) (e := 9) (size := 1) w.drew #[] 0 (Nat.zero_le _) (by decide) rfl
    have hone := strs_one l
    have hlr : (l.map Value.string).length = l.length * 1 := by simp
    go_enter Try.func21, Try.ntmps21
    go_wp2
    go_region_held3 (fun W => W.cell? ⟨X, 0, none⟩ = some (.slice (some ⟨g, off, none⟩) l.length k) ∧ W.cell? ⟨X, 1, none⟩ = some (.int .i64 sz)) (first | exact ⟨c0, c1⟩ | go_keep | exact ⟨d0, d1⟩) (first
      | (refine step_append_any rfl (.tmp 3) (.tmp 7) 36 rfl 0 9 i0 (.string ⟨#[]⟩) 1 16 Try.underlying36 hi9 hz0 hz1 hz2 rfl (by decide) (.slice (some ⟨w.heap.size, 0, none⟩) 0 0) 0 [] rfl hown0 ⟨g, off, none⟩ l.length k (l.map Value.string) rfl hlr hnew hone (by simp only [maxLen]; omega) (by omega) (Nat.zero_le _) ?_; intro v w5 hown hgr hat; obtain ⟨vo, vc, rfl⟩ := own_form hown; simp only [Nat.zero_add, List.nil_append] at hown hat
         have hbel : Below w.heap.size w w5 := ((Below.refl w.heap.size w).drew.alloc (Nat.le_refl _) (.cells #[] 9)).grown (row := some w.heap.size) hgr (by simp) (by intro k hk; simp at hk; omega)
         have d0 := (hbel.cell (p := ⟨X, 0, none⟩) hX).trans c0
         have d1 := (hbel.cell (p := ⟨X, 1, none⟩) hX).trans c1))
    have hU : ∀ b, (Value.slice vo l.length vc).ownBlock = some b → w.heap.size ≤ b ∧ b < w5.heap.size := by
      intro b hb2
      refine ⟨?_, (hown.lt b hb2).2⟩
      rcases hat with e | e
      · rw [e] at hb2
        simp [Value.ownBlock] at hb2
        omega
      · rw [e] at hb2
        simp at hb2
        omega
    have hsz5 := hbel.size
    have hres2 : ∃ C U, Ending.returned (.pointer (some ⟨w5.heap.size, 0, none⟩)) = Ending.returned (.pointer (some ⟨C, 0, none⟩)) ∧ RB (w5.alloc (.cells #[.slice vo l.length vc, .int .i64 sz] 47)) C U sz l ∧ Below w.heap.size w (w5.alloc (.cells #[.slice vo l.length vc, .int .i64 sz] 47)) ∧ w.heap.size ≤ C ∧ (∀ b, U.ownBlock = some b → w.heap.size ≤ b) :=
      ⟨_, _, rfl, ⟨heap_alloc_new w5 _, ORow.own (hown.alloc _)⟩, hbel.alloc hsz5 _, hsz5, fun b e => (hU b e).1⟩
    clear hU hown hgr hat d0 d1 hbel h hdr hnew hown0 hone hlr
    go_wp2
    go_returns
    exact hres2
end Go.Proofs.Ytgomnnddfddkhaa.ML
