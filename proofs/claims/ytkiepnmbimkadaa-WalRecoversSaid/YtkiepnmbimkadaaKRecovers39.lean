import Derived.Maps.AppendAt
import Derived.Test.YtkiepnmbimkadaaKRecovers38
namespace Go.Proofs.Ytkiepnmbimkadaa.WL
open Go.RowKit Go.Proofs.Ytkiepnmbimkadaa Go.Proofs.Ytkiepnmbimkadaa.DK Go.Proofs.Ytkiepnmbimkadaa.Pr Go.Proofs.Ytkiepnmbimkadaa.VP Go.Proofs.Ytkiepnmbimkadaa.VF Go.Proofs.Ytkiepnmbimkadaa.CF Go.Proofs.Ytkiepnmbimkadaa.WF Go.Proofs.Ytkiepnmbimkadaa.ML
attribute [local go_sem] max2_int min2_int max_two min_two
def opCells (o : OpM) : List Value := [.int .i64 o.kind, .string o.s, .int .i64 o.n]
def opsCells : List OpM → List Value
  | [] => []
  | o :: l => opCells o ++ opsCells l
theorem opsCells_append : ∀ l m : List OpM, opsCells (l ++ m) = opsCells l ++ opsCells m
  | [], _ => rfl
  | o :: l, m => by
    show opCells o ++ opsCells (l ++ m) = opCells o ++ opsCells l ++ opsCells m
    rw [opsCells_append l m, List.append_assoc]
theorem opsCells_at : ∀ (l : List OpM) (j : Nat) (hj : j < l.length) (c : Nat), c < 3 → (opsCells l)[j * 3 + c]? = (opCells (l[j]'hj))[c]?
  | [], j, hj, _, _ => absurd hj (by simp)
  | o :: l, 0, _, c, hc => by
    show (opCells o ++ opsCells l)[0 * 3 + c]? = _
    rw [List.getElem?_append_left (by show 0 * 3 + c < 3; omega), show 0 * 3 + c = c by omega]
    rfl
  | o :: l, j + 1, hj, c, hc => by
    show (opCells o ++ opsCells l)[(j + 1) * 3 + c]? = _
    rw [List.getElem?_append_right (by show 3 ≤ (j + 1) * 3 + c; omega)]
    have e : (j + 1) * 3 + c - (opCells o).length = j * 3 + c := by
      show (j + 1) * 3 + c - 3 = _
      omega
    rw [e]
    exact opsCells_at l j (by simpa using hj) c hc
structure OpsAt (w : World) (base : Nat) (v : Value) (l : List OpM) : Prop where
  row : w.ownsRow base 34 3 v l.length (opsCells l)
  len : l.length ≤ 40
  small : ∀ o ∈ l, o.s.size ≤ 60
theorem OpsAt.below {w w2 : World} {base : Nat} {v : Value} {l : List OpM} (h : OpsAt w base v l) (hb : ∀ k, v.ownBlock = some k → w2.heap[k]? = w.heap[k]?) : OpsAt w2 base v l := ⟨row_moved h.row hb, h.len, h.small⟩
theorem OpsAt.loads {w : World} {base : Nat} {o : Option Addr} {n c : Nat} {l : List OpM} (h : OpsAt w base (.slice o n c) l) {i : Nat} (hi : i < l.length) : ∃ g, o = some ⟨g, 0, none⟩ ∧ n = l.length ∧ n ≤ c ∧ c ≤ maxLen ∧
    (w.cell? ⟨g, i * 3, none⟩ = some (.int .i64 (l[i]'hi).kind) ∧ w.cell? ⟨g, i * 3 + 1, none⟩ = some (.string (l[i]'hi).s) ∧ w.cell? ⟨g, i * 3 + 2, none⟩ = some (.int .i64 (l[i]'hi).n)) := by
  rcases h.row.2 with ⟨_, h0⟩ | ⟨g, cap, cur, e, _, hg, hc, hm, _⟩
  · omega
  · injection e with e1 e2 e3
    subst e1 e2 e3
    refine ⟨g, rfl, rfl, hc, hm, ?_, ?_, ?_⟩
    · exact (h.row.cellAt (i * 3) (by omega)).trans (opsCells_at l i hi 0 (by omega))
    · exact (h.row.cellAt (i * 3 + 1) (by omega)).trans (opsCells_at l i hi 1 (by omega))
    · exact (h.row.cellAt (i * 3 + 2) (by omega)).trans (opsCells_at l i hi 2 (by omega))
theorem OpsAt.num {w : World} {base n c : Nat} {o : Option Addr} {l : List OpM} (h : OpsAt w base (.slice o n c) l) : n = l.length := by
  rcases h.row.2 with ⟨e, h0⟩ | ⟨g, cap, cur, e, _⟩
  · injection e with _ e2 _
    omega
  · injection e with _ e2 _
theorem OpsAt.three {w : World} {base g n c : Nat} {l : List OpM} (h : OpsAt w base (.slice (some ⟨g, 0, none⟩) n c) l) {i : Nat} {hi : i < l.length} {kd nn : Int} {x : ByteArray} (ho : Hid (l[i]'hi = ⟨kd, x, nn⟩)) :
    w.cell? ⟨g, i * 3, none⟩ = some (.int .i64 kd) ∧ w.cell? ⟨g, i * 3 + 1, none⟩ = some (.string x) ∧ w.cell? ⟨g, i * 3 + 2, none⟩ = some (.int .i64 nn) := by
  obtain ⟨g2, e, _, _, _, d0, d1, d2⟩ := h.loads hi
  cases e
  rw [ho.out] at d0 d1 d2
  exact ⟨d0, d1, d2⟩
theorem infoO : (Try.prog.info? 34).map (fun i => (i.zero, i.size, i.bytes)) = some (some (.agg #[.int .i64 0, .string ⟨#[]⟩, .int .i64 0]), 3, 32) := by kernel_rfl
theorem underO : Try.prog.underlying 22 = some (.slice 34) := by kernel_rfl
theorem cut60 (s : ByteArray) : ∃ j : Int, (if 60 < (s.size : Int) then 60 else (s.size : Int)) = j ∧ 0 ≤ j ∧ j ≤ s.size ∧ j ≤ 60 := ⟨_, rfl, by split <;> omega, by split <;> omega, by split <;> omega⟩
set_option maxHeartbeats 4000000 in
set_option maxRecDepth 100000 in
theorem cut_walk (a : Option Addr) (len cap : Nat) (z : Nat → OpM) (w : World) (w0 : IsOps w a len z) : Calls Try.prog 8 #[.slice a len cap] w fun e w2 => ∃ o n c l, e = .returned (.slice o n c) ∧ OpsAt w2 w.heap.size (.slice o n c) l ∧ Below w.heap.size w w2 := by
  obtain ⟨i0, hi54, hz54⟩ := Option.map_eq_some_iff.1 infoO
  simp only [Prod.mk.injEq] at hz54
  obtain ⟨hz0, hz1, hz2⟩ := hz54
  go_enter Try.func8, Try.ntmps8
  go_wp2
  go_loopw [3, 4] (fun v3 v4 wr => ∃ (i : Nat) (o : Option Addr) (n c : Nat) (l : List OpM), v4 = .int .i64 i ∧ i ≤ len ∧ i ≤ 40 ∧ v3 = .slice o n c ∧ wr.ownsRow w.heap.size 34 3 (.slice o n c) l.length (opsCells l) ∧ l.length = i ∧ (∀ o ∈ l, o.s.size ≤ 60) ∧ Below w.heap.size w wr) (fun _ i _ => 40 - (intOf i).toNat)
  case atStart => exact ⟨0, _, _, _, [], rfl, Nat.zero_le _, Nat.zero_le _, rfl, World.ownsRow_lit (base := w.heap.size) (e := 34) (size := 3) w #[] 0 (Nat.le_refl _) (by decide) rfl, rfl, (fun o ho => by simp at ho), (Below.refl _ _).alloc (Nat.le_refl _) _⟩
  case round =>
    obtain ⟨i, o, n, c, l, rfl, hi, hi2, rfl, hown, hlen, hsm, hb⟩ := hrel
    by_cases hgo : i < len ∧ i < 40
    · obtain ⟨hlt, hlt2⟩ := hgo
      obtain ⟨x, rfl⟩ : ∃ x, a = some x := by
        rcases w0 with h | ⟨x, hx, _⟩
        · omega
        · exact ⟨x, hx⟩
      obtain ⟨⟨c0, c1, c2⟩, d1, d2⟩ := IsOps.loads w0 hlt (Nat.le_refl _) hb
      obtain ⟨op, hop⟩ : ∃ op, z i = op := ⟨_, rfl⟩
      obtain ⟨kd, s, nn⟩ := op
      rw [hop] at c0 c1 c2 d1 d2
      simp only at c0 c1 c2 d1 d2
      clear hop w0
      obtain ⟨j, hj, hj0, hj1, hj2⟩ := cut60 s
      have hsz := hb.size
      have HS := Lib.hid hsm
      have HL := Lib.hid hlen
      have hlen2 : l.length ≤ 40 := by omega
      have hcut : (s.extract 0 j.toNat).size ≤ 60 := by rw [ByteArray.size_extract]; omega
      generalize hS : s.extract 0 j.toNat = S at *
      clear hsm hlen
      go_wp2_with (first
        | (at_builtin; refine wpList_append_own_at _ rfl (.tmp 29) (.tmp 31) 22 rfl w.heap.size 34 i0 (.agg #[.int .i64 0, .string ⟨#[]⟩, .int .i64 0]) 3 32 underO hi54 hz0 hz1 hz2 rfl (by decide) (.slice o n c) l.length (opsCells l) rfl ((hown.alloc _).alloc _) ⟨wr.heap.size + 1, 0, none⟩ 1 1 [.int .i64 kd, .string S, .int .i64 nn] rfl rfl (World.news_of_block (cs := #[.int .i64 kd, .string S, .int .i64 nn]) (t := 34) (fr := (0, 0)) (heap_alloc2_new wr _ _)) (by simp [Value.oneCell']) (by simp only [maxLen]; omega) (by omega) (by simp; omega) ?_
           intro v w5 hown5 hg _ hat
           obtain ⟨vg, vcap, rfl, _⟩ := hown5.form (by omega)))
      go_roundw
      case rel =>
        have hb5 : Below w.heap.size w w5 := ((hb.alloc hb.size _).alloc (by simp; omega) _).grown hg (by simp; omega) (fun k e => (hown.lt k e).1)
        refine ⟨i + 1, _, _, _, l ++ [⟨kd, S, nn⟩], by go_num, by omega, by omega, rfl, ?_, by rw [List.length_append, HL.out]; rfl, ?_, hb5⟩
        · rw [List.length_append, opsCells_append]
          exact hown5
        · intro y hy
          rcases List.mem_append.1 hy with hy | hy
          · exact HS.out y hy
          · simp at hy
            subst hy
            exact hcut
      case measure => simp [intOf]; omega
    · have hx : i < len ∧ ¬ i < 40 ∨ ¬ i < len := by
        by_cases h : i < len
        · exact .inl ⟨h, fun g => hgo ⟨h, g⟩⟩
        · exact .inr h
      have HF : Hid (OpsAt wr w.heap.size (.slice o n c) l) := Lib.hid ⟨hown, by omega, hsm⟩
      clear hgo hown hsm hlen w0
      rcases hx with ⟨hlt, hlt2⟩ | hlt
      all_goals
        go_wp2
        go_returns
        exact ⟨o, n, c, l, rfl, HF.out, hb⟩
end Go.Proofs.Ytkiepnmbimkadaa.WL
