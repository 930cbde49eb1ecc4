import Derived.Test.YtkiepnmbimkadaaKRecovers3
namespace Go.Proofs.Ytkiepnmbimkadaa.DK
open Go.RowKit Go.Proofs.Ytkiepnmbimkadaa
def stays : List Wr → Nat → Four → Four
  | [], _, r => r
  | x :: l, left, r => if x.whole = true ∧ min left x.units < x.units then r else stays l (left - min left x.units) (x.act r (min left x.units))
set_option maxHeartbeats 2000000 in
theorem whole_walk (x : Wr) (w : World) : Calls Try.prog 41 #[x.val] w fun e w' => e = .returned (.bool x.whole) ∧ w' = w := by
  rcases wr_units x with ⟨e, hx⟩ | ⟨e, hx⟩
  · rw [e, hx]
    have h1 : ∀ w : World, (Instr.typeAssert (.iface 81 (.agg #[.int .i64 x.file, .string x.s])) 73 86 true).run Try.prog w = .ok (.tuple #[.agg #[.int .i64 0, .string ⟨#[]⟩], .bool false]) w := fun _ => by kernel_rfl
    have h2 : ∀ w : World, (Instr.typeAssert (.iface 81 (.agg #[.int .i64 x.file, .string x.s])) 73 81 true).run Try.prog w = .ok (.tuple #[.agg #[.int .i64 x.file, .string x.s], .bool true]) w := fun _ => by kernel_rfl
    go_enter Try.func41, Try.ntmps41
    go_wp2
    go_returns
    exact ⟨rfl, rfl⟩
  · rw [e, hx]
    have h1 : ∀ w : World, (Instr.typeAssert (.iface 86 (.agg #[.int .i64 x.file, .string x.s])) 73 86 true).run Try.prog w = .ok (.tuple #[.agg #[.int .i64 x.file, .string x.s], .bool true]) w := fun _ => by kernel_rfl
    go_enter Try.func41, Try.ntmps41
    go_wp2
    go_returns
    exact ⟨rfl, rfl⟩
structure Fine (n k : Four) (l : List Wr) : Prop where
  now : ∀ i, (n.at i).size ≤ 65536
  kept : ∀ i, (k.at i).size ≤ 65536
  len : l.length ≤ 1000
  ok : ∀ x ∈ l, x.ok
theorem at_to (r : Four) (i : Int) (s : ByteArray) (j : Int) : (r.to i s).at j = if 0 ≤ i ∧ i < 4 ∧ i = j then s else r.at j := by
  by_cases h : 0 ≤ i ∧ i < 4
  · rcases at_cases h.1 h.2 with rfl | rfl | rfl | rfl <;> (unfold Four.to Four.at; simp; repeat' split) <;> first | rfl | omega
  · have hr : r.to i s = r := by
      unfold Four.to
      rw [if_neg (by omega), if_neg (by omega), if_neg (by omega), if_neg (by omega)]
    rw [hr, if_neg (by omega)]
theorem act_size (x : Wr) (hx : x.ok) (r : Four) (m : Nat) {b : Nat} (hb : ∀ i, (r.at i).size ≤ b) (hb2 : 65536 ≤ b) (i : Int) : ((x.act r m).at i).size ≤ b + 65536 := by
  have h1 := hb i
  have h2 := hx.2.2
  unfold Wr.act
  split
  · split
    · rw [at_to]; split <;> omega
    · omega
  · rw [at_to]
    split
    · rename_i h
      have h3 := hb x.file
      simp only [ByteArray.size_append, ByteArray.size_extract]
      omega
    · omega
theorem unitsOf_le : ∀ l : List Wr, (∀ x ∈ l, x.ok) → unitsOf l ≤ 65536 * l.length
  | [], _ => by simp [unitsOf]
  | x :: l, h => by
    have h1 := unitsOf_le l (fun y hy => h y (by simp [hy]))
    have h2 := (h x (by simp)).2.2
    have h3 : x.units ≤ 65536 := by unfold Wr.units; split <;> omega
    simp only [unitsOf, List.length_cons]
    omega
end Go.Proofs.Ytkiepnmbimkadaa.DK
