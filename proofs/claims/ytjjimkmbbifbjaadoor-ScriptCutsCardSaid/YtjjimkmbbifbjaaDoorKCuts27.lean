import Derived.Test.YtjjimkmbbifbjaaDoorKCuts26
namespace Go.Proofs.YtjjimkmbbifbjaaDoor.SP
open Go Go.RowKit Go.Shelf Go.Maps Go.Proofs.YtjjimkmbbifbjaaDoor Go.Proofs.YtjjimkmbbifbjaaDoor.SW Go.Proofs.YtjjimkmbbifbjaaDoor.VP Go.Proofs.YtjjimkmbbifbjaaDoor.VF Go.Proofs.YtjjimkmbbifbjaaDoor.TP Go.Proofs.YtjjimkmbbifbjaaDoor.Pv Go.Proofs.YtjjimkmbbifbjaaDoorW.PrintWords
structure A8 where
 k : Int
 n : Int
 N : Int
 K : Int
 s : ByteArray
 t : ByteArray
 b : Bool
 T : Int
def A8.right (x : A8) : Bool := rightA x.k x.n x.N x.K x.s x.t x.b x.T
def showA (h : Int) (out : ByteArray) (x : A8) : ByteArray :=
 addM h 64 (addM h 32 (addM h 16 (addM h 8 (addM h 4 (addM h 2 (addM h 1 (out ++ nameS x.k) (itS x.n)) (itS x.N)) (itS x.K)) (itS x.T)) (onS x.b)) x.s) (itS x.t.size) ++ (⟨#[10]⟩ : ByteArray)
def show1 (out : ByteArray) (x : A8) : ByteArray := if x.right = true then showA (hasB x.k) out x else out
def showL (l : List A8) : ByteArray := l.foldl show1 ⟨#[]⟩
def ARow (w : World) (o : Option Addr) (l : List A8) : Prop := ∀ j (h : j < l.length), ∃ a, o = some a ∧ a.block < w.heap.size ∧ w.cell? (a.add (j * 8)) = some (.int .i64 (l[j]'h).k) ∧ w.cell? (a.add (j * 8 + 1)) = some (.int .i64 (l[j]'h).n) ∧ w.cell? (a.add (j * 8 + 2)) = some (.int .i64 (l[j]'h).N) ∧ w.cell? (a.add (j * 8 + 3)) = some (.int .i64 (l[j]'h).K) ∧ w.cell? (a.add (j * 8 + 4)) = some (.string (l[j]'h).s) ∧ w.cell? (a.add (j * 8 + 5)) = some (.string (l[j]'h).t) ∧ w.cell? (a.add (j * 8 + 6)) = some (.bool (l[j]'h).b) ∧ w.cell? (a.add (j * 8 + 7)) = some (.int .i64 (l[j]'h).T)
section
variable {w : World} {o : Option Addr} {l : List A8}
theorem cell_nx (w : World) (E : Addr) (j : Nat) : w.cell? (E.add (j + 1)) = w.cell? ⟨E.block, E.off + (j + 1), none⟩ := by rw [Addr.add_succ']
theorem ARow.cells (h : ARow w o l) {W : World} (hb : Below w.heap.size w W) {j : Nat} (hj : j < l.length) : ∃ a, o = some a ∧ W.cell? (a.add (j * 8)) = some (.int .i64 (l[j]'hj).k) ∧ W.cell? ⟨(a.add (j * 8)).block, (a.add (j * 8)).off + 1, none⟩ = some (.int .i64 (l[j]'hj).n) ∧ W.cell? ⟨(a.add (j * 8)).block, (a.add (j * 8)).off + 2, none⟩ = some (.int .i64 (l[j]'hj).N) ∧ W.cell? ⟨(a.add (j * 8)).block, (a.add (j * 8)).off + 3, none⟩ = some (.int .i64 (l[j]'hj).K) ∧ W.cell? ⟨(a.add (j * 8)).block, (a.add (j * 8)).off + 4, none⟩ = some (.string (l[j]'hj).s) ∧ W.cell? ⟨(a.add (j * 8)).block, (a.add (j * 8)).off + 5, none⟩ = some (.string (l[j]'hj).t) ∧ W.cell? ⟨(a.add (j * 8)).block, (a.add (j * 8)).off + 6, none⟩ = some (.bool (l[j]'hj).b) ∧ W.cell? ⟨(a.add (j * 8)).block, (a.add (j * 8)).off + 7, none⟩ = some (.int .i64 (l[j]'hj).T) := by
 obtain ⟨a, e, hA, d0, d1, d2, d3, d4, d5, d6, d7⟩ := h j hj
 have bl : ∀ m, (a.add m).block = a.block := fun m => by unfold Addr.add; split <;> rfl
 have c : ∀ m (v : Value), w.cell? (a.add m) = some v → W.cell? (a.add m) = some v := fun m v hv => (hb.cell (by rw [bl]; exact hA)).trans hv
 have n1 : ∀ m (v : Value), w.cell? (a.add (j * 8 + (m + 1))) = some v → W.cell? ⟨(a.add (j * 8)).block, (a.add (j * 8)).off + (m + 1), none⟩ = some v := fun m v hv => by
  rw [← cell_nx, Addr.add_add]
  exact c _ _ hv
 exact ⟨a, e, c _ _ d0, n1 0 _ d1, n1 1 _ d2, n1 2 _ d3, n1 3 _ d4, n1 4 _ d5, n1 5 _ d6, n1 6 _ d7⟩
end
structure SH (w W : World) (G BK : Nat) (x : A8) (h : Int) (out : ByteArray) : Prop where
 a : AC W G x.k x.n x.N x.K x.s x.t x.b x.T
 o : Boxed W w.heap.size 9 (.string out)
 k : Boxed W BK 3 (.int .i64 h)
 b : Below w.heap.size w W
 g : G ≠ w.heap.size
 n : BK ≠ w.heap.size
theorem boxed_below {W W2 : World} {B : Nat} {t : TypeId} {v : Value} (h : Boxed W B t v) (hb : Below W.heap.size W W2) : Boxed W2 B t v := (hb.block _ h.lt).trans h
theorem boxed_grown {W W2 : World} {B : Nat} {t : TypeId} {v : Value} {row : Option Nat} (h : Boxed W B t v) (hg : W.grownBy W2 row) (hr : some B ≠ row) : Boxed W2 B t v := (hg.block _ h.lt hr).trans h
section
variable {w W W2 : World} {G BK : Nat} {x : A8} {h : Int} {out out2 : ByteArray}
theorem SH.below (s : SH w W G BK x h out) (hb : Below W.heap.size W W2) : SH w W2 G BK x h out :=
 ⟨s.a.below hb, boxed_below s.o hb, boxed_below s.k hb, s.b.trans (hb.mono s.b.size), s.g, s.n⟩
theorem SH.drew (s : SH w W G BK x h out) : SH w W.drew G BK x h out := ⟨s.a, s.o, s.k, s.b.drew, s.g, s.n⟩
theorem SH.grown (s : SH w W G BK x h out) (hg : W.grownBy W2 (some w.heap.size)) (ho : Boxed W2 w.heap.size 9 (.string out2)) : SH w W2 G BK x h out2 :=
 ⟨s.a.grown hg (fun e => s.g (Option.some.inj e)), ho, boxed_grown s.k hg (fun e => s.n (Option.some.inj e)), s.b.grown hg s.b.size (fun k hk => by cases hk; exact Nat.le_refl _), s.g, s.n⟩
theorem SH.set (s : SH w W G BK x h out) (u : ByteArray) : SH w (W.setCell ⟨w.heap.size, 0, none⟩ (.string u)) G BK x h u :=
 s.grown (grownBy_set _ _ _ _) (s.o.set _)
end
theorem SH.other1 {w W W2 : World} {G BK : Nat} {x : A8} {h : Int} {out : ByteArray} {r : Nat} (s : SH w W G BK x h out) (hg : W.grownBy W2 (some r)) (hr : G ≠ r ∧ BK ≠ r ∧ w.heap.size < r) : SH w W2 G BK x h out :=
 ⟨s.a.grown hg (fun e => hr.1 (Option.some.inj e)), boxed_grown s.o hg (fun e => by cases e; omega), boxed_grown s.k hg (fun e => hr.2.1 (Option.some.inj e)), s.b.grown hg s.b.size (fun k hk => by cases hk; omega), s.g, s.n⟩
def accA (h : Int) (out : ByteArray) (x : A8) : Nat → ByteArray
 | 0 => out
 | 1 => addM h 1 out (itS x.n)
 | 2 => addM h 2 (addM h 1 out (itS x.n)) (itS x.N)
 | 3 => addM h 4 (addM h 2 (addM h 1 out (itS x.n)) (itS x.N)) (itS x.K)
 | _ => addM h 8 (addM h 4 (addM h 2 (addM h 1 out (itS x.n)) (itS x.N)) (itS x.K)) (itS x.T)
theorem addM_size (h m : Int) (out s : ByteArray) : (addM h m out s).size ≤ out.size + 1 + s.size := by
 unfold addM
 split
 ·rw [ByteArray.size_append, ByteArray.size_append, sz1]; omega
 ·omega
theorem accA_size (h : Int) (out : ByteArray) (x : A8) (h0 : (itS x.n).size ≤ 21) (h1 : (itS x.N).size ≤ 21) (h2 : (itS x.K).size ≤ 21) (h3 : (itS x.T).size ≤ 21) : ∀ j, (accA h out x j).size ≤ out.size + 88 := by
 have a1 := addM_size h 1 out (itS x.n)
 have a2 := addM_size h 2 (addM h 1 out (itS x.n)) (itS x.N)
 have a3 := addM_size h 4 (addM h 2 (addM h 1 out (itS x.n)) (itS x.N)) (itS x.K)
 have a4 := addM_size h 8 (addM h 4 (addM h 2 (addM h 1 out (itS x.n)) (itS x.N)) (itS x.K)) (itS x.T)
 intro j
 match j with
 | 0 => show out.size ≤ _; omega
 | 1 => show (addM h 1 out (itS x.n)).size ≤ _; omega
 | 2 => show (addM h 2 (addM h 1 out (itS x.n)) (itS x.N)).size ≤ _; omega
 | 3 => show (addM h 4 (addM h 2 (addM h 1 out (itS x.n)) (itS x.N)) (itS x.K)).size ≤ _; omega
 | j + 4 => show (addM h 8 (addM h 4 (addM h 2 (addM h 1 out (itS x.n)) (itS x.N)) (itS x.K)) (itS x.T)).size ≤ _; omega
theorem names_size (k : Int) : (nameS k).size ≤ 7 := by
 by_cases hk : 0 ≤ k ∧ k < 11
 ·have hk : k = 0 ∨ k = 1 ∨ k = 2 ∨ k = 3 ∨ k = 4 ∨ k = 5 ∨ k = 6 ∨ k = 7 ∨ k = 8 ∨ k = 9 ∨ k = 10 := by omega
  rcases hk with rfl | rfl | rfl | rfl | rfl | rfl | rfl | rfl | rfl | rfl | rfl <;> decide
 ·rw [show nameS k = ⟨#[]⟩ from if_neg hk]; decide
theorem on_size (b : Bool) : (onS b).size ≤ 3 := by cases b <;> decide
theorem show1_size (out : ByteArray) (x : A8) (h : x.s.size ≤ 900000 ∧ x.t.size ≤ 900000) : (show1 out x).size ≤ out.size + 2000000 := by
 unfold show1
 cases hq : x.right with
 | false => rw [if_neg (by decide)]; omega
 | true =>
  rw [if_pos rfl]
  obtain ⟨⟨k0, k1⟩, _, _, ⟨n0, n1⟩, ⟨N0, N1⟩, ⟨K0, K1⟩, ⟨T0, T1⟩, t1⟩ := rightA_all (show rightA x.k x.n x.N x.K x.s x.t x.b x.T = true from hq)
  have z0 := names_size x.k
  have za := accA_size (hasB x.k) (out ++ nameS x.k) x (it_size (n := x.n) (by omega) (by omega)) (it_size (n := x.N) (by omega) (by omega)) (it_size (n := x.K) (by omega) (by omega)) (it_size (n := x.T) (by omega) (by omega)) 4
  have y1 := addM_size (hasB x.k) 16 (accA (hasB x.k) (out ++ nameS x.k) x 4) (onS x.b)
  have y2 := on_size x.b
  have y3 := addM_size (hasB x.k) 32 (addM (hasB x.k) 16 (accA (hasB x.k) (out ++ nameS x.k) x 4) (onS x.b)) x.s
  have y4 := addM_size (hasB x.k) 64 (addM (hasB x.k) 32 (addM (hasB x.k) 16 (accA (hasB x.k) (out ++ nameS x.k) x 4) (onS x.b)) x.s) (itS x.t.size)
  have y5 := it_size (n := (x.t.size : Int)) (by omega) (by omega)
  rw [ByteArray.size_append] at za
  show (addM (hasB x.k) 64 (addM (hasB x.k) 32 (addM (hasB x.k) 16 (accA (hasB x.k) (out ++ nameS x.k) x 4) (onS x.b)) x.s) (itS x.t.size) ++ (⟨#[10]⟩ : ByteArray)).size ≤ _
  rw [ByteArray.size_append, sz1]
  omega
theorem fold_size : ∀ (l : List A8) (out : ByteArray), (∀ x ∈ l, x.s.size ≤ 900000 ∧ x.t.size ≤ 900000) → (l.foldl show1 out).size ≤ out.size + 2000000 * l.length
 | [], _, _ => Nat.le_refl _
 | x :: l, out, h => by
  have h1 := show1_size out x (h x (by simp))
  have h2 := fold_size l (show1 out x) (fun y hy => h y (List.mem_cons_of_mem _ hy))
  rw [List.foldl_cons, List.length_cons]
  omega
theorem showL_size (l : List A8) (hs : ∀ x ∈ l, x.s.size ≤ 900000 ∧ x.t.size ≤ 900000) (i : Nat) : (showL (l.take i)).size ≤ 2000000 * i := by
 have h := fold_size (l.take i) ⟨#[]⟩ (fun x hx => hs x (List.mem_of_mem_take hx))
 have h2 : (l.take i).length ≤ i := by rw [List.length_take]; omega
 have h3 : (⟨#[]⟩ : ByteArray).size = 0 := rfl
 unfold showL
 omega
set_option maxHeartbeats 16000000 in
set_option maxRecDepth 100000 in
theorem show_core {w : World} {o : Option Addr} {l : List A8} (hr : ARow w o l) {n c : Nat} (hn : l.length = n) (hc : n ≤ c) (hl : n ≤ 1000) (hs : ∀ x ∈ l, x.s.size ≤ 900000 ∧ x.t.size ≤ 900000) (P : World → Prop) (hP : ∀ w2, Below w.heap.size w w2 → P w2)
  (hI : ∀ x ∈ l, x.right = true → ∀ n : Int, (n = x.n ∨ n = x.N ∨ n = x.K ∨ n = x.T ∨ n = x.t.size) → 0 ≤ n → n ≤ 1099511627776 → ∀ w2, P w2 → Calls Tryd.prog 49 #[.int .i64 n] w2 fun e w' => e = .returned (.string (itS n)) ∧ Below w2.heap.size w2 w') :
  Calls Tryd.prog 19 #[.slice o n c] w fun e w' => e = .returned (.string (showL l)) ∧ Below w.heap.size w w' := by
 have hu := Tryd.underlying23
 have hu2 := Tryd.underlying24
 have hu3 := Tryd.underlying3
 have hu9 := Tryd.underlying9
 have hmm := @run_makeMap Tryd.prog
 have wm1 : IntKind.i64.wrap 1 = 1 := by decide
 have wm2 : IntKind.i64.wrap 2 = 2 := by decide
 have wm4 : IntKind.i64.wrap 4 = 4 := by decide
 have wm8 : IntKind.i64.wrap 8 = 8 := by decide
 have hj0 := n4_0
 have hj1 := n4_1
 have hj2 := n4_2
 have hj3 := n4_3
 go_enter Tryd.func19, Tryd.ntmps19
 go_wp2
 go_loopw [12] (fun v12 wr => ∃ i : Nat, i ≤ n ∧ v12 = .int .i64 i ∧ Boxed wr w.heap.size 9 (.string (showL (l.take i))) ∧ Below w.heap.size w wr) (fun v12 _ => n - (intOf v12).toNat)
 case atStart => exact ⟨0, by omega, rfl, World.alloc_heap_new w _, (Below.refl _ w).alloc (Nat.le_refl _) _⟩
 case round =>
  obtain ⟨i, hi, rfl, ho, hb⟩ := hrel
  by_cases hin : i < n
  ·obtain ⟨A, rfl, e0, e1, e2, e3, e4, e5, e6, e7⟩ := hr.cells hb (show i < l.length by omega)
   have hx := List.getElem_mem (show i < l.length by omega)
   have htk : l.take (i + 1) = l.take i ++ [l[i]'(by omega)] := by rw [List.take_add_one, List.getElem?_eq_getElem (by omega)]; rfl
   generalize hxe : l[i]'(by omega) = x at *
   have hsh : showL (l.take (i + 1)) = show1 (showL (l.take i)) x := by rw [htk]; unfold showL; rw [List.foldl_append]; rfl
   have hxs := hs x hx
   have hIx := hI x hx
   have hsz : (showL (l.take i)).size ≤ 2000000 * i := showL_size l hs i
   clear htk hxe hx
   generalize showL (l.take i) = out at *
   have xa : AC (wr.alloc (.cells #[.int .i64 x.k, .int .i64 x.n, .int .i64 x.N, .int .i64 x.K, .string x.s, .string x.t, .bool x.b, .int .i64 x.T] 23)) wr.heap.size x.k x.n x.N x.K x.s x.t x.b x.T := AC.new wr x.k x.n x.N x.K x.s x.t x.b x.T
   have ya : Below w.heap.size w (wr.alloc (.cells #[.int .i64 x.k, .int .i64 x.n, .int .i64 x.N, .int .i64 x.K, .string x.s, .string x.t, .bool x.b, .int .i64 x.T] 23)) := hb.alloc hb.size _
   have oa : Boxed (wr.alloc (.cells #[.int .i64 x.k, .int .i64 x.n, .int .i64 x.N, .int .i64 x.K, .string x.s, .string x.t, .bool x.b, .int .i64 x.T] 23)) w.heap.size 9 (.string out) := boxed_below ho ((Below.refl wr.heap.size wr).alloc (Nat.le_refl _) _)
   have hw := fun W => right_walk x.k x.n x.N x.K x.s x.t x.b x.T hxs.1 W
   have lo := ho.lt
   cases hq : x.right with
   | false =>
    rw [show rightA x.k x.n x.N x.K x.s x.t x.b x.T = false from hq] at hw
    have hsh : showL (l.take (i + 1)) = out := hsh.trans (if_neg (by rw [hq]; decide))
    go_wp2_with (go_at_call 11; (with_reducible refine (hw _).mono ?_); rintro e w2 ⟨rfl, b2⟩; have y2 := ya.trans (b2.mono ya.size); have o2 := boxed_below oa b2)
    go_roundw
    case rel => exact ⟨i + 1, by omega, by go_num, by rw [hsh]; exact o2, y2⟩
    case measure => simp [intOf]; omega
   | true =>
    rw [show rightA x.k x.n x.N x.K x.s x.t x.b x.T = true from hq] at hw
    replace hsh : showL (l.take (i + 1)) = showA (hasB x.k) out x := hsh.trans (if_pos hq)
    replace hIx := hIx hq
    obtain ⟨⟨k0, k1⟩, _, _, ⟨n0, n1⟩, ⟨N0, N1⟩, ⟨K0, K1⟩, ⟨T0, T1⟩, t1⟩ := rightA_all (show rightA x.k x.n x.N x.K x.s x.t x.b x.T = true from hq)
    have hh := fun W => has_walk x.k W
    have hnm := fun W => name_walk x.k W
    generalize hasB x.k = h at *
    have z0 := names_size x.k
    have z1 : ¬ 9223372036854775807 < out.size + (nameS x.k).size := by omega
    go_wp2_with (first
     | (go_at_call 11; (with_reducible refine (hw _).mono ?_); rintro e w2 ⟨rfl, b2⟩; have y2 := ya.trans (b2.mono ya.size); have a2 := xa.below b2; have o2 := boxed_below oa b2; have c0 := a2.c0)
     | (go_at_call 27; (with_reducible refine (hh _).mono ?_); rintro e w3 ⟨rfl, b3⟩; have y3 := y2.trans (b3.mono y2.size); have a3 := a2.below b3; have o3 := boxed_below o2 b3))
    have l3 := o3.lt
    have S4 : SH w (w3.alloc (.cells #[.int .i64 h] 3)) wr.heap.size w3.heap.size x h out := ⟨a3.alloc _, boxed_below o3 ((Below.refl w3.heap.size w3).alloc (Nat.le_refl _) _), World.alloc_heap_new w3 _, y3.alloc y3.size _, by omega, by omega⟩
    rename_i KK hKK
    have rest : ∀ W : World, SH w W wr.heap.size w3.heap.size x h (out ++ nameS x.k) → KK ⟨#[.slice (some A) n c, undef, .string ⟨#[]⟩, .pointer (some ⟨w.heap.size, 0, none⟩), undef, .pointer (some ⟨wr.heap.size, 0, none⟩), .pointer (some ⟨w3.heap.size, 0, none⟩), .func (.func 48) #[] #[.pointer (some ⟨w3.heap.size, 0, none⟩), .pointer (some ⟨w.heap.size, 0, none⟩)], u8, u9, .slice (some A) n c, .int .i64 n, .int .i64 i, .bool true, .pointer (some (A.add (i * 8))), .agg #[.int .i64 x.k, .int .i64 x.n, .int .i64 x.N, .int .i64 x.K, .string x.s, .string x.t, .bool x.b, .int .i64 x.T], .agg #[.int .i64 x.k, .int .i64 x.n, .int .i64 x.N, .int .i64 x.K, .string x.s, .string x.t, .bool x.b, .int .i64 x.T], .bool true, .bool false, .pointer (some ⟨wr.heap.size, 0, none⟩), .int .i64 x.k, .int .i64 h, .func (.func 48) #[] #[.pointer (some ⟨w3.heap.size, 0, none⟩), .pointer (some ⟨w.heap.size, 0, none⟩)], .string out, .pointer (some ⟨wr.heap.size, 0, none⟩), .int .i64 x.k, .string (nameS x.k), .string (out ++ nameS x.k), u28, u29, u30, u31, u32, u33, u34, u35, u36, u37, u38, u39, u40, u41, u42, u43, u44, u45, u46, u47, u48, u49, u50, u51, u52, u53, u54, u55, u56, u57, u58, u59, u60, u61, u62, u63, u64, u65, u66, u67, undef], []⟩ W := by
     intro W S6
     generalize wr.heap.size = GG at S6 ⊢
     refine hKK _ _ ?_
     have d0 := S6.a.c0
     have d1 := S6.a.c1
     have d2 := S6.a.c2
     have d3 := S6.a.c3
     have d7 := S6.a.c7
     obtain ⟨out0, hout⟩ : ∃ o, o = out ++ nameS x.k := ⟨_, rfl⟩
     go_wp2
     go_loopw [37] (fun v37 W => ∃ j : Nat, j ≤ 4 ∧ v37 = .int .i64 j ∧ SH w W GG w3.heap.size x h (accA h out0 x j)) (fun v37 _ => 4 - (intOf v37).toNat)
     case atStart => exact ⟨0, by omega, rfl, by rw [hout]; exact S6⟩
     case round =>
      obtain ⟨j, hj, rfl, S7⟩ := hrel
      clear d0 d1 d2 d3 d7 S6
      have zo : out0.size ≤ 2000000007 := by rw [hout, ByteArray.size_append]; omega
      have za := accA_size h out0 x (it_size (n := x.n) (by omega) (by omega)) (it_size (n := x.N) (by omega) (by omega)) (it_size (n := x.K) (by omega) (by omega)) (it_size (n := x.T) (by omega) (by omega))
      by_cases hj4 : j < 4
      ·have S7d := S7.drew
       have T7 := hP _ S7d.b
       have zj := za j
       have hj' : j = 0 ∨ j = 1 ∨ j = 2 ∨ j = 3 := by omega
       clear za
       rcases hj' with rfl | rfl | rfl | rfl
       ·have hit := fun W T => hIx x.n (.inl rfl) (by omega) (by omega) W T
        have zi := it_size (n := x.n) (by omega) (by omega)
        go_wp2_with fail
        go_region_with (first
         | (go_at_call 49; (with_reducible refine (hit _ T7).mono ?_); rintro e w8 ⟨rfl, b8⟩; have S8 := S7d.below b8)
         | (go_at_call 48; (with_reducible refine (add_walk S8.k S8.o 1 (itS x.n) (by omega) (by omega)).mono ?_); rintro e w9 ⟨rfl, o9, g9, s9⟩; have S9 := S8.grown g9 o9))
        all_goals
         go_wp2
         go_roundw
         case rel => exact ⟨1, by omega, rfl, S9⟩
         case measure => simp [intOf]
       ·have hit := fun W T => hIx x.N (.inr (.inl rfl)) (by omega) (by omega) W T
        have zi := it_size (n := x.N) (by omega) (by omega)
        go_wp2_with fail
        go_region_with (first
         | (go_at_call 49; (with_reducible refine (hit _ T7).mono ?_); rintro e w8 ⟨rfl, b8⟩; have S8 := S7d.below b8)
         | (go_at_call 48; (with_reducible refine (add_walk S8.k S8.o 2 (itS x.N) (by omega) (by omega)).mono ?_); rintro e w9 ⟨rfl, o9, g9, s9⟩; have S9 := S8.grown g9 o9))
        all_goals
         go_wp2
         go_roundw
         case rel => exact ⟨2, by omega, rfl, S9⟩
         case measure => simp [intOf]
       ·have hit := fun W T => hIx x.K (.inr (.inr (.inl rfl))) (by omega) (by omega) W T
        have zi := it_size (n := x.K) (by omega) (by omega)
        go_wp2_with fail
        go_region_with (first
         | (go_at_call 49; (with_reducible refine (hit _ T7).mono ?_); rintro e w8 ⟨rfl, b8⟩; have S8 := S7d.below b8)
         | (go_at_call 48; (with_reducible refine (add_walk S8.k S8.o 4 (itS x.K) (by omega) (by omega)).mono ?_); rintro e w9 ⟨rfl, o9, g9, s9⟩; have S9 := S8.grown g9 o9))
        all_goals
         go_wp2
         go_roundw
         case rel => exact ⟨3, by omega, rfl, S9⟩
         case measure => simp [intOf]
       ·have hit := fun W T => hIx x.T (.inr (.inr (.inr (.inl rfl)))) (by omega) (by omega) W T
        have zi := it_size (n := x.T) (by omega) (by omega)
        go_wp2_with fail
        go_region_with (first
         | (go_at_call 49; (with_reducible refine (hit _ T7).mono ?_); rintro e w8 ⟨rfl, b8⟩; have S8 := S7d.below b8)
         | (go_at_call 48; (with_reducible refine (add_walk S8.k S8.o 8 (itS x.T) (by omega) (by omega)).mono ?_); rintro e w9 ⟨rfl, o9, g9, s9⟩; have S9 := S8.grown g9 o9))
        all_goals
         go_wp2
         go_roundw
         case rel => exact ⟨4, by omega, rfl, S9⟩
         case measure => simp [intOf]
      ·obtain rfl : j = 4 := by omega
       have z4 := za 4
       clear za
       obtain ⟨o1, ho1⟩ : ∃ o, o = accA h out0 x 4 := ⟨_, rfl⟩
       rw [← ho1] at S7 z4
       have y1 := addM_size h 16 o1 (onS x.b)
       have y2 := on_size x.b
       obtain ⟨o2, ho2⟩ : ∃ o, o = addM h 16 o1 (onS x.b) := ⟨_, rfl⟩
       rw [← ho2] at y1
       have y3 := addM_size h 32 o2 x.s
       obtain ⟨o3, ho3⟩ : ∃ o, o = addM h 32 o2 x.s := ⟨_, rfl⟩
       rw [← ho3] at y3
       have y4 := addM_size h 64 o3 (itS x.t.size)
       have y5 := it_size (n := (x.t.size : Int)) (by omega) (by omega)
       obtain ⟨o4, ho4⟩ : ∃ o, o = addM h 64 o3 (itS x.t.size) := ⟨_, rfl⟩
       rw [← ho4] at y4
       have hend : showL (l.take (i + 1)) = o4 ++ (⟨#[10]⟩ : ByteArray) := by rw [hsh, ho4, ho3, ho2, ho1, hout]; rfl
       have y6 : ¬ 9223372036854775807 < o4.size + 1 := by omega
       have hit := fun W T => hIx (x.t.size : Int) (.inr (.inr (.inr (.inr rfl)))) (by omega) (by omega) W T
       have hown : (wr.alloc (.map #[] 0)).ownsMap Tryd.prog 4 RS wr.heap.size 0 (.map []) := World.ownsMap_made wr Tryd.prog 4 RS
       have S8 := S7.below ((Below.refl wr.heap.size wr).alloc (Nat.le_refl _) (.map #[] 0))
       have l8 : (wr.alloc (.map #[] 0)).heap.size = wr.heap.size + 1 := by simp
       have hne : GG ≠ wr.heap.size ∧ w3.heap.size ≠ wr.heap.size ∧ w.heap.size < wr.heap.size := ⟨by have := S7.a.lt; omega, by have := S7.k.lt; omega, S7.o.lt⟩
       have d6 := S8.a.c6
       clear hsh hout ho1
       replace ho2 := Lib.hid ho2
       replace ho3 := Lib.hid ho3
       replace ho4 := Lib.hid ho4
       go_wp2_with (first
        | (refine wpList_insert_own _ rfl _ _ _ 59 rfl 4 9 lawB Tryd.underlying59 RS wr.heap.size _ _ rfl hown (by unfold maxLen; omega) (.bool true) (.string ⟨#[111, 110]⟩) (.bool true) ?_ ?_ (keyOf_bool_mk Tryd.underlying4 true) _ [] rfl ?_; rfl; rfl; intro wn hown1 hg1; have S9 := S8.other1 hg1 hne; clear hown; have hown := hown1; clear hown1)
        | (refine wpList_insert_own _ rfl _ _ _ 59 rfl 4 9 lawB Tryd.underlying59 RS wr.heap.size _ _ rfl hown (by unfold maxLen; omega) (.bool false) (.string ⟨#[111, 102, 102]⟩) (.bool false) ?_ ?_ (keyOf_bool_mk Tryd.underlying4 false) _ [] rfl ?_; rfl; rfl; intro wq hown1 hg2; have S10 := S9.other1 hg2 hne; clear hown; have hown := hown1; clear hown1; have f6 := S10.a.c6)
        | (at_lookup; refine wpList_lookup_on rfl _ _ rfl _ _ rfl hown _ rfl ?_)
        | (go_at_call 48; (with_reducible refine (add_walk S10.k S10.o 16 (onS x.b) (by omega) (by omega)).mono ?_); rintro e wa ⟨rfl, oa1, ga1, sa1⟩; have S11 := S10.grown ga1 oa1; rw [← ho2.out] at S11; have f4 := S11.a.c4)
        | (go_at_call 48; (with_reducible refine (add_walk S11.k S11.o 32 x.s hxs.1 (by omega)).mono ?_); rintro e wb ⟨rfl, ob1, gb1, sb1⟩; have S12 := S11.grown gb1 ob1; rw [← ho3.out] at S12; have f5 := S12.a.c5)
        | (go_at_call 49; (with_reducible refine (hit _ (hP _ S12.b)).mono ?_); rintro e wc ⟨rfl, bc⟩; have S13 := S12.below bc)
        | (go_at_call 48; (with_reducible refine (add_walk S13.k S13.o 64 (itS x.t.size) (by omega) (by omega)).mono ?_); rintro e wd ⟨rfl, od1, gd1, sd1⟩; have S14 := S13.grown gd1 od1; rw [← ho4.out] at S14; have fo := S14.o.cell; have ff := S14.o.frozen))
       go_roundw
       case rel => exact ⟨i + 1, by omega, by go_num, by rw [hend]; exact (S14.set _).o, (S14.set _).b⟩
       case measure => simp [intOf]; omega
    have S4d := S4.drew
    have co := S4d.o.cell
    have fo := S4d.o.frozen
    have ck := S4d.a.c0
    go_region_with (go_at_call 17; (with_reducible refine (hnm _).mono ?_); rintro e w5 ⟨rfl, b5⟩; have S5 := S4d.below b5; have co5 := S5.o.cell; have fo5 := S5.o.frozen; have ck5 := S5.a.c0)
    all_goals
     simp only [Exit.then]
     exact rest _ (S5.set _)
  ·obtain rfl : i = n := by omega
   rw [List.take_of_length_le (by omega)] at ho
   have co := ho.cell
   go_wp2
   go_returns
   exact ⟨rfl, hb⟩
end Go.Proofs.YtjjimkmbbifbjaaDoor.SP
