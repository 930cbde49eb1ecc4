import Derived.WalkKit
import Derived.Test.YtjjimkmbbifbjaaDoorKCuts7
namespace Go.Proofs.YtjjimkmbbifbjaaDoor.SW
open Go Go.RowKit Go.Proofs.YtjjimkmbbifbjaaDoor
section
variable {w : World} {G O : Nat} {k n N K : Int} {s t : ByteArray} {b : Bool} {T k' n' N' K' : Int} {s' t' : ByteArray} {b' : Bool} {T' : Int}
set_option maxRecDepth 100000 in
theorem cl0_walk (hA : AC w G k n N K s t b T) (hO : AC w O k' n' N' K' s' t' b' T') : Calls Tryd.prog 34 #[.pointer (some ⟨G, 0, none⟩), .pointer (some ⟨O, 0, none⟩)] w fun e w' => e = .returned (.tuple #[]) ∧ w' = w.setCell ⟨O, 1, none⟩ (.int .i64 n) := by
  have hu := Tryd.underlying23
  have c := hA.c1
  have d := hO.c1
  have e := hO.fr 1
  go_enter Tryd.func34, Tryd.ntmps34
  go_wp2
  go_end0
  exact ⟨rfl, rfl⟩
set_option maxRecDepth 100000 in
theorem cl1_walk (hA : AC w G k n N K s t b T) (hO : AC w O k' n' N' K' s' t' b' T') : Calls Tryd.prog 35 #[.pointer (some ⟨G, 0, none⟩), .pointer (some ⟨O, 0, none⟩)] w fun e w' => e = .returned (.tuple #[]) ∧ w' = w.setCell ⟨O, 2, none⟩ (.int .i64 N) := by
  have hu := Tryd.underlying23
  have c := hA.c2
  have d := hO.c2
  have e := hO.fr 2
  go_enter Tryd.func35, Tryd.ntmps35
  go_wp2
  go_end0
  exact ⟨rfl, rfl⟩
set_option maxRecDepth 100000 in
theorem cl2_walk (hA : AC w G k n N K s t b T) (hO : AC w O k' n' N' K' s' t' b' T') : Calls Tryd.prog 36 #[.pointer (some ⟨G, 0, none⟩), .pointer (some ⟨O, 0, none⟩)] w fun e w' => e = .returned (.tuple #[]) ∧ w' = w.setCell ⟨O, 3, none⟩ (.int .i64 K) := by
  have hu := Tryd.underlying23
  have c := hA.c3
  have d := hO.c3
  have e := hO.fr 3
  go_enter Tryd.func36, Tryd.ntmps36
  go_wp2
  go_end0
  exact ⟨rfl, rfl⟩
set_option maxRecDepth 100000 in
theorem cl3_walk (hA : AC w G k n N K s t b T) (hO : AC w O k' n' N' K' s' t' b' T') : Calls Tryd.prog 37 #[.pointer (some ⟨G, 0, none⟩), .pointer (some ⟨O, 0, none⟩)] w fun e w' => e = .returned (.tuple #[]) ∧ w' = w.setCell ⟨O, 7, none⟩ (.int .i64 T) := by
  have hu := Tryd.underlying23
  have c := hA.c7
  have d := hO.c7
  have e := hO.fr 7
  go_enter Tryd.func37, Tryd.ntmps37
  go_wp2
  go_end0
  exact ⟨rfl, rfl⟩
set_option maxRecDepth 100000 in
theorem cl4_walk (hA : AC w G k n N K s t b T) (hO : AC w O k' n' N' K' s' t' b' T') : Calls Tryd.prog 38 #[.pointer (some ⟨G, 0, none⟩), .pointer (some ⟨O, 0, none⟩)] w fun e w' => e = .returned (.tuple #[]) ∧ w' = w.setCell ⟨O, 6, none⟩ (.bool b) := by
  have hu := Tryd.underlying23
  have c := hA.c6
  have d := hO.c6
  have e := hO.fr 6
  go_enter Tryd.func38, Tryd.ntmps38
  go_wp2
  go_end0
  exact ⟨rfl, rfl⟩
set_option maxRecDepth 100000 in
theorem cl5_walk (hA : AC w G k n N K s t b T) (hO : AC w O k' n' N' K' s' t' b' T') : Calls Tryd.prog 39 #[.pointer (some ⟨G, 0, none⟩), .pointer (some ⟨O, 0, none⟩)] w fun e w' => e = .returned (.tuple #[]) ∧ w' = w.setCell ⟨O, 4, none⟩ (.string s) := by
  have hu := Tryd.underlying23
  have c := hA.c4
  have d := hO.c4
  have e := hO.fr 4
  go_enter Tryd.func39, Tryd.ntmps39
  go_wp2
  go_end0
  exact ⟨rfl, rfl⟩
set_option maxRecDepth 100000 in
theorem cl6_walk (hA : AC w G k n N K s t b T) (hO : AC w O k' n' N' K' s' t' b' T') : Calls Tryd.prog 40 #[.pointer (some ⟨G, 0, none⟩), .pointer (some ⟨O, 0, none⟩)] w fun e w' => e = .returned (.tuple #[]) ∧ w' = w.setCell ⟨O, 5, none⟩ (.string t) := by
  have hu := Tryd.underlying23
  have c := hA.c5
  have d := hO.c5
  have e := hO.fr 5
  go_enter Tryd.func40, Tryd.ntmps40
  go_wp2
  go_end0
  exact ⟨rfl, rfl⟩
end
end Go.Proofs.YtjjimkmbbifbjaaDoor.SW
