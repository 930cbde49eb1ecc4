import Derived.Test.YtjjimkmbbifbjaaDoorKCuts28
namespace Go.Proofs.YtjjimkmbbifbjaaDoor.SP
open Go Go.RowKit Go.Shelf Go.Proofs.YtjjimkmbbifbjaaDoor Go.Proofs.YtjjimkmbbifbjaaDoor.SW Go.Proofs.YtjjimkmbbifbjaaDoorW.PrintWords
structure F3 (w W : World) : Prop where
  t : AC W w.heap.size 4 2 0 0 ⟨#[]⟩ ⟨#[]⟩ false 0
  p : AC W (w.heap.size + 1) 0 1 3 0 ⟨#[97, 47, 98]⟩ ⟨#[120, 121]⟩ false 9
  q : AC W (w.heap.size + 2) 3 0 1 0 ⟨#[35]⟩ ⟨#[]⟩ true 0
  b : Below w.heap.size w W
theorem F3.below {w W W2 : World} (f : F3 w W) (hb : Below W.heap.size W W2) : F3 w W2 := ⟨f.t.below hb, f.p.below hb, f.q.below hb, f.b.trans (hb.mono f.b.size)⟩
theorem F3.alloc {w W : World} (f : F3 w W) (o : Obj) : F3 w (W.alloc o) := ⟨f.t.alloc o, f.p.alloc o, f.q.alloc o, f.b.alloc f.b.size o⟩
theorem F3.start (w : World) : F3 w (((w.alloc (.cells #[.int .i64 4, .int .i64 2, .int .i64 0, .int .i64 0, .string ⟨#[]⟩, .string ⟨#[]⟩, .bool false, .int .i64 0] 23)).alloc (.cells #[.int .i64 0, .int .i64 1, .int .i64 3, .int .i64 0, .string ⟨#[97, 47, 98]⟩, .string ⟨#[120, 121]⟩, .bool false, .int .i64 9] 23)).alloc (.cells #[.int .i64 3, .int .i64 0, .int .i64 1, .int .i64 0, .string ⟨#[35]⟩, .string ⟨#[]⟩, .bool true, .int .i64 0] 23)) := by
  have e : ∀ (W : World) o, (W.alloc o).heap.size = W.heap.size + 1 := fun W o => by simp
  have h1 := AC.new w 4 2 0 0 ⟨#[]⟩ ⟨#[]⟩ false 0
  have h2 := AC.new (w.alloc (.cells #[.int .i64 4, .int .i64 2, .int .i64 0, .int .i64 0, .string ⟨#[]⟩, .string ⟨#[]⟩, .bool false, .int .i64 0] 23)) 0 1 3 0 ⟨#[97, 47, 98]⟩ ⟨#[120, 121]⟩ false 9
  have h3 := AC.new ((w.alloc (.cells #[.int .i64 4, .int .i64 2, .int .i64 0, .int .i64 0, .string ⟨#[]⟩, .string ⟨#[]⟩, .bool false, .int .i64 0] 23)).alloc (.cells #[.int .i64 0, .int .i64 1, .int .i64 3, .int .i64 0, .string ⟨#[97, 47, 98]⟩, .string ⟨#[120, 121]⟩, .bool false, .int .i64 9] 23)) 3 0 1 0 ⟨#[35]⟩ ⟨#[]⟩ true 0
  rw [e] at h2
  rw [e, e] at h3
  exact ⟨(h1.alloc _).alloc _, h2.alloc _, h3, (((Below.refl w.heap.size w).alloc (Nat.le_refl _) _).alloc (by rw [e]; omega) _).alloc (by rw [e, e]; omega) _⟩
theorem same_t {a b c d : Int} {e f : ByteArray} {g : Bool} {h : Int} (x : (a == 4 && (b == 2 && (c == 0 && (d == 0 && (e.toList == ([] : List UInt8) && (f.toList == ([] : List UInt8) && (!g && (h == 0)))))))) = true) : a = 4 ∧ b = 2 ∧ c = 0 ∧ d = 0 ∧ e = ⟨#[]⟩ ∧ f = ⟨#[]⟩ ∧ g = false ∧ h = 0 := by
  have z : (⟨#[]⟩ : ByteArray).toList = [] := by rw [VF.toList_eq]
  simp only [Bool.and_eq_true, beq_iff_eq, Bool.not_eq_true'] at x
  obtain ⟨h1, h2, h3, h4, h5, h6, h7, h8⟩ := x
  exact ⟨h1, h2, h3, h4, VF.toList_inj.1 (h5.trans z.symm), VF.toList_inj.1 (h6.trans z.symm), h7, h8⟩
end Go.Proofs.YtjjimkmbbifbjaaDoor.SP
