import Derived.Test.YtdoaomoocikmaaaDoorKSame31
namespace Go.Proofs.YtdoaomoocikmaaaDoor.EF
open Go Go.RowKit Go.Proofs.YtdoaomoocikmaaaDoor Go.Proofs.YtdoaomoocikmaaaDoor.EB Go.Proofs.YtdoaomoocikmaaaDoor.EW
theorem mk7 {x : Int × Int × ByteArray × ByteArray × Int × Int × Int} {a b : Int} {c d : ByteArray} {e f g : Int} (h : x.1 = a ∧ x.2.1 = b ∧ x.2.2.1 = c ∧ x.2.2.2.1 = d ∧ x.2.2.2.2.1 = e ∧ x.2.2.2.2.2.1 = f ∧ x.2.2.2.2.2.2 = g) : some x = some (a, b, c, d, e, f, g) := by
  obtain ⟨x1, x2, x3, x4, x5, x6, x7⟩ := x
  obtain ⟨rfl, rfl, rfl, rfl, rfl, rfl, rfl⟩ := h
  rfl
theorem f1 : event_Put.f 1 2 ⟨#[97]⟩ ⟨#[120]⟩ 3 = some ⟨#[1, 2, 3, 1, 97, 1, 120]⟩ := by decide +kernel
theorem f2 : event_Get.f ⟨#[122, 1, 2, 3, 1, 97, 1, 120]⟩ 1 = some (1, 2, ⟨#[97]⟩, ⟨#[120]⟩, 3, 8, 0) := (if_pos (by decide)).trans (mk7 (by decide +kernel))
theorem f4 : event_Get.f ⟨#[1, 2]⟩ 0 = some (0, 0, ⟨#[]⟩, ⟨#[]⟩, 0, 0, 3) := (if_pos (by decide)).trans (mk7 (by decide +kernel))
theorem f6 : cutE ⟨#[2, 3, 5, 3, 1]⟩ 0 = ([], 0, 4) := by decide +kernel
theorem f9 : event_Right.f 0 0 ⟨#[]⟩ ⟨#[]⟩ 0 = some false := by decide +kernel
theorem f10 : marksB [(0, 5), (3, 1)] = ⟨#[2, 0, 5, 3, 1]⟩ := by decide +kernel
theorem f12 : event_Show.f 1 2 ⟨#[97]⟩ ⟨#[120]⟩ 3 = some ⟨#[49, 58, 50, 32, 97, 32, 49, 32, 51]⟩ := by
  have e : showB 1 2 ⟨#[97]⟩ ⟨#[120]⟩ 3 = ⟨#[49, 58, 50, 32, 97, 32, 49, 32, 51]⟩ := by
    unfold showB
    rw [if_pos (by decide +kernel)]
    unfold showS itS Lib.itoa
    decide +kernel
  unfold event_Show.f
  rw [if_pos (by decide +kernel), e]
end Go.Proofs.YtdoaomoocikmaaaDoor.EF
