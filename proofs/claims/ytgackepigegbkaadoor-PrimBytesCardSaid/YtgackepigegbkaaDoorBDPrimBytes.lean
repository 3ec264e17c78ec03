/- The pure statement of PrimBytes, and how its arguments are opened. Made by this project's own program. -/
import Derived.Test.YtgackepigegbkaaDoorHPrimBytes
import Derived.Test.YtgackepigegbkaaDoorHOpenB
namespace Go.Proofs.YtgackepigegbkaaDoor.B
open Go.RowKit Go.Proofs.YtgackepigegbkaaDoorW.PrintWords Go.Proofs.YtgackepigegbkaaDoorW.PrintLast Go.Proofs.YtgackepigegbkaaDoorW.PrintMore
attribute [local go_sem] max2_int min2_int max_two min_two max_three min_three max_four min_four   -- for this text's walks alone
set_option linter.unusedVariables false
set_option linter.unusedSimpArgs false

theorem op5 : Opens Tryd.prog 5 (Kd.int .u8) (fun x => (Lit.int .u8 x).wf = true) := opens_int Tryd.underlying5
theorem op31 : Opens Tryd.prog 31 (Kd.slice 5 (Kd.int .u8)) (fun x => x.length ≤ maxLen ∧ x.length * 1 ≤ 140737488351232 ∧ ∀ x_ ∈ x, (Lit.int .u8 x_).wf = true) := opens_slice Tryd.underlying31 (by kernel_rfl) (by kernel_rfl) op5
theorem op3 : Opens Tryd.prog 3 (Kd.int .i64) (fun x => (Lit.int .i64 x).wf = true) := opens_int Tryd.underlying3
theorem op22 : Opens Tryd.prog 22 (Kd.int .i64) (fun x => (Lit.int .i64 x).wf = true) := opens_int Tryd.underlying22
theorem op32 : Opens Tryd.prog 32 (Kd.int .i64) (fun x => (Lit.int .i64 x).wf = true) := opens_int Tryd.underlying32
theorem op23 : Opens Tryd.prog 23 (Kd.int .u64) (fun x => (Lit.int .u64 x).wf = true) := opens_int Tryd.underlying23
theorem op9 : Opens Tryd.prog 9 Kd.string (fun x => x.size ≤ 140737488351232) := opens_string Tryd.underlying9
def ok34 (x : S34) : Prop := (x.f0.length ≤ maxLen ∧ x.f0.length * 1 ≤ 140737488351232 ∧ ∀ x_ ∈ x.f0, (Lit.int .u8 x_).wf = true) ∧ (Lit.int .i64 x.f1).wf = true ∧ (Lit.int .i64 x.f2).wf = true ∧ (Lit.int .i64 x.f3).wf = true ∧ (Lit.int .i64 x.f4).wf = true ∧ (Lit.int .u64 x.f5).wf = true ∧ x.f6.size ≤ 140737488351232
theorem op34 : Opens Tryd.prog 34 k34 ok34 := opens_struct (fun x : S34 => (x.f0, x.f1, x.f2, x.f3, x.f4, x.f5, x.f6)) (fun b => ⟨b.1, b.2.1, b.2.2.1, b.2.2.2.1, b.2.2.2.2.1, b.2.2.2.2.2.1, b.2.2.2.2.2.2⟩) (fun _ => rfl) Tryd.underlying34 (by kernel_rfl) (fs_cons rfl (by kernel_rfl) op31 (fs_cons rfl (by kernel_rfl) op3 (fs_cons rfl (by kernel_rfl) op3 (fs_cons rfl (by kernel_rfl) op22 (fs_cons rfl (by kernel_rfl) op32 (fs_cons rfl (by kernel_rfl) op23 (fs_one rfl (by kernel_rfl) op9)))))))
theorem k34_openR {W : World} {x : S34} {cs : List Value} (h : k34.K W x cs) : ∃ A c, cs = [.slice A x.f0.length c, .int .i64 x.f1, .int .i64 x.f2, .int .i64 x.f3, .int .i64 x.f4, .int .u64 x.f5, .string x.f6] ∧ x.f0.length ≤ c ∧ Kd.C ((Kd.int .u8)) W A x.f0.length x.f0 := by
  obtain ⟨b0, r0, rfl, ⟨A, c, hb0, hc, hr⟩, b1, r1, rfl, h1, b2, r2, rfl, h2, b3, r3, rfl, h3, b4, r4, rfl, h4, b5, r5, rfl, h5, h6⟩ := h
  obtain rfl : b1 = [.int .i64 x.f1] := h1
  obtain rfl : b2 = [.int .i64 x.f2] := h2
  obtain rfl : b3 = [.int .i64 x.f3] := h3
  obtain rfl : b4 = [.int .i64 x.f4] := h4
  obtain rfl : b5 = [.int .u64 x.f5] := h5
  obtain rfl : r5 = [.string x.f6] := h6
  refine ⟨A, c, ?_, hc, hr⟩
  rw [show b0 = [.slice A x.f0.length c] from hb0]
  rfl
/-- The one pure statement of stencillaw01_PrimBytes. -/
def stencillaw01_PrimBytes.Pure : Prop := ∀ (l0_0 : List Int) (a0_1 : Int) (a0_2 : Int) (a0_3 : Int) (a0_4 : Int) (a0_5 : Int) (a0_6 : ByteArray), ok34 ⟨l0_0, a0_1, a0_2, a0_3, a0_4, a0_5, a0_6⟩ → stencillaw01_PrimBytes.f l0_0 a0_1 a0_2 a0_3 a0_4 a0_5 a0_6 = some true
end Go.Proofs.YtgackepigegbkaaDoor.B
