/- The pure statement of LayFresh, and how its arguments are opened. Made by this project's own program. -/
import Derived.Test.YthckejcoekhdjaaHLayFresh
import Derived.Test.YthckejcoekhdjaaHOpen
namespace Go.Proofs.Ythckejcoekhdjaa.Q
open Go.RowKit Go.Proofs.YthckejcoekhdjaaW.PrintWords Go.Proofs.YthckejcoekhdjaaW.PrintLast Go.Proofs.YthckejcoekhdjaaW.PrintMore
attribute [local go_sem] max2_int min2_int max_two min_two max_three min_three max_four min_four   -- for this text's walks alone
set_option linter.unusedVariables false
set_option linter.unusedSimpArgs false

theorem op3 : Opens Try.prog 3 (Kd.int .i64) (fun x => (Lit.int .i64 x).wf = true) := opens_int Try.underlying3
def ok39 (x : S39) : Prop := (Lit.int .i64 x.f0).wf = true ∧ (Lit.int .i64 x.f1).wf = true
theorem op39 : Opens Try.prog 39 k39 ok39 := opens_struct (fun x : S39 => (x.f0, x.f1)) (fun b => ⟨b.1, b.2⟩) (fun _ => rfl) Try.underlying39 (by kernel_rfl) (fs_cons rfl (by kernel_rfl) op3 (fs_one rfl (by kernel_rfl) op3))
theorem op22 : Opens Try.prog 22 (Kd.slice 39 k39) (fun x => x.length ≤ maxLen ∧ x.length * 16 ≤ 140737488351232 ∧ ∀ x_ ∈ x, ok39 x_) := opens_slice Try.underlying22 (by kernel_rfl) (by kernel_rfl) op39
/-- The one pure statement of stencillaw07_LayFresh. -/
def stencillaw07_LayFresh.Pure : Prop := ∀ (l0 : List (S39)) (a1 : Int), (l0.length ≤ maxLen ∧ l0.length * 16 ≤ 140737488351232 ∧ ∀ x_ ∈ l0, ok39 x_) → ((Lit.int .i64 a1).wf = true) → stencillaw07_LayFresh.f l0 a1 = some true
end Go.Proofs.Ythckejcoekhdjaa.Q
