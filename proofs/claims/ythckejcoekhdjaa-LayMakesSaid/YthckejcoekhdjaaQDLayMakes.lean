/- The pure statement of LayMakes, and how its arguments are opened. Made by this project's own program. -/
import Derived.Test.YthckejcoekhdjaaHLayMakes
import Derived.Test.YthckejcoekhdjaaHOpen
namespace Go.Proofs.Ythckejcoekhdjaa.Q
open Go.RowKit Go.Proofs.YthckejcoekhdjaaW.PrintWords Go.Proofs.YthckejcoekhdjaaW.PrintLast Go.Proofs.YthckejcoekhdjaaW.PrintMore
attribute [local go_sem] max2_int min2_int max_two min_two max_three min_three max_four min_four   -- for this text's walks alone
set_option linter.unusedVariables false
set_option linter.unusedSimpArgs false

theorem op3 : Opens Try.prog 3 (Kd.int .i64) (fun x => (Lit.int .i64 x).wf = true) := opens_int Try.underlying3
def ok57 (x : S57) : Prop := (Lit.int .i64 x.f0).wf = true ∧ (Lit.int .i64 x.f1).wf = true
theorem op57 : Opens Try.prog 57 k57 ok57 := opens_struct (fun x : S57 => (x.f0, x.f1)) (fun b => ⟨b.1, b.2⟩) (fun _ => rfl) Try.underlying57 (by kernel_rfl) (fs_cons rfl (by kernel_rfl) op3 (fs_one rfl (by kernel_rfl) op3))
theorem op33 : Opens Try.prog 33 (Kd.slice 57 k57) (fun x => x.length ≤ maxLen ∧ x.length * 16 ≤ 140737488351232 ∧ ∀ x_ ∈ x, ok57 x_) := opens_slice Try.underlying33 (by kernel_rfl) (by kernel_rfl) op57
/-- The one pure statement of stencillaw07_LayMakes. -/
def stencillaw07_LayMakes.Pure : Prop := ∀ (l0 : List (S57)) (a1 : Int), (l0.length ≤ maxLen ∧ l0.length * 16 ≤ 140737488351232 ∧ ∀ x_ ∈ l0, ok57 x_) → ((Lit.int .i64 a1).wf = true) → stencillaw07_LayMakes.f l0 a1 = some true
end Go.Proofs.Ythckejcoekhdjaa.Q
