/- FrameFeeds: the chunks of a script of bounded bulk are short, and of bytes. -/
import Derived.Test.YtkchnocliilapaaQx0
import Derived.Test.YtkchnocliilapaaHFeeds6
namespace Go.Proofs.Ytkchnocliilapaa.Q
open Go.RowKit Go.Proofs.YtkchnocliilapaaW.PrintWords Go.Proofs.YtkchnocliilapaaW.PrintLast Go.Proofs.YtkchnocliilapaaW.PrintMore
attribute [local go_sem] max2_int min2_int max_two min_two max_three min_three max_four min_four   -- for this text's walks alone
set_option linter.unusedVariables false
set_option linter.unusedSimpArgs false

theorem feeds_ok (l1 : List S47) (h1 : ∀ o ∈ l1, ∀ x_ ∈ o.f3, (Lit.int .u8 x_).wf = true) (h2 : 1 + ((l1.map fun x => 1 + (1 + (1 + ((x.f3.map fun _ => 1).sum + 1))) + 1).sum + 1) ≤ 1048576) : ∀ o ∈ l1, o.f3.length ≤ 1048576 ∧ ∀ b ∈ o.f3, 0 ≤ b ∧ b < 256 := by
  have hs : ∀ l : List Int, (l.map fun _ => 1).sum = l.length := by
    intro l
    induction l with
    | nil => rfl
    | cons a l ih => rw [List.map_cons, List.sum_cons, ih, List.length_cons, Nat.add_comm]
  have hm : ∀ (l : List S47) (f : S47 → Nat), ∀ o ∈ l, f o ≤ (l.map f).sum := by
    intro l f
    induction l with
    | nil => intro o ho; cases ho
    | cons a l ih =>
      intro o ho
      rw [List.map_cons, List.sum_cons]
      rcases List.mem_cons.1 ho with rfl | ho
      · exact Nat.le_add_right _ _
      · exact Nat.le_trans (ih o ho) (Nat.le_add_left _ _)
  intro o ho
  have h3 := hm l1 (fun x => 1 + (1 + (1 + ((x.f3.map fun _ => 1).sum + 1))) + 1) o ho
  have h4 := hs o.f3
  refine ⟨by simp only [h4] at h3; omega, fun x hx => ?_⟩
  have z3 : IntKind.u8.min ≤ x ∧ x ≤ IntKind.u8.max := by simpa [Lit.wf] using h1 o ho x hx
  have e1 : IntKind.u8.min = 0 := by decide
  have e2 : IntKind.u8.max = 255 := by decide
  rw [e1, e2] at z3
  omega

end Go.Proofs.Ytkchnocliilapaa.Q
