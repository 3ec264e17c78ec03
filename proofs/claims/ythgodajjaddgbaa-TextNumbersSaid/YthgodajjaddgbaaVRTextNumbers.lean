/- The row of TextNumbers out of its pure statement. Made by this project's own program. -/
import Derived.Test.YthgodajjaddgbaaRows
import Derived.Test.YthgodajjaddgbaaVDTextNumbers
import Derived.ChangeMaps5
import Derived.WalkKit
import Derived.ProofKit
import Derived.OpenShut
import Derived.ShutString
import Derived.ChangeOld
import Derived.Below
import Derived.SizedLaws
namespace Go.Proofs.Ythgodajjaddgbaa.textNumbers
open Go.ChangeShapes Go.ChangeMaps Go.WideShapes Go.ChangeAt Go.RowKit Go.Proofs.Ythgodajjaddgbaa.V
set_option linter.unusedVariables false
theorem own : ownKnob Try.prog.godebug = none := by kernel_rfl
theorem laidOut : laidOutB Try.prog = true := by kernel_rfl
set_option maxRecDepth 100000 in
theorem lifted (P : stencillaw02_TextNumbers.Pure) (os : Os) (started : os.Started) (H : Type) (enc : TypeId × Value → H) :
    ReturnsInHanded {} Try.checked os 5 .any (Rows.textNumbersSpec.pre6 enc Try.prog Try.f5 Rows.textNumbersRow.domain false) (Rows.textNumbersSpec.post enc Try.prog Try.f5 false true false false) := by
  refine returnsInHanded_of_change_sized (C := Try.checked) own started (by kernel_rfl) Try.func5
    (ChangeSpec.witness6 (enc := enc) (C := Try.checked) false ⟨#[], #[.int .i64 0, .int .i64 0, .string ByteArray.empty], []⟩ 8 (by kernel_rfl) (by kernel_rfl) (by kernel_rfl) (by kernel_rfl)) ?_
  intro W base args ds gs before hval0 hW hcnd hsz0 _
  have hsz : (DataW.weightsEach Try.prog (Try.f5.params.toList ++ Rows.textNumbersSpec.plain.varTypes Try.prog) (ds ++ gs)).all (· ≤ reachBytes) = true := hsz0
  have hval : ∀ (j : Nat) t v, Try.f5.params[j]? = some t → args[j]? = some v → Value.okWide Try.prog W .any base t v := hval0
  have hW' := hW
  obtain ⟨p, q, hA0, hV, rfl, hfz, hnd⟩ := hW
  have hA : DataW.TrodAll enc Try.prog W 0 (fun _ => true) true Try.f5.params.toList args.toList ds p := hA0
  rw [Try.params5] at hA hval hsz
  obtain ⟨v0, vs0, d0, ds0, p0, q0, hargs, rfl, rfl, h0, r0⟩ := trodAll_cons hA
  obtain ⟨v1, vs1, d1, ds1, p1, q1, rfl, rfl, rfl, h1, r1⟩ := trodAll_cons r0
  obtain ⟨v2, vs2, d2, ds2, p2, q2, rfl, rfl, rfl, h2, r2⟩ := trodAll_cons r1
  obtain ⟨rfl, rfl, rfl⟩ := trodAll_nil r2
  obtain rfl : args = #[v0, v1, v2] := by cases args; simp_all
  obtain ⟨rfl, rfl⟩ := trodVars_none hV
  have k0 := h0
  have lt0 : ∀ x ∈ p0, x.block < W.heap.size := by obtain ⟨m, hm⟩ := k0; exact DataW.trod_lt m _ _ _ hm
  have wz0 := fun n_ hn_ => of_decide_eq_true (List.all_eq_true.1 hsz n_ (DataW.weights_mem_each (j := 0) (t := 3) (d := d0) rfl rfl n_ hn_))
  obtain ⟨fu0, hf0⟩ := h0
  obtain ⟨x0, hk0, ho0⟩ := op3 H enc W 0 _ true fu0 _ _ hf0 wz0
  obtain ⟨y0, rfl, _, _, w0⟩ := open_int Try.underlying3 (hval 0 3 v0 rfl rfl) k0
  have hk0' : #[Value.int .i64 y0].toList = [Value.int .i64 x0] := hk0
  obtain rfl : y0 = x0 := by simpa using hk0'
  have k1 := h1
  have lt1 : ∀ x ∈ p1, x.block < W.heap.size := by obtain ⟨m, hm⟩ := k1; exact DataW.trod_lt m _ _ _ hm
  have wz1 := fun n_ hn_ => of_decide_eq_true (List.all_eq_true.1 hsz n_ (DataW.weights_mem_each (j := 1) (t := 3) (d := d1) rfl rfl n_ hn_))
  obtain ⟨fu1, hf1⟩ := h1
  obtain ⟨x1, hk1, ho1⟩ := op3 H enc W 0 _ true fu1 _ _ hf1 wz1
  obtain ⟨y1, rfl, _, _, w1⟩ := open_int Try.underlying3 (hval 1 3 v1 rfl rfl) k1
  have hk1' : #[Value.int .i64 y1].toList = [Value.int .i64 x1] := hk1
  obtain rfl : y1 = x1 := by simpa using hk1'
  have k2 := h2
  have lt2 : ∀ x ∈ p2, x.block < W.heap.size := by obtain ⟨m, hm⟩ := k2; exact DataW.trod_lt m _ _ _ hm
  have wz2 := fun n_ hn_ => of_decide_eq_true (List.all_eq_true.1 hsz n_ (DataW.weights_mem_each (j := 2) (t := 9) (d := d2) rfl rfl n_ hn_))
  obtain ⟨fu2, hf2⟩ := h2
  obtain ⟨x2, hk2, ho2⟩ := op9 H enc W 0 _ true fu2 _ _ hf2 wz2
  obtain ⟨y2, rfl, _, _, _⟩ := open_string Try.underlying9 (hval 2 9 v2 rfl rfl) k2
  have hk2' : #[Value.string y2].toList = [Value.string x2] := hk2
  obtain rfl : y2 = x2 := by simpa using hk2'
  clear hA0 hval0 hsz0 hsz
  have hP := P y0 y1 y2 w0 w1 ho2
  refine (stencillaw02_TextNumbers.calls y0 y1 y2 true W  hP).mono fun e W' hq => ?_
  obtain ⟨he, hb⟩ := hq
  have bel : Below W.heap.size W W' := hb
  subst he
  exact ⟨_, rfl, _, _, _, [], _, [], hW', trodAll_mk1 (shut_bool Try.underlying4 _), (trodAll_cons_mk (Below.trod laidOut (by kernel_rfl) (of_decide_eq_true (by kernel_rfl)) k0 bel lt0) (trodAll_cons_mk (Below.trod laidOut (by kernel_rfl) (of_decide_eq_true (by kernel_rfl)) k1 bel lt1) (trodAll_cons_mk (Below.trod laidOut (by kernel_rfl) (of_decide_eq_true (by kernel_rfl)) k2 bel lt2) trodAll_mk0))), rfl, bel.frame _, fun h => by cases h⟩
theorem over (P : stencillaw02_TextNumbers.Pure) : Rows.textNumbersRow.holds Try.pinned (OpenSpec.ofChange Rows.textNumbersSpec) :=
  OpenClaim.holds_of_wide 5 Try.f5 rfl rfl rfl rfl rfl rfl rfl ⟨rfl, rfl, rfl, rfl, rfl⟩ rfl rfl rfl rfl rfl (by kernel_rfl) Try.func5 (by kernel_rfl)
    (of_decide_eq_true (by kernel_rfl)) (by unfold Func.isWrapper; first | (rw [if_pos (by decide +kernel)]; kernel_rfl) | (rw [if_neg (by decide +kernel)]; exact ⟨rfl, rfl⟩))
    (fun os started H enc _ => lifted P os started H enc)
end Go.Proofs.Ythgodajjaddgbaa.textNumbers
