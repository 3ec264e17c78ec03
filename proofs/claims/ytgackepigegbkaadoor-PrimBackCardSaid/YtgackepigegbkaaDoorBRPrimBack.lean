/- The row of PrimBack out of its pure statement. Made by this project's own program. -/
import Derived.Test.YtgackepigegbkaaDoorCards
import Derived.Test.YtgackepigegbkaaDoorTie
import Derived.Deep.DeepHandedRow
import Derived.Lib.LaidTab
import Derived.Test.YtgackepigegbkaaDoorBDPrimBack
import Derived.ChangeMaps5
import Derived.WalkKit
import Derived.ProofKit
import Derived.OpenShut
import Derived.ShutString
import Derived.ChangeOld
import Derived.Below
import Derived.SizedLaws
namespace Go.Proofs.YtgackepigegbkaaDoor.primBack
open Go.ChangeShapes Go.ChangeMaps Go.WideShapes Go.ChangeAt Go.RowKit Go.Proofs.YtgackepigegbkaaDoor.B
set_option linter.unusedVariables false
theorem own : ownKnob Tryd.prog.godebug = none := by kernel_rfl
theorem laidOut : laidOutB Tryd.prog = true := by kernel_rfl
theorem gTab : Tryd.prog.globalNamed "stencil/prim.sizes" = some 0 := by kernel_rfl
theorem gTabType : (Tryd.prog.globals[0]?).map (·.type) = some 58 := by kernel_rfl
theorem gTabUnder : Tryd.prog.underlying 58 = some (.array 11 3) := by kernel_rfl
theorem cellsG : Tryd.prog.cellsOf 58 = 11 := by kernel_rfl
theorem cellsE : Tryd.prog.cellsOf 3 = 1 := by kernel_rfl
theorem table {W : World} (h : laidMetH Tryd.prog Rows.primBackRow.laid W) : Lib.TabIs Tryd.prog W "stencil/prim.sizes" .i64 [1, 1, 2, 4, 8, 1, 2, 4, 8, 4, 8] :=
  Lib.tabIs_of_head (rest := []) gTab gTabType gTabUnder Tryd.underlying3 cellsE cellsG h
set_option maxRecDepth 100000 in
theorem contract (P : stencillaw01_PrimBack.Pure) (H : Type) (enc : TypeId × Value → H) (W : World) (base : Nat) (args : Array Value) (ds gs : List (DataW H)) (before : List MemPlace)
    (hval0 : ∀ (j : Nat) t v, Tryd.f6.params[j]? = some t → args[j]? = some v → Value.okWide Tryd.prog W .any base t v)
    (hW : DataW.Whole enc Tryd.prog Tryd.f6.params.toList Rows.primBackSpec.vars false W args.toList ds gs before)
    (hsz0 : (DataW.weightsEach Tryd.prog (Tryd.f6.params.toList ++ Rows.primBackSpec.plain.varTypes Tryd.prog) (ds ++ gs)).all (· ≤ reachBytes) = true) (hL : laidMetH Tryd.prog Rows.primBackRow.laid W) :
    Calls Tryd.prog 6 args W fun e W' => ∃ v, e = .returned v ∧ Rows.primBackSpec.post enc Tryd.prog Tryd.f6 false true false false W args v W' := by
  have hsz := hsz0
  have hval := hval0
  have hW' := hW
  have hT : Tab W := fun i hi => (table hL).cell gTab i hi
  obtain ⟨p, q, hA0, hV, rfl, hfz, hnd⟩ := hW
  have hA : DataW.TrodAll enc Tryd.prog W 0 (fun _ => true) true Tryd.f6.params.toList args.toList ds p := hA0
  rw [Tryd.params6] at hA hval hsz
  obtain ⟨v0, vs0, d0, ds0, p0, q0, hargs, rfl, rfl, h0, r0⟩ := trodAll_cons hA
  obtain ⟨v1, vs1, d1, ds1, p1, q1, rfl, rfl, rfl, h1, r1⟩ := trodAll_cons r0
  obtain ⟨v2, vs2, d2, ds2, p2, q2, rfl, rfl, rfl, h2, r2⟩ := trodAll_cons r1
  obtain ⟨v3, vs3, d3, ds3, p3, q3, rfl, rfl, rfl, h3, r3⟩ := trodAll_cons r2
  obtain ⟨rfl, rfl, rfl⟩ := trodAll_nil r3
  obtain rfl : args = #[v0, v1, v2, v3] := by cases args; simp_all
  obtain ⟨rfl, rfl⟩ := trodVars_none hV
  have k0 := h0
  have lt0 : ∀ x ∈ p0, x.block < W.heap.size := by obtain ⟨m, hm⟩ := k0; exact DataW.trod_lt m _ _ _ hm
  have wz0 := fun n_ hn_ => of_decide_eq_true (List.all_eq_true.1 hsz n_ (DataW.weights_mem_each (j := 0) (t := 22) (d := d0) rfl rfl n_ hn_))
  obtain ⟨fu0, hf0⟩ := h0
  obtain ⟨x0, hk0, ho0⟩ := op22 H enc W 0 _ true fu0 _ _ hf0 wz0
  obtain ⟨y0, rfl, _, _, w0⟩ := open_int Tryd.underlying22 (hval 0 22 v0 rfl rfl) k0
  have hk0' : #[Value.int .i64 y0].toList = [Value.int .i64 x0] := hk0
  obtain rfl : y0 = x0 := by simpa using hk0'
  have k1 := h1
  have lt1 : ∀ x ∈ p1, x.block < W.heap.size := by obtain ⟨m, hm⟩ := k1; exact DataW.trod_lt m _ _ _ hm
  have wz1 := fun n_ hn_ => of_decide_eq_true (List.all_eq_true.1 hsz n_ (DataW.weights_mem_each (j := 1) (t := 23) (d := d1) rfl rfl n_ hn_))
  obtain ⟨fu1, hf1⟩ := h1
  obtain ⟨x1, hk1, ho1⟩ := op23 H enc W 0 _ true fu1 _ _ hf1 wz1
  obtain ⟨y1, rfl, _, _, w1⟩ := open_int Tryd.underlying23 (hval 1 23 v1 rfl rfl) k1
  have hk1' : #[Value.int .u64 y1].toList = [Value.int .u64 x1] := hk1
  obtain rfl : y1 = x1 := by simpa using hk1'
  have k2 := h2
  have lt2 : ∀ x ∈ p2, x.block < W.heap.size := by obtain ⟨m, hm⟩ := k2; exact DataW.trod_lt m _ _ _ hm
  have wz2 := fun n_ hn_ => of_decide_eq_true (List.all_eq_true.1 hsz n_ (DataW.weights_mem_each (j := 2) (t := 3) (d := d2) rfl rfl n_ hn_))
  obtain ⟨fu2, hf2⟩ := h2
  obtain ⟨x2, hk2, ho2⟩ := op3 H enc W 0 _ true fu2 _ _ hf2 wz2
  obtain ⟨y2, rfl, _, _, w2⟩ := open_int Tryd.underlying3 (hval 2 3 v2 rfl rfl) k2
  have hk2' : #[Value.int .i64 y2].toList = [Value.int .i64 x2] := hk2
  obtain rfl : y2 = x2 := by simpa using hk2'
  have k3 := h3
  have lt3 : ∀ x ∈ p3, x.block < W.heap.size := by obtain ⟨m, hm⟩ := k3; exact DataW.trod_lt m _ _ _ hm
  have wz3 := fun n_ hn_ => of_decide_eq_true (List.all_eq_true.1 hsz n_ (DataW.weights_mem_each (j := 3) (t := 5) (d := d3) rfl rfl n_ hn_))
  obtain ⟨fu3, hf3⟩ := h3
  obtain ⟨x3, hk3, ho3⟩ := op5 H enc W 0 _ true fu3 _ _ hf3 wz3
  obtain ⟨y3, rfl, _, _, w3⟩ := open_int Tryd.underlying5 (hval 3 5 v3 rfl rfl) k3
  have hk3' : #[Value.int .u8 y3].toList = [Value.int .u8 x3] := hk3
  obtain rfl : y3 = x3 := by simpa using hk3'
  clear hA0 hval0 hsz0 hsz
  have hP := P y0 y1 y2 y3 w0 w1 w2 w3
  refine (stencillaw01_PrimBack.calls y0 y1 y2 y3 true W  hP hT).mono fun e W' hq => ?_
  obtain ⟨he, hb⟩ := hq
  have bel : Below W.heap.size W W' := hb
  subst he
  exact ⟨_, rfl, _, _, _, [], _, [], hW', trodAll_mk1 (shut_bool Tryd.underlying4 _), (trodAll_cons_mk (Below.trod laidOut (by kernel_rfl) (of_decide_eq_true (by kernel_rfl)) k0 bel lt0) (trodAll_cons_mk (Below.trod laidOut (by kernel_rfl) (of_decide_eq_true (by kernel_rfl)) k1 bel lt1) (trodAll_cons_mk (Below.trod laidOut (by kernel_rfl) (of_decide_eq_true (by kernel_rfl)) k2 bel lt2) (trodAll_cons_mk (Below.trod laidOut (by kernel_rfl) (of_decide_eq_true (by kernel_rfl)) k3 bel lt3) trodAll_mk0)))), rfl, bel.frame _, fun h => by cases h⟩
noncomputable def laidWorld (os : Os) : World :=
  { World.holding Tryd.prog os ⟨#[], #[], []⟩ with heap := (World.holding Tryd.prog os ⟨#[], #[], []⟩).heap.modify 0 fun
      | .cells _ t frozen => .cells #[.int .i64 1, .int .i64 1, .int .i64 2, .int .i64 4, .int .i64 8, .int .i64 1, .int .i64 2, .int .i64 4, .int .i64 8, .int .i64 4, .int .i64 8] t frozen
      | o => o }
theorem laid_met (os : Os) : laidMet Tryd.prog Rows.primBackRow.laid ((laidWorld os).forCall (fun _ _ => 0) ⟨#[], #[.int .i64 0, .int .u64 0, .int .i64 0, .int .u8 0], []⟩).memory :=
  laidMet_of_run' 8 (by kernel_rfl) (by kernel_rfl)
theorem reads (os : Os) {H : Type} (enc : TypeId × Value → H) : ∃ places, DataW.whole enc Tryd.prog ((laidWorld os).forCall (fun _ _ => 0) ⟨#[], #[.int .i64 0, .int .u64 0, .int .i64 0, .int .u8 0], []⟩).memory Tryd.f6.params.toList Rows.primBackSpec.vars false #[(Value.int .i64 0), (Value.int .u64 0), (Value.int .i64 0), (Value.int .u8 0)].toList 8 = some ([.lit (.int .i64 0), .lit (.int .u64 0), .lit (.int .i64 0), .lit (.int .u8 0)], [], places) :=
  ⟨[], by kernel_rfl⟩
set_option maxRecDepth 100000 in
theorem lifted (P : stencillaw01_PrimBack.Pure) (os : Os) (started : os.Started) (H : Type) (enc : TypeId × Value → H) (F : Stop.Interp) :
    ReturnsInHanded {} Tryd.checked os 6 .any ((OpenSpec.ofChange Rows.primBackSpec).preRow enc Tryd.prog Tryd.f6 Rows.primBackRow.domain false Rows.primBackRow.laid) (((OpenSpec.ofChange Rows.primBackSpec).at F).post enc Tryd.prog Tryd.f6 false true false false) := by
  obtain ⟨places, hx⟩ := reads os enc
  refine returnsInHanded_of_row (C := Tryd.checked) (s := OpenSpec.ofChange Rows.primBackSpec) own started (by kernel_rfl) Tryd.func6
    (witness_row_at (enc := enc) (C := Tryd.checked) false (laidWorld os) #[.int .i64 0, .int .u64 0, .int .i64 0, .int .u8 0] rfl (by kernel_rfl) (by kernel_rfl) (by kernel_rfl)
      (OpenSpec.preRow_of_cond 8 hx (by kernel_rfl) (fun k hk => by cases hk) (by kernel_rfl) (laid_met os))) ?_
  intro W base args ds gs before hval hW _ _ hsz hL _ _
  exact contract P H enc W base args ds gs before hval hW hsz hL
theorem said (P : stencillaw01_PrimBack.Pure) : Rows.PrimBackSaid :=
  OpenClaim.holds_of_cond 6 Tryd.f6 rfl rfl rfl rfl rfl rfl rfl ⟨rfl, rfl, rfl, rfl, rfl⟩ rfl rfl rfl rfl rfl (by kernel_rfl) Tryd.func6 (by kernel_rfl)
    (of_decide_eq_true (by kernel_rfl)) (by unfold Func.isWrapper; first | (rw [if_pos (by decide +kernel)]; kernel_rfl) | (rw [if_neg (by decide +kernel)]; exact ⟨rfl, rfl⟩))
    (fun os started H enc _ F => by rw [OpenClaim.pre_eq_preRow]; exact lifted P os started H enc F)
theorem plain (f : FuncId) (fn : Func) (hf : Tryd.pinned.checked.prog.funcNamed "stencil/stencillaw01.PrimBack" = some f) (hfn : Tryd.pinned.checked.prog.funcs[f]? = some fn) :
    false = Tryd.pinned.checked.prog.looks [] ∧ ∀ (j : Nat) t, fn.params[j]? = some t → Tryd.pinned.checked.prog.wantsStandIn t = false := by
  obtain rfl : f = 6 := Option.some.inj ((show Tryd.prog.funcNamed "stencil/stencillaw01.PrimBack" = some 6 by kernel_rfl).symm.trans hf) |>.symm
  obtain rfl : fn = Tryd.f6 := (Option.some.inj (Tryd.func6.symm.trans hfn)).symm
  refine ⟨by kernel_rfl, fun j t ht => ?_⟩
  rw [Tryd.params6] at ht
  have hm : t = 22 ∨ t = 23 ∨ t = 3 ∨ t = 5 := by simpa using Array.mem_of_getElem? ht
  rcases hm with rfl | rfl | rfl | rfl
  · exact (show Tryd.prog.wantsStandIn 22 = false by kernel_rfl)
  · exact (show Tryd.prog.wantsStandIn 23 = false by kernel_rfl)
  · exact (show Tryd.prog.wantsStandIn 3 = false by kernel_rfl)
  · exact (show Tryd.prog.wantsStandIn 5 = false by kernel_rfl)
theorem over (P : stencillaw01_PrimBack.Pure) : Rows.PrimBackCardSaid :=
  Claim7.holds_tied_plain_at .later [] _ _ _ _ (said P) (fun _ h => by cases h) (by kernel_rfl) (fun _ h => by cases h) primBack_row_tie rfl ⟨rfl, rfl⟩ (by kernel_rfl) rfl plain (by kernel_rfl)
end Go.Proofs.YtgackepigegbkaaDoor.primBack
