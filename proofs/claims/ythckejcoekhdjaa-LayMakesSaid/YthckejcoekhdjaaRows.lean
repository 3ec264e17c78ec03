/-
  No cell of these rows narrows 'for every input' (looked for: loops, veiled, ifaces, maps, wideKeys, modest, calm, conditions, laid).
  DERIVED. THE GIVEN ROWS OF THIS SEAT. 6 by the template 'for every input the law returns true; each argument reads behind the call as it read before'; 0 by the template 'total and deterministic' (their statements: YthckejcoekhdjaaTotals.lean).
  GIVEN WITH THE SEED: the statements are not yours to turn. If you find one false, say at which input.
  Laid BY PROGRAM, IN A SANDBOX (cutbox-rows.mjs): the forced cells as the released guide's own fill.sh prints them over the translation b97c478c80edbe32… (all of the seat's roots in one cut). By AI agents, Wed Nov 11 2026. No macro, syntax, notation, axiom, sorry.
-/
import Derived.Test.YthckejcoekhdjaaChecked
import GoSem.Claim
import GoSem.ClaimJoined
import GoSem.ClaimMapViews
import Derived.JoinedTies
import Derived.KernelRfl
namespace Go.Proofs.Ythckejcoekhdjaa
/- THE CELL 'sum', in the pinned program and in every row, IS THE sha256 OF THE DUMP (.gsa) THAT YthckejcoekhdjaaProg.lean LOADS. Nothing in Lean hashes anything: it is a label: what it is worth is what the hold of that sum in a sandbox is worth. -/
noncomputable def Try.pinned : Pinned := { name := "ythckejcoekhdjaa", sum := "b97c478c80edbe3264a291916c9ec1394e3836a6142fa3637959d931793cf8a2", checked := Try.checked }
namespace Rows
def none {H : Type} : Left H := { results := [], args := [] }

/-- 'stencillaw07.LayPlaces': WHATEVER THE INPUT: true; the input reads as it did. -/
def layPlacesSpec : ChangeSpec := { name := "layPlaces", fn := fun _ => fun
  | [d1, d2] => { results := [.lit (.bool true)], args := [d1, d2] }
  | _ => none }
def layPlacesRow : OpenClaim := { program := "ythckejcoekhdjaa", sum := "b97c478c80edbe3264a291916c9ec1394e3836a6142fa3637959d931793cf8a2", func := "stencil/stencillaw07.LayPlaces", spec := "layPlaces", unfollowed := true, recurses := true, apart := false }
def LayPlacesSaid : Prop := layPlacesRow.holds Try.pinned (OpenSpec.ofChange layPlacesSpec)

/-- ITS FALSE NEIGHBOUR: 'it returns false'. Refute it at one input. -/
def layPlacesWrong : ChangeSpec := { name := "layPlaces", fn := fun _ => fun
  | [d1, d2] => { results := [.lit (.bool false)], args := [d1, d2] }
  | _ => none }
def LayPlacesWrongFalsely : Prop := layPlacesRow.holds Try.pinned (OpenSpec.ofChange layPlacesWrong)

/-- 'stencillaw07.LayRefuses': WHATEVER THE INPUT: true; the input reads as it did. -/
def layRefusesSpec : ChangeSpec := { name := "layRefuses", fn := fun _ => fun
  | [d1, d2, d3] => { results := [.lit (.bool true)], args := [d1, d2, d3] }
  | _ => none }
def layRefusesRow : OpenClaim := { program := "ythckejcoekhdjaa", sum := "b97c478c80edbe3264a291916c9ec1394e3836a6142fa3637959d931793cf8a2", func := "stencil/stencillaw07.LayRefuses", spec := "layRefuses", unfollowed := true, recurses := true, apart := false }
def LayRefusesSaid : Prop := layRefusesRow.holds Try.pinned (OpenSpec.ofChange layRefusesSpec)

/-- ITS FALSE NEIGHBOUR: 'it returns false'. Refute it at one input. -/
def layRefusesWrong : ChangeSpec := { name := "layRefuses", fn := fun _ => fun
  | [d1, d2, d3] => { results := [.lit (.bool false)], args := [d1, d2, d3] }
  | _ => none }
def LayRefusesWrongFalsely : Prop := layRefusesRow.holds Try.pinned (OpenSpec.ofChange layRefusesWrong)

/-- 'stencillaw07.LayLooks': WHATEVER THE INPUT: true; the input reads as it did. -/
def layLooksSpec : ChangeSpec := { name := "layLooks", fn := fun _ => fun
  | [d1, d2, d3, d4] => { results := [.lit (.bool true)], args := [d1, d2, d3, d4] }
  | _ => none }
def layLooksRow : OpenClaim := { program := "ythckejcoekhdjaa", sum := "b97c478c80edbe3264a291916c9ec1394e3836a6142fa3637959d931793cf8a2", func := "stencil/stencillaw07.LayLooks", spec := "layLooks", unfollowed := true, recurses := true, apart := false }
def LayLooksSaid : Prop := layLooksRow.holds Try.pinned (OpenSpec.ofChange layLooksSpec)

/-- ITS FALSE NEIGHBOUR: 'it returns false'. Refute it at one input. -/
def layLooksWrong : ChangeSpec := { name := "layLooks", fn := fun _ => fun
  | [d1, d2, d3, d4] => { results := [.lit (.bool false)], args := [d1, d2, d3, d4] }
  | _ => none }
def LayLooksWrongFalsely : Prop := layLooksRow.holds Try.pinned (OpenSpec.ofChange layLooksWrong)

/-- 'stencillaw07.LayMakes': WHATEVER THE INPUT: true; the input reads as it did. -/
def layMakesSpec : ChangeSpec := { name := "layMakes", fn := fun _ => fun
  | [d1, d2] => { results := [.lit (.bool true)], args := [d1, d2] }
  | _ => none }
def layMakesRow : OpenClaim := { program := "ythckejcoekhdjaa", sum := "b97c478c80edbe3264a291916c9ec1394e3836a6142fa3637959d931793cf8a2", func := "stencil/stencillaw07.LayMakes", spec := "layMakes", unfollowed := true, recurses := true, apart := false }
def LayMakesSaid : Prop := layMakesRow.holds Try.pinned (OpenSpec.ofChange layMakesSpec)

/-- ITS FALSE NEIGHBOUR: 'it returns false'. Refute it at one input. -/
def layMakesWrong : ChangeSpec := { name := "layMakes", fn := fun _ => fun
  | [d1, d2] => { results := [.lit (.bool false)], args := [d1, d2] }
  | _ => none }
def LayMakesWrongFalsely : Prop := layMakesRow.holds Try.pinned (OpenSpec.ofChange layMakesWrong)

/-- 'stencillaw07.LayCovers': WHATEVER THE INPUT: true; the input reads as it did. -/
def layCoversSpec : ChangeSpec := { name := "layCovers", fn := fun _ => fun
  | [d1, d2] => { results := [.lit (.bool true)], args := [d1, d2] }
  | _ => none }
def layCoversRow : OpenClaim := { program := "ythckejcoekhdjaa", sum := "b97c478c80edbe3264a291916c9ec1394e3836a6142fa3637959d931793cf8a2", func := "stencil/stencillaw07.LayCovers", spec := "layCovers", unfollowed := true, recurses := true, apart := false }
def LayCoversSaid : Prop := layCoversRow.holds Try.pinned (OpenSpec.ofChange layCoversSpec)

/-- ITS FALSE NEIGHBOUR: 'it returns false'. Refute it at one input. -/
def layCoversWrong : ChangeSpec := { name := "layCovers", fn := fun _ => fun
  | [d1, d2] => { results := [.lit (.bool false)], args := [d1, d2] }
  | _ => none }
def LayCoversWrongFalsely : Prop := layCoversRow.holds Try.pinned (OpenSpec.ofChange layCoversWrong)

/-- 'stencillaw07.LayFresh': WHATEVER THE INPUT: true; the input reads as it did. -/
def layFreshSpec : ChangeSpec := { name := "layFresh", fn := fun _ => fun
  | [d1, d2] => { results := [.lit (.bool true)], args := [d1, d2] }
  | _ => none }
def layFreshRow : OpenClaim := { program := "ythckejcoekhdjaa", sum := "b97c478c80edbe3264a291916c9ec1394e3836a6142fa3637959d931793cf8a2", func := "stencil/stencillaw07.LayFresh", spec := "layFresh", unfollowed := true, recurses := true, apart := false }
def LayFreshSaid : Prop := layFreshRow.holds Try.pinned (OpenSpec.ofChange layFreshSpec)

/-- ITS FALSE NEIGHBOUR: 'it returns false'. Refute it at one input. -/
def layFreshWrong : ChangeSpec := { name := "layFresh", fn := fun _ => fun
  | [d1, d2] => { results := [.lit (.bool false)], args := [d1, d2] }
  | _ => none }
def LayFreshWrongFalsely : Prop := layFreshRow.holds Try.pinned (OpenSpec.ofChange layFreshWrong)

/- THE SECOND FORM. 'bulk': how many values and letters a reading holds, each counted each time it is reached (what is shared counts as often as it is met; a slice's spare places count too). A statement '..UptoSaid' is the law's where the arguments, and the package variables that the reading takes, are together of bulk at most 1048576: NARROWER than '..Said'. Prove '..Said' where nothing that the law and all that it calls make is longer than what came in: it says more and counts as full. Else prove '..UptoSaid'. A law counts once. -/
mutual
def uptoBulk {H : Type} : DataW H → Nat
  | .lit (.string bytes) => bytes.length + 1
  | .lit _ => 1
  | .nil => 1
  | .ptr d => uptoBulk d + 1
  | .slice elems spare => uptoBulkAll elems + uptoBulkAll spare + 1
  | .agg parts => uptoBulkAll parts + 1
  | .iface _ d => uptoBulk d + 1
  | .map entries => uptoBulkEntries entries + 1
  | .held _ => 1
def uptoBulkAll {H : Type} : List (DataW H) → Nat
  | [] => 0
  | d :: r => uptoBulk d + uptoBulkAll r
def uptoBulkEntries {H : Type} : List (Lit × DataW H) → Nat
  | [] => 0
  | x :: r => uptoBulkEntry x + uptoBulkEntries r
def uptoBulkEntry {H : Type} : Lit × DataW H → Nat
  | (.string bytes, d) => bytes.length + uptoBulk d + 1
  | (_, d) => uptoBulk d + 1
 end
def uptoSmall : (H : Type) → List (DataW H) → Bool := fun _ ds => decide (uptoBulkAll ds ≤ 1048576)
def OpenSpec.upto (s : _root_.Go.ChangeSpec) : _root_.Go.OpenSpec := { _root_.Go.OpenSpec.ofChange s with cond := some uptoSmall }

/-- 'stencillaw07.LayPlaces', WHERE WHAT IT READS IS OF BULK AT MOST 1048576: true; the input reads as it did. -/
def layPlacesUptoRow : OpenClaim := { program := "ythckejcoekhdjaa", sum := "b97c478c80edbe3264a291916c9ec1394e3836a6142fa3637959d931793cf8a2", func := "stencil/stencillaw07.LayPlaces", spec := "layPlaces", unfollowed := true, recurses := true, apart := false, narrowed := true }
def LayPlacesUptoSaid : Prop := layPlacesUptoRow.holds Try.pinned (OpenSpec.upto layPlacesSpec)

/-- 'stencillaw07.LayRefuses', WHERE WHAT IT READS IS OF BULK AT MOST 1048576: true; the input reads as it did. -/
def layRefusesUptoRow : OpenClaim := { program := "ythckejcoekhdjaa", sum := "b97c478c80edbe3264a291916c9ec1394e3836a6142fa3637959d931793cf8a2", func := "stencil/stencillaw07.LayRefuses", spec := "layRefuses", unfollowed := true, recurses := true, apart := false, narrowed := true }
def LayRefusesUptoSaid : Prop := layRefusesUptoRow.holds Try.pinned (OpenSpec.upto layRefusesSpec)

/-- 'stencillaw07.LayLooks', WHERE WHAT IT READS IS OF BULK AT MOST 1048576: true; the input reads as it did. -/
def layLooksUptoRow : OpenClaim := { program := "ythckejcoekhdjaa", sum := "b97c478c80edbe3264a291916c9ec1394e3836a6142fa3637959d931793cf8a2", func := "stencil/stencillaw07.LayLooks", spec := "layLooks", unfollowed := true, recurses := true, apart := false, narrowed := true }
def LayLooksUptoSaid : Prop := layLooksUptoRow.holds Try.pinned (OpenSpec.upto layLooksSpec)

/-- 'stencillaw07.LayMakes', WHERE WHAT IT READS IS OF BULK AT MOST 1048576: true; the input reads as it did. -/
def layMakesUptoRow : OpenClaim := { program := "ythckejcoekhdjaa", sum := "b97c478c80edbe3264a291916c9ec1394e3836a6142fa3637959d931793cf8a2", func := "stencil/stencillaw07.LayMakes", spec := "layMakes", unfollowed := true, recurses := true, apart := false, narrowed := true }
def LayMakesUptoSaid : Prop := layMakesUptoRow.holds Try.pinned (OpenSpec.upto layMakesSpec)

/-- 'stencillaw07.LayCovers', WHERE WHAT IT READS IS OF BULK AT MOST 1048576: true; the input reads as it did. -/
def layCoversUptoRow : OpenClaim := { program := "ythckejcoekhdjaa", sum := "b97c478c80edbe3264a291916c9ec1394e3836a6142fa3637959d931793cf8a2", func := "stencil/stencillaw07.LayCovers", spec := "layCovers", unfollowed := true, recurses := true, apart := false, narrowed := true }
def LayCoversUptoSaid : Prop := layCoversUptoRow.holds Try.pinned (OpenSpec.upto layCoversSpec)

/-- 'stencillaw07.LayFresh', WHERE WHAT IT READS IS OF BULK AT MOST 1048576: true; the input reads as it did. -/
def layFreshUptoRow : OpenClaim := { program := "ythckejcoekhdjaa", sum := "b97c478c80edbe3264a291916c9ec1394e3836a6142fa3637959d931793cf8a2", func := "stencil/stencillaw07.LayFresh", spec := "layFresh", unfollowed := true, recurses := true, apart := false, narrowed := true }
def LayFreshUptoSaid : Prop := layFreshUptoRow.holds Try.pinned (OpenSpec.upto layFreshSpec)

end Rows
end Go.Proofs.Ythckejcoekhdjaa
