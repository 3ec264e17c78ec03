/- LayFresh holds: what Place, Gaps and Plain answer is new memory: written over and appended to, it changes no other answer. No condition. -/
import Derived.Test.YthckejcoekhdjaaQRLayFresh
import Derived.Test.YthckejcoekhdjaaHLayFresh
namespace Go.Proofs.Ythckejcoekhdjaa
theorem layFresh_holds : Rows.LayFreshSaid := layFresh.over (fun l0 a1 h0 _ => Q.LayFresh_pure l0 a1 h0)
#print axioms layFresh_holds
end Go.Proofs.Ythckejcoekhdjaa
