/- LayRefuses holds: one thing spoilt in rooms that can be laid is refused with its number and its error. No condition. -/
import Derived.Test.YthckejcoekhdjaaQRLayRefuses
namespace Go.Proofs.Ythckejcoekhdjaa
theorem layRefuses_holds : Rows.LayRefusesSaid := layRefuses.over (fun _ _ _ _ _ _ => rfl)
#print axioms layRefuses_holds
end Go.Proofs.Ythckejcoekhdjaa
