/- LayMakes holds: rooms with gaps made ahead lie where the sums say; what Plain leaves out is just what can be. No condition. -/
import Derived.Test.YthckejcoekhdjaaQRLayMakes
import Derived.Test.YthckejcoekhdjaaHLayMakes
namespace Go.Proofs.Ythckejcoekhdjaa
theorem layMakes_holds : Rows.LayMakesSaid := layMakes.over (fun l0 a1 _ _ => Q.LayMakes_pure l0 a1)
#print axioms layMakes_holds
end Go.Proofs.Ythckejcoekhdjaa
