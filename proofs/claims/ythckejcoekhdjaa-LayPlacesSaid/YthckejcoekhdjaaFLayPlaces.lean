/- LayPlaces holds: for every list of rooms and every block length Place answers as the document says, and the rooms stay as they were. No condition. -/
import Derived.Test.YthckejcoekhdjaaQRLayPlaces
import Derived.Test.YthckejcoekhdjaaHLayPlaces
namespace Go.Proofs.Ythckejcoekhdjaa
theorem layPlaces_holds : Rows.LayPlacesSaid := layPlaces.over (fun l0 a1 h0 _ => Q.LayPlaces_pure l0 a1 h0.2.1)
#print axioms layPlaces_holds
end Go.Proofs.Ythckejcoekhdjaa
