/- LayCovers holds: for every list of seeds and every number the law returns true, and its arguments read as before. No condition. -/
import Derived.Test.YthckejcoekhdjaaQRLayCovers
import Derived.Test.YthckejcoekhdjaaPureLayCovers
namespace Go.Proofs.Ythckejcoekhdjaa
theorem layCovers_holds : Rows.LayCoversSaid := layCovers.over Q.LayCovers
#print axioms layCovers_holds
end Go.Proofs.Ythckejcoekhdjaa
