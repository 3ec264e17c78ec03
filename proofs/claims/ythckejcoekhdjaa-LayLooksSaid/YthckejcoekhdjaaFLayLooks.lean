/- LayLooks holds: of any lists Gaps, Plain and At answer as the document says, and the lists stay as they were. No condition. -/
import Derived.Test.YthckejcoekhdjaaQRLayLooks
import Derived.Test.YthckejcoekhdjaaHLayLooks
namespace Go.Proofs.Ythckejcoekhdjaa
theorem layLooks_holds : Rows.LayLooksSaid := layLooks.over (fun l0 l1 a2 a3 h0 h1 _ h3 => Q.LayLooks_pure l0 l1 a2 a3 h0 h1 h3)
#print axioms layLooks_holds
end Go.Proofs.Ythckejcoekhdjaa
