/- Contracts of the reference's roomPoly, FewPoly. -/
import Derived.IntWalk
import Derived.Test.YtkkliemgidhgmaaGreatDoorRC
namespace Go.Proofs.YtkkliemgidhgmaaGreatDoor
open Go.RowKit

abbrev rval (t : RP) (A : Option Addr) (c : Nat) (K : Option Addr) (kc : Nat) : Value := .agg #[.int .i64 t.lv, .bool t.ng, .slice A t.ds.length c, .slice K t.ks.length kc]
end Go.Proofs.YtkkliemgidhgmaaGreatDoor
