/- Part 7 of 41 of a proof. No condition. -/
import Derived.Test.YtabjglnjjdcfmaaGreatDoorWe5
set_option maxRecDepth 100000
namespace Go.Proofs.YtabjglnjjdcfmaaGreatDoor
open _root_.Go.Proofs.Tryz
section
open Go.RowKit
end
end Go.Proofs.YtabjglnjjdcfmaaGreatDoor
