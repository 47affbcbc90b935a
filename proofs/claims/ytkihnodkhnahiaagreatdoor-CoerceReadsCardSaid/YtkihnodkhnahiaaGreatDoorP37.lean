/- Packed. -/
import Derived.Test.YtkihnodkhnahiaaGreatDoorP22
set_option maxRecDepth 100000
set_option maxHeartbeats 6400000
namespace Go.Proofs.YtkihnodkhnahiaaGreatDoor.Tp
open Go.RowKit
end Go.Proofs.YtkihnodkhnahiaaGreatDoor.Tp
