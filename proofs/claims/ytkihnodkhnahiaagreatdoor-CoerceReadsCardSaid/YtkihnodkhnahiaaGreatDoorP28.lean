/- Packed. -/
import Derived.Test.YtkihnodkhnahiaaGreatDoorP01
set_option maxRecDepth 100000
set_option maxHeartbeats 6400000
namespace Go.Proofs.YtkihnodkhnahiaaGreatDoor.Tp
open Go.RowKit
def qj_ (w:World)(b:Bool)(e:Ending)(w':World):Prop:=e=.returned (.bool b)∧Below w.heap.size w w'
end Go.Proofs.YtkihnodkhnahiaaGreatDoor.Tp
