/- Texts laid together: TyPoly. -/
import Derived.Test.YtkihnodkhnahiaaGreatDoorP01

namespace Go.Proofs.YtkihnodkhnahiaaGreatDoor.Tp
open Go.RowKit
def BoolPost (w:World)(b:Bool)(e:Ending)(w':World):Prop:=e=.returned (.bool b)∧Below w.heap.size w w'
end Go.Proofs.YtkihnodkhnahiaaGreatDoor.Tp
