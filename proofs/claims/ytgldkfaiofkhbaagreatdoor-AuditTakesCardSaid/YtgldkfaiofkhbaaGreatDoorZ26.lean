import Derived.Test.YtgldkfaiofkhbaaGreatDoorZ19
import Derived.Lib.Overlaps
import Derived.Lib.AppendZerosOnto
namespace Go.Proofs.YtgldkfaiofkhbaaGreatDoor
open Go Go.RowKit
def Wi(ss:List aj)(i:Nat)(x:aj):List aj:=ss.take i++[x]++ss.drop i
