import Derived.Test.YtgldkfaiofkhbaaGreatDoorZ0
import Derived.Test.YtgldkfaiofkhbaaGreatDoorRows
import Derived.ProofKit
namespace Go.Proofs.YtgldkfaiofkhbaaGreatDoor
open Go Go.RowKit Go.Proofs.Tryz
theorem sJ:joinedFacts Tryz.pinned.checked.prog 3 Tryz.f3 (OpenSpec.ofChange Rows.auditTakesSpec).bare Rows.auditTakesRow=true:=by kernel_rfl
