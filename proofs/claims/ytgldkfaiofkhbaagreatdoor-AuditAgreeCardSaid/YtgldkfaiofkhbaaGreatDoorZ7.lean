/-
  Texts of the claim, put into one file: AuditAgreeClosed.
-/
import Derived.Test.YtgldkfaiofkhbaaGreatDoorRows
import Derived.ProofKit

namespace Go.Proofs.YtgldkfaiofkhbaaGreatDoor.auditAgreeClosed
open Go Go.Proofs.YtgldkfaiofkhbaaGreatDoor
theorem closed : joinedFacts Tryz.pinned.checked.prog 4 Tryz.f4 (OpenSpec.ofChange Rows.auditAgreeSpec).bare Rows.auditAgreeRow = true := by kernel_rfl
end Go.Proofs.YtgldkfaiofkhbaaGreatDoor.auditAgreeClosed
