/-
  Texts of the claim, put into one file: SignEq.
-/
import Derived.Test.YteelanamlhfmgaaDoorZ23
import Derived.Test.YteelanamlhfmgaaDoorZ11

