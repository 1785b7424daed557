/-
  Texts of the claim, put into one file: SignEq.
-/
import Derived.Test.YteelanamlhfmgaaDoorZ30
import Derived.Test.YteelanamlhfmgaaDoorZ7

