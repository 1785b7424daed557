/-
  Texts of the claim, put into one file: SignEq.
-/
import Derived.Test.YtfbhjoejffagjaaGreatDoorZ23
import Derived.Test.YtfbhjoejffagjaaGreatDoorZ7

