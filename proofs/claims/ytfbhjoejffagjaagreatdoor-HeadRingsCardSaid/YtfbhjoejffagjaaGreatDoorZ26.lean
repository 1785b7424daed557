/-
  Texts of the claim, put into one file: SignEq.
-/
import Derived.Test.YtfbhjoejffagjaaGreatDoorZ24
import Derived.Test.YtfbhjoejffagjaaGreatDoorZ5

