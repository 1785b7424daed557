/-
  Texts of the claim, put into one file: Chain.
-/
import Derived.Test.YthkdlaohaekilaaDoorZ40
import Derived.Test.YthkdlaohaekilaaDoorZ39
import Derived.Test.YthkdlaohaekilaaDoorZ12

namespace Go.Proofs.YthkdlaohaekilaaDoor.Chain
open Go Go.RowKit Go.Proofs.YthkdlaohaekilaaDoor Go.Proofs.YthkdlaohaekilaaDoor.Mem Go.Proofs.YthkdlaohaekilaaDoor.Sha Go.Proofs.YthkdlaohaekilaaDoor.ShaWalk Go.Proofs.YthkdlaohaekilaaDoor.Bytes Go.Proofs.YthkdlaohaekilaaDoor.HashMem Go.Proofs.YthkdlaohaekilaaDoor.Hash Go.Proofs.YthkdlaohaekilaaDoor.HashSum Go.Proofs.YthkdlaohaekilaaDoor.DigestMem Go.Proofs.YthkdlaohaekilaaDoor.Digest Go.Proofs.YthkdlaohaekilaaDoor.DigestOf Go.Proofs.YthkdlaohaekilaaDoor.RefSum Go.Proofs.YthkdlaohaekilaaDoor.RefCut Go.Proofs.YthkdlaohaekilaaDoor.RefOf Go.Proofs.YthkdlaohaekilaaDoor.DigestTop Go.Proofs.YthkdlaohaekilaaDoor.RefTop Go.Proofs.YthkdlaohaekilaaDoor.QuietTail Go.Proofs.YthkdlaohaekilaaDoor.Grown

def leafOf (s : Int) (q : Text) : Text := cutTo (sum (kb 0 :: q)) (clampN s)
def linkOf (s : Int) (a b : Text) : Text := cutTo (sum (kb 2 :: (a ++ b))) (clampN s)
def chainOf (s : Int) (b : Text) (es : List Text) : Text := es.foldl (fun b e => linkOf s b (leafOf s e)) b
theorem leafOf_len (s : Int) (q : Text) : (leafOf s q).length = 32 := cutTo_len _ _ (sum_len _) (clampN_ok s).2
theorem linkOf_len (s : Int) (a b : Text) : (linkOf s a b).length = 32 := cutTo_len _ _ (sum_len _) (clampN_ok s).2
theorem chainOf_len (s : Int) (b : Text) (hb : b.length = 32) : ∀ es : List Text, (chainOf s b es).length = 32
  | [] => hb
  | e :: es => by
    show (chainOf s (linkOf s b (leafOf s e)) es).length = 32
    exact chainOf_len s _ (linkOf_len _ _ _) es
theorem chainOf_step (s : Int) (b : Text) (es : List Text) (i : Nat) (e : Text) (h : es[i]? = some e) : chainOf s b (es.take (i + 1)) = linkOf s (chainOf s b (es.take i)) (leafOf s e) := by
  unfold chainOf
  rw [List.take_add_one, h, List.foldl_append]
  rfl
end Go.Proofs.YthkdlaohaekilaaDoor.Chain
