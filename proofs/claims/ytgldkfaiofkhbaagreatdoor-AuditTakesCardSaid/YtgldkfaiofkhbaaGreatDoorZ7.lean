import Derived.Test.YtgldkfaiofkhbaaGreatDoorZ2
import Derived.Test.YtgldkfaiofkhbaaGreatDoorShelf
import Derived.Test.YtgldkfaiofkhbaaGreatDoorRows
import Derived.Shelf.Spec.TrailingZeros
import Derived.Outline
import Derived.WalkLawsBesides
namespace Go.Proofs.YtgldkfaiofkhbaaGreatDoor
open Go Go.RowKit Go.Proofs.Tryz
def uH(l:List (Nat×Nat)):List Value:=l.flatMap λp=>[.int .i64 (p.1:Int),.int .i64 (p.2:Int)]
theorem wW:∀a,(uH a).length=a.length*2
 | []=>rfl
 | b :: a=>by have:=wW a;simp only[uH,List.flatMap_cons,List.length_append,List.length_cons,List.length_nil]at this ⊢;omega
def LB(x:Int):Int:=Lib.bitLen x.toNat
theorem Vj(a:Int)(b:World)(h0:0<=a)(c:a<=18446744073709551615):
  Calls prog 124 #[.int .u64 a] b λd e=>d=.returned (.int .i64 (LB a))/\b=e:=
 (Tryz.bits_Len a b h0 c).mono λ_ _ ⟨d,e⟩=>⟨d,e.symm⟩
