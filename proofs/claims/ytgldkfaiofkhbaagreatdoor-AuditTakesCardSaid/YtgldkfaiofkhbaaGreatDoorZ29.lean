import Derived.Test.YtgldkfaiofkhbaaGreatDoorZ1
import Derived.Test.YtgldkfaiofkhbaaGreatDoorShelf
import Derived.Outline
import Derived.IntWalk
namespace Go.Proofs.YtgldkfaiofkhbaaGreatDoor
open Go Go.RowKit Go.Proofs.Tryz
theorem N7(n:Nat)(a:2<=n)(b:n < 18446744073709551616):Lib.bitLen (n - 1)=Nat.log2 (n - 1)+1:=by
 obtain⟨c,a,b⟩:=xC (n:=n - 1) (by omega) (by(have c:(2:Nat) ^ 64=18446744073709551616:=by decide);omega);have:Nat.log2 (n - 1)=Lib.bitLen (n - 1) - 1:=(Nat.log2_eq_iff (by omega)).2 ⟨a,by rw[show Lib.bitLen (n - 1) - 1+1=Lib.bitLen (n - 1) by omega];exact b⟩;omega
theorem KP(n:Nat)(b:2<=n)(c:n<=1099511627776)(a:World):
  Calls prog 124 #[.int .u64 ((n:Int) - 1)] a λc d=>c=.returned (.int .i64 ((Nat.log2 (n - 1):Int)+1))/\a=d:=
 (Tryz.bits_Len ((n:Int) - 1) a ah ah).mono λ_ _ ⟨c,d⟩=>⟨by rw[c,show((n:Int) - 1).toNat=n - 1 by omega,N7 n b ah];rfl,d.symm⟩
