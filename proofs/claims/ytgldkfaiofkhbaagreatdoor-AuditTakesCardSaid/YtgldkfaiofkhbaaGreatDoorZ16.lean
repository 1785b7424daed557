import Derived.Test.YtgldkfaiofkhbaaGreatDoorZ7
import Derived.Test.YtgldkfaiofkhbaaGreatDoorZ15
namespace Go.Proofs.YtgldkfaiofkhbaaGreatDoor
open Go Go.RowKit Go.Proofs.Tryz
set_option maxRecDepth 100000
set_option maxHeartbeats 1000000
theorem Xm(n:Nat)(a:2<=n)(b:n < 18446744073709551616):LB ((n:Int) - 1)=(Nat.log2 (n - 1):Int)+1:=by
 unfold LB;rw[show((n:Int) - 1).toNat=n - 1 by omega];obtain⟨c,a,b⟩:=xC (n:=n - 1) (by omega) (by(have c:(2:Nat) ^ 64=18446744073709551616:=by decide);omega);have:Nat.log2 (n - 1)=Lib.bitLen (n - 1) - 1:=(Nat.log2_eq_iff (by omega)).2 ⟨a,by rw[show Lib.bitLen (n - 1) - 1+1=Lib.bitLen (n - 1) by omega];exact b⟩;omega
theorem nU(a:Nat)(c:2<=a)(j:a < 140737488355328)(b:World):
  Calls prog 292 #[.int .i64 (a:Int)] b λf d=>f=.returned (.int .i64 (ay a:Nat))/\b=d:=by
 obtain⟨b,d⟩:=aS (Nat.log2 (a - 1))
 obtain⟨g,e⟩:=aS (ay a)
 have h:=fK c
 have i:=Xm a c (by omega)
 rw[d.out]at i
 have k:wrap64 ((2:Int) ^ b)=(g:Int):=by
  (have:((2:Int) ^ b)=(g:Int):=by rw[<-e.out,ay,d.out];simp);rw[this];rw[e.out]at h;exact IntWalk.wrap64_in _ (by omega)
 have g:(b:Int) < 47:=by
  have:b < 47:=by
   rw[<-d.out];exact(Nat.log2_lt (by omega)).2 (by(have d:(2:Nat) ^ 47=140737488355328:=by decide);omega)
  omega
 have d:(2:Int)<=(a:Int):=by omega
 have d:(a:Int) < 140737488355328:=by omega
 have d:IntKind.u64.wrap ((a:Int) - 1)=(a:Int) - 1:=dX _ (by omega) (by omega)
 rw[e.out]
 clear h c j
 go_enter func292,ntmps292
 go_wp2_with (go_at_call 124;refine(Vj ((a:Int) - 1) _ (by omega) (by omega)).mono ?_;rw[i];rintro f a ⟨rfl,rfl⟩)
 go_ret
 refine⟨?_,rfl⟩
 show Ending.returned (.int .i64 (wrap64 (2 ^ b)))=_
 rw[k]
def nP(s:Int)(a b:aj):aj:=dP (bB (kb 1 :: (a++b))) (cu s)
def vk(s:Int):aj:=dP (bB []) (cu s)
theorem gY(a:Int)(b c:aj):(nP a b c).length=32:=eT _ _ (eU _) (fD a).2
theorem xY(s:Int):(vk s).length=32:=eT _ _ (eU _) (fD s).2

