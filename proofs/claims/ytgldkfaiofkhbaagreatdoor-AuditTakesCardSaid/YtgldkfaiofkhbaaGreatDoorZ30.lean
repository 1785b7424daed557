import Derived.Test.YtgldkfaiofkhbaaGreatDoorZ12
import Derived.Test.YtgldkfaiofkhbaaGreatDoorZ29
namespace Go.Proofs.YtgldkfaiofkhbaaGreatDoor
open Go Go.RowKit Go.Proofs.Tryz
set_option maxRecDepth 100000
set_option maxHeartbeats 2000000
theorem tu(a b:Int)(c:gV a b=false):a < 0\/(0<=a/\b < a)\/(0<=a/\a<=b/\1099511627776 < b):=by
 simp only[gV,Bool.and_eq_false_iff,decide_eq_false_iff_not]at c;omega
theorem N8(a c:Int)(d:gV a c=false)(b:World):
  Calls prog 129 #[.int .i64 a,.int .i64 c] b λe f=>e=.returned (.tuple #[.int .i64 0,.bool false])/\b=f:=by
 rcases tu a c d with b |⟨b,e⟩ |⟨b,e,f⟩
 ·have g:=AY b
  clear b d;(go_enter BR,ntmps129);go_wp2_with fail;go_ret2;exact⟨rfl,rfl⟩
 ·have g:decide (a < 0)=false:=AP ah
  have h:=AY e;clear b e d;(go_enter BR,ntmps129);go_wp2_with fail;go_ret2;exact⟨rfl,rfl⟩
 ·have g:decide (a < 0)=false:=AP ah
  have h:decide (c < a)=false:=AP ah;have a:=AY f;clear b e f d;(go_enter BR,ntmps129);go_wp2_with fail;go_ret2;exact⟨rfl,rfl⟩
theorem Jp(a:Nat)(c:a<=1099511627776)(b:World):
  Calls prog 129 #[.int .i64 (0:Nat),.int .i64 a] b λd e=>d=.returned (.tuple #[.int .i64 0,.bool true])/\b=e:=by
 have b:¬((a:Int) < 0):=ah
 have b:¬(1099511627776 < (a:Int)):=ah
 clear c
 go_enter BR,ntmps129
 go_wp2_with fail
 go_ret2
 exact⟨rfl,rfl⟩
theorem Jo(a:Nat)(c:a<=1099511627776)(d:1<=a)(b:World):
  Calls prog 129 #[.int .i64 a,.int .i64 a] b λe f=>e=.returned (.tuple #[.int .i64 0,.bool true])/\b=f:=by
 have b:¬((a:Int) < 0):=ah
 have b:¬(1099511627776 < (a:Int)):=ah
 have b:¬((a:Int) < (a:Int)):=ah
 have b:((a:Int)==0)=false:=beq_eq_false_iff_ne.2 ah
 have b:¬a=0:=ah
 have b:((a:Int)==(a:Int))=true:=beq_self_eq_true _
 clear c d
 go_enter BR,ntmps129
 go_wp2_with fail
 go_ret2
 exact⟨rfl,rfl⟩
theorem Wh{a b:Int}{c d:Bool}(e:a=b)(f:c=d):Ending.returned (.tuple #[.int .i64 a,.bool c])=.returned (.tuple #[.int .i64 b,.bool d]):=by rw[e,f]
theorem N9(b f:Nat)(r:f<=1099511627776)(s:1<=b)(G:b < f)(H:World):
  Calls prog 129 #[.int .i64 b,.int .i64 f] H λh K=>h=.returned (.tuple #[.int .i64 (rz b f true:Nat),.bool true])/\H=K:=by
 have L:¬((b:Int) < 0):=by omega
 have M:¬(1099511627776 < (f:Int)):=by omega
 have N:¬((f:Int) < (b:Int)):=by omega
 have O:((b:Int)==0)=false:=beq_eq_false_iff_ne.2 (by omega)
 have P:¬b=0:=by omega
 have Q:((b:Int)==(f:Int))=false:=beq_eq_false_iff_ne.2 (by omega)
 have R:¬b=f:=by omega
 obtain⟨k,t⟩:=aS (rz b f true)
 have S:Hid (k<=41):=by
  show _<=_;rw[<-t.out];exact oW 40 b f true s (by omega) (by rw[show(2:Nat) ^ 40=1099511627776 by decide];exact r)
 rw[t.out]
 have T:=AA r
 have U:=AA s
 have V:=AA G
 clear r s G
 go_enter BR,ntmps129
 go_wp2_with fail
 clear L M N O P Q R
 go_loop [1,6,7] (λu W v=>∃d m a:Nat,u=.int .i64 (d:Int)/\W=.int .i64 (m:Int)/\v=.int .i64 (a:Int)/\Hid (a < b/\b<=d/\d<=f)/\Hid (m+rz (b - a) (d - a) (decide (a=0))=k)) (λu _ v=>(intOf u - intOf v).toNat)
 case atStart=>exact⟨f,0,0,rfl,rfl,rfl,(by have:=V.out;have:=U.out;show _/\_;omega),(by show _=_;rw[Nat.zero_add,Nat.sub_zero,Nat.sub_zero];exact t)⟩
 case round=>
  obtain⟨d,m,a,rfl,rfl,rfl,j,i⟩:=hrel;have β:a < b:=j.1;have γ:b<=d:=j.2.1;have δ:d<=1099511627776:=AZ j.2.2 T;(have ε:(0:Int)<=(a:Int):=by omega);(have ζ:(a:Int)<=1099511627776:=by omega);(have η:(0:Int)<=(d:Int):=by omega);(have θ:(d:Int)<=1099511627776:=by omega);(have ι:(0:Int)<=(b:Int):=by omega);(have κ:(b:Int)<=1099511627776:=by omega);(have X:Hid (m<=41):=by have:=i.out;have:=S.out;show _<=_;omega);(have μ:(0:Int)<=(m:Int):=by omega);(have b8:(m:Int)<=41:=by have:=X.out;omega);by_cases w:b=d
  ·have Y:((b:Int) - (a:Int)==(d:Int) - (a:Int))=true:=beq_iff_eq.2 (by omega)
   (have Z:(b:Int) - (a:Int)=(d:Int) - (a:Int):=by omega);have x:=ni (n:=b - a) (by omega) (decide (a=0));subst w;have g:=i.out;rw[x]at g;by_cases h0:a=0
   ·subst h0
    (have y:Hid (m=k):=by show _=_;simpa using g);clear g x i;(have z:¬((0:Int) < ((0:Nat):Int)):=by omega);go_wp2_with fail;go_ret2;exact⟨Wh (by rw[y.out]) rfl,rfl⟩
   ·have y:Hid (m+1=k):=by rw[if_neg (by simpa using h0)]at g;exact g
    (have z:(0:Int) < (a:Int):=by omega);clear g x i;go_wp2_with fail;go_ret2;exact⟨Wh (by rw[<-y.out];push_cast;rfl) rfl,rfl⟩
  ·have Y:((b:Int) - (a:Int)==(d:Int) - (a:Int))=false:=beq_eq_false_iff_ne.2 (by omega)
   (have Z:¬((b:Int) - (a:Int)=(d:Int) - (a:Int)):=by omega);obtain⟨e,hd⟩:∃e,d - a=e:=⟨_,rfl⟩;(have o:2<=e:=by omega);have A:=AA (KP e o (by omega));have B:=fK o;have C:=iQ e;have p:=AA (λ(D:b - a<=ay e)=>vU (m:=b - a) (n:=e) (by omega) (by omega) D (decide (a=0)));have q:=AA (λ(D:ay e < b - a)=>tQ (m:=b - a) (n:=e) (by omega) D (decide (a=0)));rw[hd]at i;obtain⟨h,E⟩:=aS (Nat.log2 (e - 1));obtain⟨c,I⟩:=aS (ay e);rw[I.out]at B C p q
   have ν:wrap64 ((2:Int) ^ h)=(c:Int):=by
    (have:((2:Int) ^ h)=(c:Int):=by rw[<-I.out,ay,E.out];simp);rw[this];exact IntWalk.wrap64_in _ (by omega)
   have ξ:(h:Int) < 47:=by
    have:h < 47:=by
     rw[<-E.out];exact(Nat.log2_lt (by omega)).2 (by(have ο:(2:Nat) ^ 47=140737488355328:=by decide);omega)
    omega
   (have ρ:(0:Int)<=(h:Int):=by omega);(have σ:(d:Int) - (a:Int)=(e:Int):=by omega);have τ:IntKind.u64.wrap ((e:Int) - 1)=(e:Int) - 1:=dX _ (by omega) (by omega);(have υ:(e:Int)<=1099511627776:=by omega);(have φ:(2:Int)<=(e:Int):=by omega);(have χ:(c:Int)<=1099511627776:=by omega);(have ψ:(0:Int)<=(c:Int):=by omega);rw[E.out]at A;by_cases J:b<=a+c
   ·have z:(b:Int)<=(a:Int)+(c:Int):=by omega
    have g:Hid (m+1+rz (b - a) (a+c - a) (decide (a=0))=k):=by
     have F:=i.out;rw[p.out (by omega)]at F;show _=_;rw[Nat.add_sub_cancel_left];omega
    (have l:Hid (a < b/\b<=a+c/\a+c<=f/\c < e):=by have:=j.out;show _/\_;omega);clear J B C i j p q w hd o;go_wp2_with (go_at_call 124;refine(A _).mono ?_;rintro h α ⟨rfl,rfl⟩)
    go_round
    case rel=>exact⟨a+c,m+1,a,by go_num,by go_num,rfl,(by have:=l.out;show _/\_;omega),g⟩
    case measure=>(have:=l.out;simp[intOf];omega)
   ·have z:¬((b:Int)<=(a:Int)+(c:Int)):=by omega
    have g:Hid (m+1+rz (b - (a+c)) (d - (a+c)) (decide (a+c=0))=k):=by
     have F:=i.out;rw[q.out (by omega)]at F;show _=_;rw[show b - (a+c)=b - a - c by omega,show d - (a+c)=e - c by omega,decide_eq_false (show ¬a+c=0 by omega)];omega
    (have l:Hid (a+c < b/\b<=d/\d<=f/\0 < c/\a < d):=by have:=j.out;show _/\_;omega);clear J B C i j p q w hd o;go_wp2_with (go_at_call 124;refine(A _).mono ?_;rintro h α ⟨rfl,rfl⟩)
    go_round
    case rel=>exact⟨d,m+1,a+c,rfl,by go_num,by go_num,(by have:=l.out;show _/\_;omega),g⟩
    case measure=>(have:=l.out;simp[intOf];omega)
theorem Di(a b:Nat)(d:b<=1099511627776)(e:a<=b)(c:World):
  Calls prog 129 #[.int .i64 a,.int .i64 b] c λe f=>e=.returned (.tuple #[.int .i64 (oP a b:Nat),.bool true])/\c=f:=by
 unfold oP
 by_cases h0:a=0
 ·subst h0
  rw[if_pos rfl];exact Jp b d c
 ·rw[if_neg h0]
  by_cases e:a=b
  ·subst e
   rw[ni ah];exact Jo a d ah c
  ·exact N9 a b d ah ah c
