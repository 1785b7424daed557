import Derived.Test.YtgldkfaiofkhbaaGreatDoorZ12
import Derived.Outline
import Derived.WalkLawsBesides
import Derived.StillTailTactics
import Derived.Deep.Cut
import Derived.Deep.CutRange
namespace Go.Proofs.YtgldkfaiofkhbaaGreatDoor
open Go Go.RowKit Go.Proofs.Tryz
set_option maxRecDepth 100000
set_option maxHeartbeats 4000000
theorem mG(a:BitVec 32)(c:Int)(b:Nat)(e:c=b)(f:b<=32)(d:World):
  Calls prog 275 #[.int .u32 (u a),.int .i64 c] d λf g=>f=.returned (.int .u32 (u (si a b)))/\∃c,g=d.drewN c:=by
 subst e
 have b:=JO a
 have b:=Xy a
 go_enter func275,ntmps275
 go_wp2_with fail
 go_quiet (fail)
 go_wp2_with fail
 go_ret
 exact⟨by rw[<-V9];rfl,nq,rfl⟩
theorem XA(a:BitVec 32)(b:World):Calls prog 275 #[.int .u32 (u a),.int .i64 2] b λc d=>c=.returned (.int .u32 (u (si a 2)))/\∃e,d=b.drewN e:=mG a 2 2 rfl aR b
theorem V4(a:BitVec 32)(b:World):Calls prog 275 #[.int .u32 (u a),.int .i64 6] b λc d=>c=.returned (.int .u32 (u (si a 6)))/\∃e,d=b.drewN e:=mG a 6 6 rfl aR b
theorem V3(a:BitVec 32)(b:World):Calls prog 275 #[.int .u32 (u a),.int .i64 7] b λc d=>c=.returned (.int .u32 (u (si a 7)))/\∃e,d=b.drewN e:=mG a 7 7 rfl aR b
theorem Ri(a:BitVec 32)(b:World):Calls prog 275 #[.int .u32 (u a),.int .i64 11] b λc d=>c=.returned (.int .u32 (u (si a 11)))/\∃e,d=b.drewN e:=mG a 11 11 rfl aR b
theorem Wz(a:BitVec 32)(b:World):Calls prog 275 #[.int .u32 (u a),.int .i64 13] b λc d=>c=.returned (.int .u32 (u (si a 13)))/\∃e,d=b.drewN e:=mG a 13 13 rfl aR b
theorem Rh(a:BitVec 32)(b:World):Calls prog 275 #[.int .u32 (u a),.int .i64 17] b λc d=>c=.returned (.int .u32 (u (si a 17)))/\∃e,d=b.drewN e:=mG a 17 17 rfl aR b
theorem Rf(a:BitVec 32)(b:World):Calls prog 275 #[.int .u32 (u a),.int .i64 18] b λc d=>c=.returned (.int .u32 (u (si a 18)))/\∃e,d=b.drewN e:=mG a 18 18 rfl aR b
theorem Rc(a:BitVec 32)(b:World):Calls prog 275 #[.int .u32 (u a),.int .i64 19] b λc d=>c=.returned (.int .u32 (u (si a 19)))/\∃e,d=b.drewN e:=mG a 19 19 rfl aR b
theorem Wy(a:BitVec 32)(b:World):Calls prog 275 #[.int .u32 (u a),.int .i64 22] b λc d=>c=.returned (.int .u32 (u (si a 22)))/\∃e,d=b.drewN e:=mG a 22 22 rfl aR b
theorem Rb(a:BitVec 32)(b:World):Calls prog 275 #[.int .u32 (u a),.int .i64 25] b λc d=>c=.returned (.int .u32 (u (si a 25)))/\∃e,d=b.drewN e:=mG a 25 25 rfl aR b
def Em(m:Nat->BitVec 32)(t:Nat)(j:Nat):Value:=.int .u32 (if j < t then u (bX m j)else 0)
theorem yG{b:Nat->BitVec 32}{c a:Nat}(d:a < c):Em b c a=.int .u32 (u (bX b a)):=by unfold Em;rw[if_pos d]
theorem Gu(c:Nat->BitVec 32)(a b:Nat):Em c (a+1) b=if b=a then .int .u32 (u (bX c a))else Em c a b:=by
 unfold Em;by_cases c:b=a
 ·subst c
  rw[if_pos rfl,if_pos ah]
 ·rw[if_neg c]
  by_cases c:b < a
  ·rw[if_pos c,if_pos ah]
  ·rw[if_neg c,if_neg ah]
theorem Pt(b:Nat->BitVec 32):∀a,a < 64->(Array.replicate 64 (Value.int .u32 0))[a]?=some (Em b 0 a):=by
 intro a b;rw[Array.getElem?_replicate,if_pos b];unfold Em;rw[if_neg ah]
def mB(pf:Nat->BitVec 8)(t:Nat):BitVec 32:=sN (pf (4*t)) (pf (4*t+1)) (pf (4*t+2)) (pf (4*t+3))
theorem XG(a:BitVec 32):u a / (8:Int)=u (a >>> 3):=Ru a 3
theorem V8(a:BitVec 32):u a / (1024:Int)=u (a >>> 10):=Ru a 10
theorem GA(a:Nat->BitVec 32)(b:Nat)(c:16<=b):
  bX a (b - 16)+(si (bX a (b - 15)) 7 ^^^ si (bX a (b - 15)) 18 ^^^ bX a (b - 15) >>> 3)+bX a (b - 7)+(si (bX a (b - 2)) 17 ^^^ si (bX a (b - 2)) 19 ^^^ bX a (b - 2) >>> 10)=bX a b:=
 (ED a c).symm
def nK(st R:St)(k j:Nat):Value:=.int .u32 (if j < k then u (st.get j+R.get j)else u (st.get j))
structure Og(w:World)(g:Nat)(T:TypeId)(cs:Array Value)(st R:St)(k:Nat)(w':World)(cs':Array Value):Prop where
 blk:aL w' g T cs'
 size:cs'.size=cs.size
 low:∀j,j < 8->cs'[j]?=some (nK st R k j)
 high:∀j,8<=j->cs'[j]?=cs[j]?
 kept:au (·=g) w w'
theorem Og.step{w:World}{c:Nat}{T:TypeId}{h:Array Value}{d e:St}{a:Nat}{i:World}{f:Array Value}(b:Og w c T h d e a i f)(j:a < 8)(g:Nat):
  ∃k,Og w c T h d e (a+1) ((i.drewN g).setCell ⟨c,a,none⟩ (.int .u32 (u (d.get a+e.get a)))) k:=by
 refine⟨f.setIfInBounds a (.int .u32 (u (d.get a+e.get a))),⟨(b.blk.drewN g).lD a _,by simpa using b.size,λc h=>?_,λc h=>?_,(b.kept.drewN g).setCell (.inl rfl) _⟩⟩
 ·rw[Array.getElem?_setIfInBounds]
  have hs:a < f.size:=by
   have:=b.low a j;exact(Ay.1 this).1
  by_cases d:a=c
  ·subst d
   rw[if_pos rfl,if_pos hs];unfold nK;rw[if_pos ah]
  ·rw[if_neg d,b.low c h]
   unfold nK;by_cases d:c < a
   ·rw[if_pos d,if_pos ah]
   ·rw[if_neg d,if_neg ah]
 ·rw[Array.getElem?_setIfInBounds,if_neg ah]
  exact b.high c h
theorem rG(k:Nat)(o:TypeId)(m:Array Value)(e:St)(i n d:Nat)(c:Nat->BitVec 8)(w:World)
  (a:aL w k o m)(f:∀b,b < 8->m[b]?=some (.int .u32 (u (e.get b))))
  (g:∀b,b < 64->w.cell? ⟨i,n+b,none⟩=some (.int .u8 (b8 (c b))))(t:i < w.heap.size)
  (h:∀b,b < 64->w.cell? ⟨1,b,none⟩=some (.int .u32 (u (K b))))(P:1 < w.heap.size):
  Calls prog 247 #[.pointer (some ⟨k,0,none⟩),.slice (some ⟨i,n,none⟩) 64 d] w λq y=>q=.returned (.tuple #[])/\∃r,Og w k o m e (vZ (mB c) e 64) 8 y r:=by
 obtain⟨d,N⟩:=aS (vZ (mB c) e 64)
 rw[N.out]
 have E:=AA a
 have l:=AA f
 have v:=AA g
 have Q:=AA h
 clear a f g h
 go_enter func247,ntmps247
 go_wp2_with fail
 go_loopw [22] (λg wr=>∃a:Nat,g=.int .i64 (a:Int)/\a<=16/\Hid (iX wr w.heap.size 389 64 (Em (mB c) a))/\Hid (av w wr)) (λg _=>16 - (intOf g).toNat)
 case atStart=>exact⟨0,rfl,ah,iX.new w _ _ 64 _ rfl (Pt _),(Below.refl _ _).alloc (AJ _) _⟩
 case round=>
  obtain⟨a,rfl,s,f,h⟩:=hrel;by_cases j:a < 16
  ·have R:=(h.cell (p:=⟨i,n+4*a,none⟩) t).trans (v _ ah)
   have c1:=(h.cell (p:=⟨i,n+(4*a+1),none⟩) t).trans (v _ ah);have c2:=(h.cell (p:=⟨i,n+(4*a+2),none⟩) t).trans (v _ ah);have x:=(h.cell (p:=⟨i,n+(4*a+3),none⟩) t).trans (v _ ah);have aD:wr.cell? ⟨w.heap.size,a,none⟩=some (Em (mB c) a a):=f.cell ah;have s1:=f.frozen a;have A:(a:Int) < 16:=ah;go_wp2_with fail;have O:(0:Int)<=4*(a:Int):=ah;have i:(0:Int)<=4*(a:Int)+1:=ah;have x:(0:Int)<=4*(a:Int)+2:=ah;have i:(0:Int)<=4*(a:Int)+3:=ah;have z:4*(a:Int) < 64:=ah;have i:4*(a:Int)+1 < 64:=ah;have B:4*(a:Int)+2 < 64:=ah;have i:4*(a:Int)+3 < 64:=ah;have i:(0:Int)<=(a:Int):=ah;have i:(a:Int) < 64:=ah;have C:(4*(a:Int)).toNat=4*a:=ah;have D:(4*(a:Int)+1).toNat=4*a+1:=ah;have i:(4*(a:Int)+2).toNat=4*a+2:=ah;have F:(4*(a:Int)+3).toNat=4*a+3:=ah;have G:=AO (4*(a:Int)) ah;have v:=AO (4*(a:Int)+1) ah;have n:=AO (4*(a:Int)+2) ah;have t:=AO (4*(a:Int)+3) ah;have H:=Oj;have I:=LX;have J:=LY;have L:=Pq;have M:=Wu (c (4*a)) (c (4*a+1)) (c (4*a+2)) (c (4*a+3))
   go_still_tail 35,bH
   change wpList _ _ _ _ _ wr.drew;clear G v n t C D i F H I J L M;go_wp2_with fail;go_roundw
   case rel=>
    refine⟨a+1,by go_num,ah,?_,?_⟩
    ·refine f.drew.lD a _ (λb _=>?_)
     rw[Gu,yM _ j];rfl
    ·exact h.drew.setCell (AJ _) _
   case measure=>simp[intOf];omega
  ·have C:a=16:=ah
   subst C;clear j s;obtain⟨v,rfl⟩:=fB wr;go_wp2_with fail
   go_loopw [6] (λg wr=>∃a:Nat,g=.int .i64 (a:Int)/\16<=a/\a<=64/\Hid (iX wr w.heap.size 389 64 (Em (mB c) a))/\Hid (av w wr)) (λg _=>64 - (intOf g).toNat)
   case atStart=>exact⟨16,rfl,ah,ah,f,h⟩
   case round=>
    clear f h;obtain⟨a,rfl,F,s,f,h⟩:=hrel;by_cases j:a < 64
    ·have v:wr.cell? ⟨w.heap.size,a - 15,none⟩=some (.int .u32 (u (bX (mB c) (a - 15)))):=(f.cell ah).trans (congrArg some (yG ah))
     have c2:wr.cell? ⟨w.heap.size,a - 2,none⟩=some (.int .u32 (u (bX (mB c) (a - 2)))):=(f.cell ah).trans (congrArg some (yG ah));have v:wr.cell? ⟨w.heap.size,a - 16,none⟩=some (.int .u32 (u (bX (mB c) (a - 16)))):=(f.cell ah).trans (congrArg some (yG ah));have v:wr.cell? ⟨w.heap.size,a - 7,none⟩=some (.int .u32 (u (bX (mB c) (a - 7)))):=(f.cell ah).trans (congrArg some (yG ah));have aD:=f.cell ah;have s1:=f.frozen a;have A:(a:Int) < 64:=ah;go_wp2_with fail;have v:(0:Int)<=(a:Int) - 15:=ah;have x:(0:Int)<=(a:Int) - 2:=ah;have v:(a:Int) - 15 < 64:=ah;have B:(a:Int) - 2 < 64:=ah;have v:((a:Int) - 15).toNat=a - 15:=ah;have i:((a:Int) - 2).toNat=a - 2:=ah;have x:=AO ((a:Int) - 15) ah;have n:=AO ((a:Int) - 2) ah
     go_quiet (fail)
     go_wp2_with fail;clear x n v i;have i:(0:Int)<=(a:Int) - 16:=ah;have i:(16:Int)<=(a:Int):=ah;have i:(7:Int)<=(a:Int):=ah;have i:(0:Int)<=(a:Int) - 7:=ah;have O:(0:Int)<=(a:Int):=ah;have i:(a:Int) - 16 < 64:=ah;have i:(a:Int) - 7 < 64:=ah;have i:((a:Int) - 16).toNat=a - 16:=ah;have D:((a:Int) - 7).toNat=a - 7:=ah;have G:=AO ((a:Int) - 16) ah;have H:=AO ((a:Int) - 7) ah;have z:(a:Int) < 64:=ah;have hx:=JG;have B:=zJ;have I:=XG;have J:=V8;refine iA 29 bH bH ?_;simp only[List.take_succ_cons,List.take_zero,List.drop_succ_cons,List.drop_zero]
     repeat(go_big_quiet_step ((first|(go_at_call_of 275 (Value.int IntKind.i64 7);first|(with_reducible exact Calls.quiet_of (V3 _ _)) |(with_reducible exact lu (V3 _ _))) |(go_at_call_of 275 (Value.int IntKind.i64 18);first|(with_reducible exact Calls.quiet_of (Rf _ _)) |(with_reducible exact lu (Rf _ _))) |(go_at_call_of 275 (Value.int IntKind.i64 17);first|(with_reducible exact Calls.quiet_of (Rh _ _)) |(with_reducible exact lu (Rh _ _))) |(go_at_call_of 275 (Value.int IntKind.i64 19);first|(with_reducible exact Calls.quiet_of (Rc _ _)) |(with_reducible exact lu (Rc _ _))))))
     refine wpQuiet_nil ?_;intro _ v;obtain⟨C,x⟩:=v;subst x;clear G H i D hx B I J;go_wp2_with fail;go_roundw
     case rel=>
      refine⟨a+1,by go_num,ah,ah,?_,?_⟩
      ·refine(f.drewN _).lD a _ (λb _=>?_)
       rw[Gu,<-GA _ _ F]
      ·exact(fI h _).setCell (AJ _) _
     case measure=>simp[intOf];omega
    ·have D:a=64:=ah
     subst D;clear j s F;have i:Hid (aL wr k o m):=(h.block k E.lt).trans E;have E:=i.cell 0;have F:=i.cell 1;have G:=i.cell 2;have H:=i.cell 3;have I:=i.cell 4;have J:=i.cell 5;have L:=i.cell 6;have M:=i.cell 7;rw[l.out 0 ah]at E;rw[l.out 1 ah]at F;rw[l.out 2 ah]at G;rw[l.out 3 ah]at H;rw[l.out 4 ah]at I;rw[l.out 5 ah]at J;rw[l.out 6 ah]at L;rw[l.out 7 ah]at M;simp only[St.get]at E F G H I J L M;obtain⟨n,rfl⟩:=fB wr;go_wp2_with fail
     go_quiet (fail)
     clear E F G H I J L M;have f:Hid (iX (n.drewN nq) w.heap.size 389 64 (Em (mB c) 64)):=f;(have h:=AA<|fI h nq);have i:Hid (aL (n.drewN nq) k o m):=i;generalize n.drewN nq=t at*;go_wp2_with fail;simp only[Int.cast_ofNat_Int]
     go_loopw [134,9,10,11,12,13,14,15,16] (λg E F G H I J L M wr=>∃a n:Nat,g=.int .i64 (a:Int)/\a<=64/\E=.int .u32 (u (vZ (mB c) e a).a)/\F=.int .u32 (u (vZ (mB c) e a).b)/\G=.int .u32 (u (vZ (mB c) e a).c)/\H=.int .u32 (u (vZ (mB c) e a).d)/\I=.int .u32 (u (vZ (mB c) e a).e)/\J=.int .u32 (u (vZ (mB c) e a).f)/\L=.int .u32 (u (vZ (mB c) e a).g)/\M=.int .u32 (u (vZ (mB c) e a).h)/\wr=t.drewN n) (λg _ _ _ _ _ _ _ _ _=>64 - (intOf g).toNat)
     case atStart=>exact⟨0,0,rfl,ah,rfl,rfl,rfl,rfl,rfl,rfl,rfl,rfl,rfl⟩
     case round=>
      obtain⟨a,n,rfl,s,rfl,rfl,rfl,rfl,rfl,rfl,rfl,rfl,rfl⟩:=hrel;by_cases j:a < 64
      ·have E:=(f.cell ah).trans (congrArg some (yG ah))
       have E:=(h.cell (p:=⟨1,a,none⟩) P).trans (Q _ ah);have E:Hid (vZ (mB c) e (a+1)=step (K a) (bX (mB c) a) (vZ (mB c) e a)):=rfl;generalize vZ (mB c) e a=F at*;generalize bX (mB c) a=F at*;generalize K a=c at*;have A:(a:Int) < 64:=ah;have c:(0:Int)<=(a:Int):=ah;go_wp2_with fail;have hx:=JG;have c:=Ws;have B:=zJ;have c:=I4;refine wp_region_quiet_lit bH bH ?_
       repeat(go_big_quiet_step ((first|(go_at_call_of 275 (Value.int IntKind.i64 6);first|(with_reducible exact Calls.quiet_of (V4 _ _)) |(with_reducible exact lu (V4 _ _))) |(go_at_call_of 275 (Value.int IntKind.i64 11);first|(with_reducible exact Calls.quiet_of (Ri _ _)) |(with_reducible exact lu (Ri _ _))) |(go_at_call_of 275 (Value.int IntKind.i64 25);first|(with_reducible exact Calls.quiet_of (Rb _ _)) |(with_reducible exact lu (Rb _ _))))))
       refine wpQuiet_nil ?_;intro _ v;obtain⟨C,x⟩:=v;subst x;clear c;go_wp2_with (first|(go_at_call_of 275 (Value.int IntKind.i64 2);refine(XA _ _).mono ?_;rintro q y ⟨rfl,c,rfl⟩) |(go_at_call_of 275 (Value.int IntKind.i64 13);refine(Wz _ _).mono ?_;rintro q y ⟨rfl,c,rfl⟩) |(go_at_call_of 275 (Value.int IntKind.i64 22);refine(Wy _ _).mono ?_;rintro q y ⟨rfl,c,rfl⟩));go_roundw
       case rel=>
        have q:=E.out;refine⟨a+1,_,by go_num,ah,?_,?_,?_,?_,?_,?_,?_,?_,rfl⟩
        all_goals(rw[q];rfl)
       case measure=>simp[intOf];omega
      ·have D:a=64:=ah
       subst D;clear j s;have q:Hid (∃r,Og w k o m e d 0 (t.drewN n) r):=⟨m,⟨i.drewN n,rfl,λb a=>by rw[l.out b a];unfold nK;rw[if_neg ah],λb _=>rfl,au.of_below (fI h n)⟩⟩;rw[N.out];generalize t.drewN n=c at*;clear f h i;go_wp2_with fail;simp only[Int.cast_ofNat_Int]
       have c:∀b,b < 8->(#[Value.int .u32 (u d.a),.int .u32 (u d.b),.int .u32 (u d.c),.int .u32 (u d.d),.int .u32 (u d.e),.int .u32 (u d.f),.int .u32 (u d.g),.int .u32 (u d.h)]:Array Value)[b]?=some (.int .u32 (u (d.get b))):=by
        intro b a
        match b,a with
        | 0,_=>rfl
        | 1,_=>rfl
        | 2,_=>rfl
        | 3,_=>rfl
        | 4,_=>rfl
        | 5,_=>rfl
        | 6,_=>rfl
        | 7,_=>rfl
       have h:=AA c;clear c;generalize(#[Value.int .u32 (u d.a),.int .u32 (u d.b),.int .u32 (u d.c),.int .u32 (u d.d),.int .u32 (u d.e),.int .u32 (u d.f),.int .u32 (u d.g),.int .u32 (u d.h)]:Array Value)=c at*
       go_loopw [206] (λg wr=>∃b:Nat,g=.int .i64 (b:Int)/\b<=8/\Hid (∃r,Og w k o m e d b wr r)) (λg _=>8 - (intOf g).toNat)
       case atStart=>exact⟨0,rfl,ah,q⟩
       case round=>
        obtain⟨b,rfl,a,f⟩:=hrel;by_cases j:b < 8
        ·have a:=λw=>oZ c .i64 (b:Int) (.int .u32 (u (d.get b))) underlying329 (λ_=>rfl) (lq underlying266) ah ah (h b j) w
         have a:=f.out;obtain⟨r,a⟩:=a;have c:=AA a;clear a;have z:=c.low b j
         have R:wr.cell? ⟨k,b,none⟩=some (.int .u32 (u (e.get b))):=by
          have:=c.blk.cell b;rw[z]at this;unfold nK at this;rw[if_neg ah]at this;exact this
         have a:=c.blk.frozen b;have A:(b:Int) < 8:=ah;clear z;go_wp2_with fail;have O:(0:Int)<=(b:Int):=ah;have B:=zJ;refine iA 9 bH bH ?_;simp only[List.take_succ_cons,List.take_zero,List.drop_succ_cons,List.drop_zero]
         repeat(go_big_quiet_step (fail))
         refine wpQuiet_nil ?_;intro _ v;obtain⟨C,x⟩:=v;subst x;go_wp2_with fail;go_roundw
         case rel=>
          exact⟨b+1,by go_num,ah,c.step j C⟩
         case measure=>simp[intOf];omega
        ·have a:b=8:=ah
         subst a;go_wp2_with fail
         go_end0
         exact⟨rfl,f⟩
structure HC(w:World)(g:Nat)(s:St)(k:Nat)(f:Nat->BitVec 8)(n:Nat)(cs:Array Value):Prop where
 blk:aL w g 355 cs
 size:cs.size=73
 one:∀(j:Nat) (v:Value),cs[j]?=some v->v.oneCell'=true
 st:∀j,j < 8->cs[j]?=some (.int .u32 (u (s.get j)))
 buf:∀j,j < k->cs[8+j]?=some (iF (f j))
 cnt:cs[72]?=some (.int .u64 (n:Int))
section
variable {w w':World} {g k n:Nat} {s:St} {f:Nat->BitVec 8} {cs cs':Array Value}
theorem HC.kept{S:Nat->Prop}(a:HC w g s k f n cs)(b:au S w w')(c:¬S g):HC w' g s k f n cs:=⟨a.blk.kept b c,a.size,a.one,a.st,a.buf,a.cnt⟩
theorem HC.below{B:Nat}(h:HC w g s k f n cs)(a:Below B w w')(b:g < B):HC w' g s k f n cs:=⟨(a.block g b).trans h.blk,h.size,h.one,h.st,h.buf,h.cnt⟩
theorem HC.alloc(a:HC w g s k f n cs)(o:Obj):HC (w.alloc o) g s k f n cs:=⟨a.blk.alloc o,a.size,a.one,a.st,a.buf,a.cnt⟩
theorem HC.drewN(a:HC w g s k f n cs)(b:Nat):HC (w.drewN b) g s k f n cs:=⟨a.blk,a.size,a.one,a.st,a.buf,a.cnt⟩
theorem HC.less{c:Nat}{f':Nat->BitVec 8}(a:HC w g s k f n cs)(e:c<=k)(d:∀b,b < c->f' b=f b):HC w g s c f' n cs:=
 ⟨a.blk,a.size,a.one,a.st,λb c=>by rw[d b c];exact a.buf b ah,a.cnt⟩
theorem HC.count(a:HC w g s k f n cs)(c:k<=64)(b:Nat):HC (w.setCell ⟨g,72,none⟩ (.int .u64 (b:Int))) g s k f b (cs.setIfInBounds 72 (.int .u64 (b:Int))):=by
 refine⟨a.blk.lD 72 _,by simpa using a.size,λb h c=>?_,λb d=>?_,λb d=>?_,?_⟩
 ·rw[Array.getElem?_setIfInBounds]at c
  by_cases e:72=b
  ·rw[if_pos e,if_pos (aC a.size)]at c
   obtain rfl:=(AL c).symm;rfl
  ·rw[if_neg e]at c
   exact a.one b h c
 ·rw[Array.getElem?_setIfInBounds,if_neg ah]
  exact a.st b d
 ·rw[Array.getElem?_setIfInBounds,if_neg ah]
  exact a.buf b d
 ·rw[Array.getElem?_setIfInBounds,if_pos rfl,if_pos (aC a.size)]
theorem HC.took{f':Nat->BitVec 8}(d:HC w g s k f n cs)(b:Og w g 355 cs s (vZ (mB f') s 64) 8 w' cs'):HC w' g (mh s (mB f')) k f n cs':=by
 refine⟨b.blk,by rw[b.size,d.size],λa h e=>?_,λa c=>?_,λa c=>?_,?_⟩
 ·by_cases c:a < 8
  ·rw[b.low a c]at e
   obtain rfl:=(AL e).symm;rfl
  ·rw[b.high a ah]at e
   exact d.one a h e
 ·rw[b.low a c,Le]
  unfold nK;rw[if_pos c]
 ·rw[b.high _ ah]
  exact d.buf a c
 ·rw[b.high _ ah]
  exact d.cnt
theorem HC.copied(d:HC w g s k f n cs)(c:aj)(b:Nat)(a:b<=c.length)(e:k+b<=64)(i:aL w' g 355 (splice cs.toList (8+k) (ak (c.take b))).toArray):
  HC w' g s (k+b) (λa=>if a < k then f a else c.getD (a - k) 0) n (splice cs.toList (8+k) (ak (c.take b))).toArray:=by
 have j:(ak (c.take b)).length=b:=by rw[aB];simp;omega
 have hs:cs.toList.length=73:=by simpa using d.size
 have h:∀e,(splice cs.toList (8+k) (ak (c.take b))).toArray[e]?=if e < 8+k then cs[e]? else if e < 8+k+b then(ak (c.take b))[e - (8+k)]? else cs[e]?:=by
  intro e;rw[List.getElem?_toArray,qC _ _ _ ah,j,Array.getElem?_toList]
 refine⟨i,by simp[length_splice _ _ _ (show 8+k+(ak (c.take b)).length<=cs.toList.length by omega)];exact d.size,λa i c=>?_,λa j=>?_,λa j=>?_,?_⟩
 ·rw[h]at c
  by_cases e:a < 8+k
  ·rw[if_pos e]at c
   exact d.one a i c
  ·rw[if_neg e]at c
   by_cases l:a < 8+k+b
   ·rw[if_pos l,eu _ _ (by simp;omega)]at c
    obtain rfl:=(AL c).symm;rfl
   ·rw[if_neg l]at c
    exact d.one a i c
 ·rw[h,if_pos ah]
  exact d.st a j
 ·rw[h]
  by_cases e:a < k
  ·rw[if_pos ah,if_pos e]
   exact d.buf a e
  ·rw[if_neg ah,if_pos ah,if_neg e,eu _ _ (by simp;omega)]
   congr 2;have b:8+a - (8+k)=a - k:=ah;rw[b];simp only[List.getD,List.getElem?_take];rw[if_pos ah]
 ·rw[h,if_neg ah,if_neg ah]
  exact d.cnt
end
def jh(L:aj)(i j:Nat):BitVec 8:=L.getD (64*i+j) 0
theorem WX(a:aj)(b:Nat):Yp a b=mB (jh a b):=by
 funext a;rfl
theorem ng(a:aj)(b:Nat):dZ a (b+1)=mh (dZ a b) (mB (jh a b)):=by rw[dZ,WX]
def Hh(w:World)(g:Nat)(l:aj):Prop:=∃cs,HC w g (dZ l (l.length / 64)) (l.length % 64) (jh l (l.length / 64)) l.length cs
theorem Hh.kept{S:Nat->Prop}{w w':World}{g:Nat}{b:aj}(a:Hh w g b)(c:au S w w')(d:¬S g):Hh w' g b:=by
 obtain⟨cs,a⟩:=a;exact⟨cs,a.kept c d⟩
theorem Hh.lt{w:World}{g:Nat}{b:aj}(a:Hh w g b):g < w.heap.size:=by
 obtain⟨cs,a⟩:=a;exact a.blk.lt
theorem HC.lift{w:World}{g:Nat}{a:aj}{cs:Array Value}(c:HC w g (dZ a (a.length / 64)) (a.length % 64) (jh a (a.length / 64)) a.length cs)(b:aj):
  HC w g (dZ (a++b) (a.length / 64)) (a.length % 64) (jh (a++b) (a.length / 64)) a.length cs:=by
 rw[C9 a b _ ah]
 refine c.less (AJ _) λa b=>?_
 unfold jh
 exact qw _ _ _ ah
theorem zl(c d:aj)(e b a:Nat)(h:c.length=64*e+b):(if a < b then jh (c++d) e a else d.getD (a - b) 0)=jh (c++d) e a:=by
 by_cases c:a < b
 ·rw[if_pos c]
 ·rw[if_neg c]
  unfold jh;rw[ug _ _ _ ah];congr 1;omega
theorem Hh.jD{w:World}{g i r:Nat}{a:aj}{cs:Array Value}(c:r < 64)(d:a.length=64*i+r)(b:HC w g (dZ a i) r (jh a i) a.length cs):Hh w g a:=by
 have c:a.length / 64=i:=ah;have d:a.length % 64=r:=ah;refine⟨cs,?_⟩;rw[c,d];exact b
theorem Lm(a b:aj)(c d e:Nat)(h:a.length+d=64*c):jh (a++b) c e=b.getD (d+e) 0:=by
 unfold jh;rw[ug _ _ _ ah];congr 1;omega
def oM(Z:Array Value):Array Value:=(((((((Z.setIfInBounds 0 (.int .u32 (u fU.a))).setIfInBounds 1 (.int .u32 (u fU.b))).setIfInBounds 2 (.int .u32 (u fU.c))).setIfInBounds 3 (.int .u32 (u fU.d))).setIfInBounds 4 (.int .u32 (u fU.e))).setIfInBounds 5 (.int .u32 (u fU.f))).setIfInBounds 6 (.int .u32 (u fU.g))).setIfInBounds 7 (.int .u32 (u fU.h))
theorem HC.SK{w:World}{g:Nat}{f:Nat->BitVec 8}{a:Array Value}(hs:a.size=73)(d:a.all (λc=>c.oneCell')=true)(e:a[72]?=some (.int .u64 0))(h:aL w g 355 (oM a)):HC w g fU 0 f 0 (oM a):=by
 have i:∀(b:Nat) (c:Value),a[b]?=some c->c.oneCell'=true:=by
  intro b c j;obtain⟨a,rfl⟩:=Ay.1 j;exact Array.all_eq_true.1 d b a
 refine⟨h,by simp[oM,hs],?_,λb a=>?_,λb a=>absurd a ah,?_⟩
 ·unfold oM
  exact jg (jg (jg (jg (jg (jg (jg (jg i _ _ rfl) _ _ rfl) _ _ rfl) _ _ rfl) _ _ rfl) _ _ rfl) _ _ rfl) _ _ rfl
 ·unfold oM
  match b,a with
  | 0,_=>simp[hs,St.get]
  | 1,_=>simp[hs,St.get]
  | 2,_=>simp[hs,St.get]
  | 3,_=>simp[hs,St.get]
  | 4,_=>simp[hs,St.get]
  | 5,_=>simp[hs,St.get]
  | 6,_=>simp[hs,St.get]
  | 7,_=>simp[hs,St.get]
 ·unfold oM
  simpa[Array.getElem?_setIfInBounds,hs]using e
theorem Hh.SK{w:World}{g:Nat}{a:Array Value}(hs:a.size=73)(b:a.all (λc=>c.oneCell')=true)(d:a[72]?=some (.int .u64 0))(e:aL w g 355 (oM a)):Hh w g []:=
 Hh.jD (i:=0) (r:=0) ah rfl (HC.SK hs b d e)
def bn(w:World):Prop:=1 < w.heap.size/\∀j,j < 64->w.cell? ⟨1,j,none⟩=some (.int .u32 (u (K j)))
theorem bn.kept{S:Nat->Prop}{w w':World}(a:bn w)(b:au S w w')(d:¬S 1):bn w':=
 ⟨Ad a.1 b.size,λc e=>(b.cell (p:=⟨1,c,none⟩) a.1 d).trans (a.2 c e)⟩
theorem bn.below{w w':World}{B:Nat}(h:bn w)(a:Below B w w')(c:1 < B):bn w':=
 ⟨by have:=a.size;have:=h.1;omega,λb d=>(a.cell (p:=⟨1,b,none⟩) c).trans (h.2 b d)⟩
theorem QL(a:World):Calls prog 246 #[] a λb c=>
  b=.returned (.agg #[.int .u32 (u fU.a),.int .u32 (u fU.b),.int .u32 (u fU.c),.int .u32 (u fU.d),.int .u32 (u fU.e),.int .u32 (u fU.f),.int .u32 (u fU.g),.int .u32 (u fU.h)])/\av a c:=by
 (go_enter func246,ntmps246);go_wp2_with fail;refine gI (heap_alloc_new a _) bH CF ?_;exact⟨rfl,(Below.refl _ _).alloc (AJ _) _⟩
theorem o7(a:World):Calls prog 184 #[] a λc d=>∃b,c=.returned (.pointer (some ⟨b,0,none⟩))/\a.heap.size<=b/\Hh d b []/\av a d:=by
 (go_enter func184,ntmps184);go_wp2_with (go_at_call 246;refine(QL _).mono ?_;rintro c b ⟨rfl,a⟩);go_ret;exact⟨_,rfl,a.size,Hh.SK bH bH bH (heap_alloc_new b _),a.alloc a.size _⟩
def XW:Value->Nat
 | .slice _ n _=>n
 | _=>0
theorem Pp(f a:aj)(b:Nat)(q:Option Addr)(t:Nat)(w:World)(c:bn w)(α:b≠1)(j:Hh w b f)(v:f.length+a.length < 2305843009213693952)
  (d:ax w 1 q a.length (ak a))(e:0 < a.length->kS q b)(T:a.length<=t):
  Calls prog 185 #[.pointer (some ⟨b,0,none⟩),.slice q a.length t] w λh g=>h=.returned (.tuple #[])/\Hh g b (f++a)/\au (·=b) w g:=by
 obtain⟨F,l⟩:=j
 replace l:=AA (l.lift a)
 have β:=(l.blk.cell 72).trans l.cnt
 have γ:=AA c
 have G:=AA d
 have H:=AA e
 replace v:=AA v
 clear c d e
 obtain⟨c,x⟩:=bG (f.length)
 obtain⟨k,C⟩:=bG (a.length)
 obtain⟨e,d⟩:=bG (c % 64)
 obtain⟨i,g⟩:=bG (c / 64)
 rw[<-x.out]at β l v
 rw[<-C.out]at v G H T ⊢
 rw[<-d.out,<-g.out]at l
 have D:Hid (c=64*i+e/\e < 64):=by have:=d.out;have:=g.out;exact⟨ah,ah⟩
 have U:(c:Int) % 64=(e:Int):=aC d
 have δ:=D.2
 have η:(e:Int) < 64:=ah
 have V:∀(q:Option Addr) (c t m:Nat),m<=c->∀w,(Instr.sliceAt 27 (.slice q c t) (some (.int .i64 (m:Int))) none none).run prog w=.ok (.slice (vM q m t) (c - m) (t - m)) w:=λq c t m s w=>OD AR (λ_=>rfl) s w
 go_enter func185,ntmps185
 go_upto_if 13 with fail
 go_cut [1]from 4 to 44 (λp wc=>∃(d r y:Nat) (z:Option Addr) (I:Nat) (W:Array Value),p=.slice z r I/\r<=I/\Hid (r+d=k)/\Hid (c+d=64*y)/\Hid (HC wc b (dZ (f++a) y) 0 (jh (f++a) y) (c+d) W)/\Hid (ax wc 1 z r (ak (a.drop d)))/\Hid (0 < r->kS z b)/\Hid (au (·=b) w wc))
 case first=>
  by_cases g:0 < e
  ·have g:(0:Int) < (e:Int):=ah
   obtain⟨m,s⟩:=bG (min k (64 - e));have J:m<=k:=aC s;have M:e+m<=64:=aC s;(have A:(ak (a.take m)).length=m:=by rw[aB,List.length_take,<-C.out];omega);have s1:=AA (A.trans (show m=Nat.min k (64 - e)from s));(have O:Hid (0 < (ak (a.take m)).length->(some (⟨b,8+e,none⟩:Addr)=some ⟨b,8+e,none⟩/\∃K,q=some K/\∀g L,(ak (a.take m))[g]?=some L->w.cell? (K.add g)=some L)):=λn=>⟨rfl,ax.src G m J ah⟩);(have Q:Hid (8+e+(ak (a.take m)).length<=F.size):=by show 8+e+(ak (a.take m)).length<=F.size;have:=l.size;omega);have R:=AA (aY (a.take m));have S:=AA A;clear A;have j:=V q k t m J;have j:∀w,(Instr.sliceAt 353 (.pointer (some ⟨b,8,none⟩)) (some (.int .i64 (e:Int))) none none).run prog w=.ok (.slice (some ⟨b,8+e,none⟩) (64 - e) (64 - e)) w:=MB (N:=64) underlying353 bH (λ_=>rfl) δ;clear V;(have ε:IntKind.u64.wrap ((c:Int)+(m:Int))=(c:Int)+(m:Int):=by have:=v.out;exact dX _ ah ah);have j:=AO ((e:Int)+(m:Int)) ah;clear U;by_cases Y:(e:Int)+(m:Int) < 64
   ·go_wp2_with (rw[bY 20];refine l5 (o:=⟨some 20,_,_,_,_,_⟩) rfl (.tmp 18) (.tmp 19) 27 27 rfl 5 AR JZ (some ⟨b,8+e,none⟩) q (64 - e) (64 - e) k t rfl rfl b (8+e) F 355 l.blk (ak (a.take m)) s1 O Q R w (au.refl _ _) m S ?_;intro B E X;obtain⟨u,j⟩:∃u,Hid (HC B b (dZ (f++a) i) (e+m) (jh (f++a) i) c u):=⟨_,(l.copied a m (C.out ▸ J) M E).less (AJ _) (λg _=>(zl f a i e g (x.symm.trans D.1)).symm)⟩;have c1:=(j.blk.cell 72).trans j.cnt;have Z:=j.blk.frozen 72;clear E)
    refine bodyPost_ret (results_none rfl _ _ _) rfl ?_;have ζ:m=k:=aC s;(have h:(f++a).length=c+m:=by rw[List.length_append,<-x.out,<-C.out];omega);have s:=j.count M (c+m);refine⟨rfl,Hh.jD (i:=i) (r:=e+m) ah (aC D.1) (by rw[h];exact s),X.setCell (.inl rfl) _⟩
   ·have s:(e:Int)+(m:Int)=64:=ah
    (have ζ:Hid (e+m=64):=by show e+m=64;omega);clear Y;go_wp2_with (rw[bY 20];refine l5 (o:=⟨some 20,_,_,_,_,_⟩) rfl (.tmp 18) (.tmp 19) 27 27 rfl 5 AR JZ (some ⟨b,8+e,none⟩) q (64 - e) (64 - e) k t rfl rfl b (8+e) F 355 l.blk (ak (a.take m)) s1 O Q R w (au.refl _ _) m S ?_;intro B E X;obtain⟨u,j⟩:∃u,Hid (HC B b (dZ (f++a) i) (e+m) (jh (f++a) i) c u):=⟨_,(l.copied a m (C.out ▸ J) M E).less (AJ _) (λg _=>(zl f a i e g (x.symm.trans D.1)).symm)⟩;have c1:=(j.blk.cell 72).trans j.cnt;have Z:=j.blk.frozen 72;clear E)
    obtain⟨E,s,Z⟩:∃E,Hid (HC (B.setCell ⟨b,72,none⟩ (.int .u64 ((c:Int)+(m:Int)))) b (dZ (f++a) i) 64 (jh (f++a) i) (c+m) E)/\Hid (au (·=b) w (B.setCell ⟨b,72,none⟩ (.int .u64 ((c:Int)+(m:Int))))):=
     ⟨_,by rw[<-ζ.out];exact j.count ah (c+m),X.setCell (.inl rfl) _⟩
    generalize B.setCell ⟨b,72,none⟩ (.int .u64 ((c:Int)+(m:Int)))=M at*;have X:=AA (γ.kept Z (λh=>α h.symm))
    go_still_tail 7,bH
    change wpList _ _ _ _ _ M.drew;go_wp2_with (go_at_call 247;refine(rG b 355 E (dZ (f++a) i) b 8 64 (jh (f++a) i) M.drew s.blk s.st (λg B=>(s.blk.cell (8+g)).trans (s.buf g B)) s.blk.lt X.2 X.1).mono ?_;rintro h X ⟨rfl,Y,E⟩);go_meet
    case rel=>
     have ζ:=Z.drew.trans E.kept (λ_ _ n=>n);refine⟨m,k - m,i+1,_,_,Y,rfl,ah,?_,?_,?_,?_,λn=>zk (H ah),ζ⟩
     ·show k - m+m=k;omega
     ·show c+m=64*(i+1);have:=D.1;omega
     ·show HC _ _ _ _ _ _ _
      rw[ng];exact(HC.took (f':=jh (f++a) i) (w:=M.drew) (s.drewN 1) E).less (AX _) (λg B=>absurd B ah)
     ·show ax _ _ _ _ _
      have M:=ax.cut G m J T;(have Z:(ak a).drop m=ak (a.drop m):=by simp[ak]);rw[Z]at M;exact M.pY ζ (λn s o h J=>zk (H ah) _ h J)
  ·have ζ:e=0:=ah
   have ζ:(e:Int)=0:=ah;go_wp2_with fail;go_meet
   case rel=>
    refine⟨0,k,i,q,t,F,rfl,T,rfl,?_,?_,?_,H,au.refl _ _⟩
    ·show c+0=64*i;have:=D.1;omega
    ·exact l.less (AX _) (λg B=>absurd B ah)
    ·exact G
 case rest=>
  obtain⟨θ,ι,κ,μ,ν,ξ,rfl,e,q,t,D,F,T,ζ⟩:=hcut;clear β G H l η U δ V;obtain⟨l,rfl⟩:=fB wc;go_wp2_with fail
  go_loopw [1] (λp wc=>∃(d r y:Nat) (z:Option Addr) (I:Nat) (W:Array Value),p=.slice z r I/\r<=I/\Hid (r+d=k)/\Hid (c+d=64*y)/\Hid (HC wc b (dZ (f++a) y) 0 (jh (f++a) y) (c+d) W)/\Hid (ax wc 1 z r (ak (a.drop d)))/\Hid (0 < r->kS z b)/\Hid (au (·=b) w wc)) (λp _=>XW p)
  case atStart=>exact⟨θ,ι,κ,μ,ν,ξ,rfl,e,q,t,D,F,T,ζ⟩
  case round=>
   clear D F T ζ q t e;obtain⟨d,r,g,z,c1,u,rfl,I,l,q,j,e,G,D⟩:=hrel;have y:=AA (γ.kept D (λh=>α h.symm));by_cases T:(64:Int)<=(r:Int)
   ·obtain⟨s,o,t⟩:∃s o,z=some ⟨s,o,none⟩:=by obtain⟨s,o,h,_⟩:=e.2 ah;exact⟨s,o,h⟩
    subst t;(have t:s < wr.heap.size:=by obtain⟨F,H,h,J,_⟩:=e.2 ah;injection h with h;injection h with U;omega);have F:=AA t;clear t;have t:∀w,(Instr.sliceAt 27 (.slice (some ⟨s,o,none⟩) r c1) none (some (.int .i64 64)) none).run prog w=.ok (.slice (some ⟨s,o,none⟩) 64 c1) w:=Ry (m:=64) AR (λ_=>rfl) ah;have t:∀w,(Instr.sliceAt 27 (.slice (some ⟨s,o,none⟩) r c1) (some (.int .i64 64)) none none).run prog w=.ok (.slice (vM (some ⟨s,o,none⟩) 64 c1) (r - 64) (c1 - 64)) w:=OD (m:=64) AR (λ_=>rfl) ah;go_wp2_with fail
    go_still_tail 5,bH
    change wpList _ _ _ _ _ wr.drew;go_wp2_with (go_at_call 247;refine(rG b 355 u (dZ (f++a) g) s o c1 (jh (f++a) g) wr.drew j.blk j.st (λt hx=>(ax.Yv e t ah).trans (by rw[Lm f a g d t (by rw[<-x.out];exact q.out)])) F y.2 y.1).mono ?_;rintro h X ⟨rfl,Y,E⟩;obtain⟨F,y⟩:∃F,Hid (HC X b (dZ (f++a) (g+1)) 0 (jh (f++a) (g+1)) (c+d) F):=⟨Y,by rw[ng];exact(HC.took (f':=jh (f++a) g) (w:=wr.drew) (j.drewN 1) E).less (AX _) (λg B=>absurd B ah)⟩;have B:=(y.blk.cell 72).trans y.cnt;have B:=y.blk.frozen 72;have H:=AA E.kept;have ε:IntKind.u64.wrap ((c:Int)+(d:Int)+64)=(c:Int)+(d:Int)+64:=(by have:=v.out;have:=l.out;exact dX _ ah ah);clear E);go_roundw
    case rel=>
     have E:=D.drew.trans H (λ_ _ n=>n);have M:=ax.cut e 64 ah I;(have Z:(ak (a.drop d)).drop 64=ak (a.drop (d+64)):=by simp[ak]);rw[Z]at M;have B:au (·=b) wr (X.setCell ⟨b,72,none⟩ (.int .u64 ((c:Int)+(d:Int)+64))):=((au.refl (·=b) wr).drew.trans H (λ_ _ n=>n)).setCell (p:=⟨b,72,none⟩) (.inl rfl) _;have hs:c+(d+64)=c+d+64:=ah;refine⟨d+64,r - 64,g+1,_,_,F.setIfInBounds 72 (.int .u64 ((c+d+64:Nat):Int)),rfl,ah,?_,?_,?_,M.pY B (λn s o h J=>zk (G ah) _ h J),λn=>zk (G ah),E.setCell (.inl rfl) _⟩
     ·show r - 64+(d+64)=k;have:=l.out;omega
     ·show c+(d+64)=64*(g+1);have:=q.out;omega
     ·rw[hs];exact y.count ah (c+d+64)
    case measure=>simp[XW];omega
   ·have h:(r:Int) < 64:=ah
    clear T;go_wp2_with fail;have h:=(j.blk.cell 72).trans j.cnt;have h:=j.blk.frozen 72;(have h:(a.drop d).length=r:=by have:=e.1;rw[aB]at this;omega);(have A:(ak ((a.drop d).take r)).length=r:=by rw[aB,List.length_take,h];omega);have s1:Hid ((ak ((a.drop d).take r)).length=Nat.min r 64):=A.trans (Nat.min_eq_left ah).symm;(have O:Hid (0 < (ak ((a.drop d).take r)).length->(some (⟨b,8,none⟩:Addr)=some ⟨b,8+0,none⟩/\∃K,z=some K/\∀g L,(ak ((a.drop d).take r))[g]?=some L->wr.cell? (K.add g)=some L)):=λn=>⟨rfl,ax.src e r (AJ _) ah⟩);(have Q:Hid (8+0+(ak ((a.drop d).take r)).length<=u.size):=by show 8+0+(ak ((a.drop d).take r)).length<=u.size;have:=j.size;omega);have R:=AA (aY ((a.drop d).take r));have S:=AA A;have s:=AA h;(have ε:IntKind.u64.wrap ((c:Int)+(d:Int)+(r:Int))=(c:Int)+(d:Int)+(r:Int):=by have:=v.out;have:=l.out;exact dX _ ah ah);(have e:IntKind.u64.wrap (r:Int)=(r:Int):=by exact dX _ ah ah);clear A h
    go_region_law (refine Et (P:=prog) (w:=wr.drew) (o:=⟨some 72,_,_,_,_,_⟩) rfl (.tmp 70) (.tmp 71) 27 27 rfl 5 AR JZ (some ⟨b,8,none⟩) z 64 64 r c1 ?hd ?hs b (8+0) u 355 j.blk (ak ((a.drop d).take r)) s1 O Q R wr ((au.refl _ wr).drew) r S ?_;(case hd=>go_simp);(case hs=>go_simp);intro u h B;obtain⟨k,e⟩:∃k,Hid (HC u b (dZ (f++a) g) r (jh (f++a) g) (c+d) k):=⟨_,(j.copied (a.drop d) r (s.out ▸ AJ _) ah h).less ah (λt _=>by rw[Lm f a g d t (by rw[<-x.out];exact q.out),if_neg ah];simp[List.getD])⟩;have j:=(e.blk.cell 72).trans e.cnt;have j:=e.blk.frozen 72;clear h)
    all_goals go_end0
    all_goals
     have h:(f++a).length=c+d+r:=by rw[List.length_append,<-x.out,<-C.out];have:=l.out;omega
     have a:=e.count ah (c+d+r)
     refine⟨rfl,Hh.jD (i:=g) (r:=r) ah (aC q) (by rw[h];exact a),?_⟩
     exact(D.trans B (λ_ _ n=>n)).setCell (p:=⟨b,72,none⟩) (.inl rfl) _
def IV(n:Nat):Nat:=(119 - n % 64) % 64+1
theorem U1(a:Nat):1<=IV a/\IV a<=64/\(a+IV a) % 64=56:=by unfold IV;omega
theorem R4(b a:Nat)(d:1<=a)(c:a < IV b):(b % 64+a) % 64≠56:=by unfold IV at c;omega
theorem R3(a:Nat):(a % 64+IV a) % 64=56:=by unfold IV;omega
theorem rE(d e:aj)(b:Nat)(i:e.length=b)(a:Nat)(f:Option Addr)(g:Nat)(c:World)(j:bn c)(k:a≠1)(l:Hh c a d)(m:d.length+b < 2305843009213693952)
  (n:ax c 1 f b (ak e))(o:0 < b->kS f a)(p:b<=g):
  Calls prog 185 #[.pointer (some ⟨a,0,none⟩),.slice f b g] c λq h=>q=.returned (.tuple #[])/\Hh h a (d++e)/\au (·=a) c h:=by
 subst i
 exact Pp d e a f g c j k l m n o p
theorem Uy:(prog.info? 355).map (·.size)=some 73:=by kernel_rfl
theorem Uz:(prog.info? 351).map (·.size)=some 8:=by kernel_rfl
def sG(n K i j:Nat):Value:=.int .u8 (if j=0 then 128 else if K<=j/\j < K+i then b8 (tX n (56 - 8*(j - K)))else 0)
theorem K8(c K b a:Nat)(d:1<=K):sG c K (b+1) a=if a=K+b then .int .u8 (b8 (tX c (56 - 8*b)))else sG c K b a:=by
 unfold sG;by_cases c:a=K+b
 ·subst c
  rw[if_pos rfl,if_neg ah,if_pos ah];congr 4;omega
 ·rw[if_neg c]
  by_cases h0:a=0
  ·rw[if_pos h0,if_pos h0]
  ·rw[if_neg h0,if_neg h0]
   by_cases c:K<=a/\a < K+b
   ·rw[if_pos c,if_pos ah]
   ·rw[if_neg c,if_neg ah]
theorem TQ(a b:Nat)(c:8*a < 18446744073709551616):(8*(a:Int)) / 2 ^ b % 256=b8 (tX a b):=by
 unfold b8 tX;rw[BitVec.toNat_ofNat,Nat.mod_eq_of_lt c];simp
theorem K7(c K a:Nat)(b:Array Value)(d:b=Array.replicate 128 (.int .u8 0))(e:a < 128):(b.setIfInBounds 0 (.int .u8 128))[a]?=some (sG c K 0 a):=by
 subst d;unfold sG;rw[Array.getElem?_setIfInBounds];by_cases b:a=0
 ·subst b
  simp
 ·rw[if_neg ah,if_neg b,if_neg ah,Array.getElem?_replicate,if_pos e]
theorem Ji{c K a:Nat}(d:1<=K){e:Value}(b:(ak (xA c K))[a]?=some e):sG c K 8 a=e:=by
 have c:a < K+8:=by
  have:=(AU.1 b).1;rw[aB,tF _ _ d]at this;exact this
 rw[eu _ _ (by rw[tF _ _ d];exact c)]at b;obtain rfl:=AL b;unfold sG iF;congr 1;unfold xA;by_cases h0:a=0
 ·subst h0
  rw[if_pos rfl];simp[List.getD,b8]
 ·rw[if_neg h0]
  by_cases b:K<=a/\a < K+8
  ·rw[if_pos b,ug _ _ _ (by simp;omega)]
   simp only[List.length_append,List.length_singleton,List.length_replicate];simp only[List.getD,List.getElem?_map];rw[List.getElem?_range ah];simp only[Option.map_some,Option.getD_some];congr 2;omega
  ·rw[if_neg b,qw _ _ _ (by simp;omega),ug _ _ _ (by simp;omega)]
   simp only[List.getD,List.getElem?_replicate,List.length_singleton];rw[if_pos ah];rfl
def mD(S:St)(t j:Nat):Value:=.int .u8 (if j < t then b8 (nH (S.get (j / 4)) (24 - 8*(j % 4)))else 0)
theorem KC(d:St)(b a c:Nat)(e:a < 4):mD d (4*b+(a+1)) c=if c=4*b+a then .int .u8 (b8 (nH (d.get b) (24 - 8*a)))else mD d (4*b+a) c:=by
 unfold mD;by_cases d:c=4*b+a
 ·subst d
  rw[if_pos rfl,if_pos ah];have e:(4*b+a) / 4=b:=ah;have f:(4*b+a) % 4=a:=ah;rw[e,f]
 ·rw[if_neg d]
  by_cases d:c < 4*b+a
  ·rw[if_pos d,if_pos ah]
  ·rw[if_neg d,if_neg ah]
theorem EW(b:aj)(c:Array Value)(hs:c.size=32)(d:∀a,a < 32->c[a]?=some (mD (dZ (gF b) (fq b.length / 64)) 32 a)):c=(ak (bB b)).toArray:=by
 apply Array.ext_getElem?;intro a;by_cases b:a < 32
 ·rw[d a b,List.getElem?_toArray,eu _ _ (by rw[eU];exact b)]
  unfold mD bB uq iF;rw[if_pos b];simp only[List.getD,List.getElem?_map];rw[List.getElem?_range b];rfl
 ·rw[Array.getElem?_eq_none ah,List.getElem?_toArray,List.getElem?_eq_none (by rw[aB,eU];omega)]
theorem CW(b:St)(a:Nat)(c:a < 32):bF[a]?=some (mD b 0 a):=by
 have a:bF=Array.replicate 32 (.int .u8 0):=rfl;rw[a,Array.getElem?_replicate,if_pos c];unfold mD;rw[if_neg ah]
theorem M5(a:aj):(gF a).length=fq a.length:=by simp[gF]
def pR(S:St):List Value:=(List.range 8).map λj=>.int .u32 (u (S.get j))
theorem mX(a:St):(pR a).length=8:=by simp[pR]
theorem vW(b:St)(a:Nat)(c:a < 8):(pR b)[a]?=some (.int .u32 (u (b.get a))):=by
 unfold pR;rw[List.getElem?_map,List.getElem?_range c];rfl
theorem Ur{d:World}{e g h:Nat}{b:St}{i:Nat->BitVec 8}{j:Array Value}(f:HC d e b g i h j):∀a c,(pR b)[a]?=some c->d.cell? ⟨e,0+a,none⟩=some c:=by
 intro a c d
 have c:a < 8:=by
  have:=(AU.1 d).1;rwa[mX]at this
 rw[Nat.zero_add,f.blk.cell a,f.st a c,<-vW b a c,d]
theorem Rk{a b:World}{k e f:Nat}{g:St}{h:Nat->BitVec 8}{d:Array Value}(c:HC a k g e h f d){i l:Array Value}{j:TypeId}
  (k:((a.alloc (.cells i j)).alloc (.cells l 355)).setRow (a.heap.size+1) d=b):
  HC b (a.heap.size+1) g e h f d/\aL b a.heap.size j i/\av a b/\b.heap.size=a.heap.size+2:=by
 subst k
 refine⟨⟨setRow_heap _ _ _ _ _ _ (heap_alloc2_new a _ _),c.size,c.one,c.st,c.buf,c.cnt⟩,?_,?_,by simp⟩
 ·unfold aL
  rw[setRow_other _ _ _ _ ah];exact heap_alloc2_old a _ _
 ·exact below_setRow (((Below.refl _ a).alloc (AJ _) _).alloc aZ _) ah _
theorem DW(e:aj)(q:Nat)(c:World)(n:bn c)(a:Hh c q e)(o:e.length < 288230376151711744):
  bq 186 #[.pointer (some ⟨q,0,none⟩)] c (.agg (ak (bB e)).toArray):=by
 obtain⟨z,b⟩:=a
 obtain⟨f,l⟩:=bG (e.length)
 replace b:=AA b
 have D:=AA b.blk.lt
 have E:Hid (c.cell? ⟨q,72,none⟩=some (.int .u64 (f:Int))):=l.out ▸ (b.blk.cell 72).trans b.cnt
 replace n:=AA n
 replace o:Hid (f < 288230376151711744):=l.out ▸ o
 have a:IntKind.u64.wrap (8*(f:Int))=8*(f:Int):=by have:=o.out;exact dX _ ah ah
 have y:=AA<|Uy.trans (congrArg some b.size.symm)
 have C:=AA<|Array.all_eq_true.2 λa x=>b.one a _ (Array.getElem?_eq_getElem x)
 go_enter func186,ntmps186
 go_wp2_with (first|(rw[aF 14];refine aM (b.blk.alloc _) y underlying355 ?_) |(rw[bA 355 _];refine fw (heap_alloc2_new c _ _) y (Eq.trans bH b.size.symm) C ?_;generalize d:World.setRow _ (c.heap.size+1) z=t;obtain⟨g,v,k,m⟩:=Rk b d;replace g:=AA g;replace v:=AA v;replace k:=AA k;replace m:=AA m;have F:t.cell? ⟨c.heap.size+1,72,none⟩=some (.int .u64 (f:Int)):=(l.out ▸ (g.blk.cell 72).trans g.cnt);clear d))
 obtain⟨i,w⟩:=bG (t.heap.size)
 obtain⟨K,A⟩:=bG (IV f)
 have r:Hid (1<=K/\K<=64/\(f+K) % 64=56):=A.out ▸ U1 f
 obtain⟨h,j,O⟩:∃h,Hid (h=t.alloc (Obj.cells (zeroCells356.setIfInBounds 0 (Value.int IntKind.u8 128)) 356))/\Hid (iX h i 356 128 (sG f K 0)):=
  ⟨_,rfl,by show iX _ _ _ _ _;rw[w.out];exact iX.new t _ _ 128 _ bH (λd s=>K7 f K d _ bH s)⟩
 have P:Hid (HC h (c.heap.size+1) (dZ e (e.length / 64)) (e.length % 64) (jh e (e.length / 64)) e.length z):=j.out ▸ g.alloc _
 have t:=v.alloc (Obj.cells (zeroCells356.setIfInBounds 0 (Value.int IntKind.u8 128)) 356)
 rw[<-j.out]at t
 have M:Hid (aL h c.heap.size 23 bF):=t
 clear t
 have B:Hid (Below c.heap.size c h):=j.out ▸ k.alloc k.size _
 have t:Hid (i=c.heap.size+2/\h.heap.size=i+1):=by show _/\_;rw[w.out,j.out,m.out];simp[m.out]
 have G:=(B.cell (p:=⟨q,72,none⟩) D).trans E
 rw[<-w.out,<-j.out]
 clear j g v k m F w b y C
 obtain⟨q,y⟩:=bG (f % 64)
 have Q:(f:Int) % 64=(q:Int):=aC y
 go_loopw [6] (λg wr=>∃b:Nat,g=.int .i64 (b:Int)/\Hid (1<=b/\b<=K)/\wr=h) (λg _=>64 - (intOf g).toNat)
 case atStart=>exact⟨1,rfl,⟨AJ _,r.1⟩,rfl⟩
 case round=>
  obtain⟨b,rfl,k,rfl⟩:=hrel;(have R:IntKind.i64.wrap ((q:Int)+(b:Int))=(q:Int)+(b:Int):=by have:=y.out;have:=k.out;have:=r.out;exact AO _ ah);have m:(0:Int)<=(q:Int)+(b:Int):=ah;have j:(b:Int)<=64:=dn k r;have j:(1:Int)<=(b:Int):=aC k;by_cases j:b=K
  ·have C:((q:Int)+(b:Int)) % 64=56:=by have:=R3 f;rw[<-A.out,<-y.out,<-j]at this;omega
   subst j;go_wp2_with fail;clear R m C Q G;obtain⟨h,rfl⟩:=fB wr
   go_loopw [31] (λg wr=>∃a:Nat,g=.int .i64 (a:Int)/\a<=8/\Hid (iX wr i 356 128 (sG f b a))/\Hid (Below i h wr)) (λg _=>8 - (intOf g).toNat)
   case atStart=>exact⟨0,rfl,ah,O,Below.refl _ _⟩
   case round=>
    obtain⟨a,rfl,x,h,j⟩:=hrel;by_cases D:a < 8
    ·have Y:(a:Int) < 8:=ah
     have aD:wr.cell? ⟨i,b+a,none⟩=some (sG f b a (b+a)):=h.cell ah;have s1:wr.frozen? ⟨i,b+a,none⟩=false:=h.frozen _;have E:=AO ((b:Int)+(a:Int)) ah;have F:=AO (8*(a:Int)) ah;have G:=AO (56 - 8*(a:Int)) ah;have Z:(0:Int)<=56 - 8*(a:Int):=ah;have H:(56 - 8*(a:Int)).toNat=56 - 8*a:=ah;have α:(0:Int)<=(b:Int)+(a:Int):=ah;have β:(b:Int)+(a:Int) < 128:=ah;have I:((b:Int)+(a:Int)).toNat=b+a:=ah;go_wp2_with fail;go_roundw
     case rel=>
      refine⟨a+1,by go_num,ah,h.lD (b+a) _ (λd _=>?_),j.setCell (AJ _) _⟩;rw[K8 f b a d k.out.1,TQ f (56 - 8*a) (aC o)]
     case measure=>clear E F G H I;simp[intOf];omega
    ·have J:a=8:=ah
     subst J;clear D x;obtain⟨v,rfl⟩:=fB wr;(have m:=AA<|B.trans (j.mono (aC t)));have S:Hid (Hh v (c.heap.size+1) e):=⟨z,P.below j (aC t)⟩;(have T:=AA<|n.below m n.1);have z:∀c,(Instr.sliceAt 356 (.pointer (some ⟨i,0,none⟩)) none (some (.int .i64 ((b:Int)+8))) none).run prog c=.ok (.slice (some ⟨i,0,none⟩) (b+8) 128) c:=Ka (N:=128) underlying356 bH (λ_=>rfl) ah _ ah
     have U:Hid (ax v 1 (some ⟨i,0,none⟩) (b+8) (ak (xA f b))):=⟨by rw[aB,tF _ _ k.out.1];omega,λ_=>⟨i,0,rfl,h.lt,λd u w=>by
      have s:d < b+8:=by
       have:=(AU.1 w).1;rw[aB,tF _ _ k.out.1]at this;exact this
      rw[Nat.zero_add,h.out.cell ah,Ji k.out.1 w]⟩⟩
     have V:Hid (kS (some ⟨i,0,none⟩) (c.heap.size+1)):=λq w=>by
      (injection w with w);subst w;have:=t.out;show i≠c.heap.size+1;omega
     (have L:Hid (c.heap.size+1≠1):=by have:=n.1;show c.heap.size+1≠1;omega);(have X:Hid (e.length+(b+8) < 2305843009213693952):=by have:=o.out;rw[l.out]at this;show _ < _;omega);have o:Hid (e++xA f b=gF e):=l.out ▸ Tw e b k.1 r.2.1 (by rw[<-l.out];exact r.2.2);obtain⟨l,W⟩:=bG (dZ (gF e) (fq e.length / 64));go_wp2_with (first|(rw[aF 50];refine bS (Ur (n.alloc _)) (Uz.trans (congrArg some (mX l).symm)) CF ?_) |(go_at_call 185;refine(rE e (xA f b) (b+8) (tF f b k.1) (c.heap.size+1) (some ⟨i,0,none⟩) 128 v T L S X U (λ_=>V) ah).mono ?_;rintro w v ⟨rfl,n,i⟩;rw[o.out]at n;obtain⟨o,n⟩:=n;rw[M5,<-W.out]at n;replace n:=AA n;replace i:=AA i));clear z;have L:Hid (aL v c.heap.size 23 bF):=(i.block c.heap.size (dn t j.size) ah).trans ((j.block c.heap.size (aC t)).trans M);have M:Hid (Below c.heap.size c v):=⟨i.os.trans m.os,i.tape.trans m.tape,i.output.trans m.output,AZ m.size i.size,λz hx=>(i.block z (aC m.size) ah).trans (m.block z hx)⟩;obtain⟨o,hF⟩:=bG (v.heap.size);obtain⟨t,w⟩:=bG (v.alloc (Obj.cells #[.int .u8 0,.int .u8 0,.int .u8 0,.int .u8 0,.int .u8 0,.int .u8 0,.int .u8 0,.int .u8 0,.int .u8 0,.int .u8 0,.int .u8 0,.int .u8 0,.int .u8 0,.int .u8 0,.int .u8 0,.int .u8 0,.int .u8 0,.int .u8 0,.int .u8 0,.int .u8 0,.int .u8 0,.int .u8 0,.int .u8 0,.int .u8 0,.int .u8 0,.int .u8 0,.int .u8 0,.int .u8 0,.int .u8 0,.int .u8 0,.int .u8 0,.int .u8 0] 23));(have X:Hid (iX t o 23 32 (mD l 0)):=by show iX _ _ _ _ _;rw[hF.out,w.out];exact iX.new v _ _ 32 _ rfl (λd s=>CW l d s));have γ:Hid (aL t c.heap.size 23 bF):=w.out ▸ L.alloc _;have δ:Hid (Below c.heap.size c t):=w.out ▸ M.alloc M.size _;have v:Hid (c.heap.size < o):=hF.out ▸ L.lt;rw[<-hF.out,<-w.out];clear w L M i n S T U V m j h P B O hF
     go_loopw [51] (λg wr=>∃a:Nat,g=.int .i64 (a:Int)/\a<=8/\Hid (iX wr o 23 32 (mD l (4*a)))/\Hid (Below o t wr)) (λg _=>8 - (intOf g).toNat)
     case atStart=>exact⟨0,rfl,ah,X,Below.refl _ _⟩
     case round=>
      clear X;obtain⟨a,rfl,x,h,j⟩:=hrel;by_cases D:a < 8
      ·have Y:(a:Int) < 8:=ah
       (have i:=λc=>oZ (pR l).toArray .i64 (a:Int) (.int .u32 (u (l.get a))) CF (λ_=>rfl) (lq underlying266) ah ah (by rw[Int.toNat_natCast,List.getElem?_toArray];exact vW l a D) c);obtain⟨m,rfl⟩:=fB wr;go_wp2_with fail;clear i
       go_loopw [55] (λg wr=>∃d:Nat,g=.int .i64 (d:Int)/\d<=4/\Hid (iX wr o 23 32 (mD l (4*a+d)))/\Hid (Below o t wr)) (λg _=>4 - (intOf g).toNat)
       case atStart=>exact⟨0,rfl,ah,h,j⟩
       case round=>
        clear h j;obtain⟨d,rfl,s,h,j⟩:=hrel;by_cases i:d < 4
        ·have n:(d:Int) < 4:=ah
         have aD:wr.cell? ⟨o,4*a+d,none⟩=some (mD l (4*a+d) (4*a+d)):=h.cell ah;have s1:wr.frozen? ⟨o,4*a+d,none⟩=false:=h.frozen _;have E:=AO (4*(a:Int)+(d:Int)) ah;have F:=AO (8*(d:Int)) ah;have G:=AO (24 - 8*(d:Int)) ah;have Z:(0:Int)<=24 - 8*(d:Int):=ah;have H:(24 - 8*(d:Int)).toNat=24 - 8*d:=ah;have α:(0:Int)<=4*(a:Int)+(d:Int):=ah;have β:4*(a:Int)+(d:Int) < 32:=ah;have I:(4*(a:Int)+(d:Int)).toNat=4*a+d:=ah;have n:=AO (4*(a:Int)) ah;go_wp2_with fail;go_roundw
         case rel=>
          refine⟨d+1,by go_num,ah,h.lD (4*a+d) _ (λz _=>?_),j.setCell (AJ _) _⟩;rw[KC l a d z i,Q9]
         case measure=>clear E F G H I n;simp[intOf];omega
        ·have i:d=4:=ah
         subst i;go_wp2_with fail;go_roundw
         case rel=>
          exact⟨a+1,by go_num,ah,h,j⟩
         case measure=>simp[intOf];omega
      ·have J:a=8:=ah
       subst J;obtain⟨m,rfl⟩:=fB wr;obtain⟨n,i,a,l⟩:=h.out;have d:=EW e n a (W.out ▸ l);rw[d]at i;have n:=AA i;have h:Hid ((prog.info? 23).map (·.size)=some (ak (bB e)).toArray.size):=jN.trans (congrArg some (by rw[<-d,a]));have o:=AA (by rw[<-d,a];rfl:(bF:Array Value).size=(ak (bB e)).toArray.size);(have s:Hid ((ak (bB e)).toArray.all (λg=>g.oneCell')=true):=by show Array.all _ _=true;rw[List.all_toArray];exact List.all_eq_true.2 (aY (bB e)));have e:Hid (aL m c.heap.size 23 bF):=(j.block c.heap.size v).trans γ;clear i d l a;go_wp2_with (first|(rw[aF 71];refine aM n h AB ?_) |(rw[bA 23 _];refine fw e h o s ?_));refine gI (setRow_heap _ _ _ _ _ _ e) h AB ?_;exact⟨rfl,below_setRow (δ.trans (j.mono (aC v))) (AJ _) _⟩
  ·have C:((q:Int)+(b:Int)) % 64≠56:=by have:=R4 f b k.1 (by rw[<-A.out];have:=k.out;omega);rw[<-y.out]at this;omega
   go_wp2_with fail;go_roundw
   case rel=>
    exact⟨b+1,by go_num,by have:=k.out;show _/\_;omega,by trivial⟩
   case measure=>have:=k.out;have:=r.out;clear R C Q;simp[intOf];omega
theorem fA(a:BitVec 32)(c:Int)(b:Nat)(e:c=b)(f:b<=32)(d:World):
  Calls prog 227 #[.int .u32 (u a),.int .i64 c] d λf g=>f=.returned (.int .u32 (u (si a b)))/\∃c,g=d.drewN c:=by
 subst e
 have b:=JO a
 have b:=Xy a
 go_enter func227,ntmps227
 go_wp2_with fail
 go_ret
 exact⟨by rw[<-V9];rfl,0,rfl⟩
theorem WI(a:BitVec 32)(b:World):Calls prog 227 #[.int .u32 (u a),.int .i64 2] b λc d=>c=.returned (.int .u32 (u (si a 2)))/\∃e,d=b.drewN e:=fA a 2 2 rfl aR b
theorem RG(a:BitVec 32)(b:World):Calls prog 227 #[.int .u32 (u a),.int .i64 6] b λc d=>c=.returned (.int .u32 (u (si a 6)))/\∃e,d=b.drewN e:=fA a 6 6 rfl aR b
theorem WH(a:BitVec 32)(b:World):Calls prog 227 #[.int .u32 (u a),.int .i64 7] b λc d=>c=.returned (.int .u32 (u (si a 7)))/\∃e,d=b.drewN e:=fA a 7 7 rfl aR b
theorem OI(a:BitVec 32)(b:World):Calls prog 227 #[.int .u32 (u a),.int .i64 11] b λc d=>c=.returned (.int .u32 (u (si a 11)))/\∃e,d=b.drewN e:=fA a 11 11 rfl aR b
theorem UU(a:BitVec 32)(b:World):Calls prog 227 #[.int .u32 (u a),.int .i64 13] b λc d=>c=.returned (.int .u32 (u (si a 13)))/\∃e,d=b.drewN e:=fA a 13 13 rfl aR b
theorem UR(a:BitVec 32)(b:World):Calls prog 227 #[.int .u32 (u a),.int .i64 17] b λc d=>c=.returned (.int .u32 (u (si a 17)))/\∃e,d=b.drewN e:=fA a 17 17 rfl aR b
theorem UQ(a:BitVec 32)(b:World):Calls prog 227 #[.int .u32 (u a),.int .i64 18] b λc d=>c=.returned (.int .u32 (u (si a 18)))/\∃e,d=b.drewN e:=fA a 18 18 rfl aR b
theorem UO(a:BitVec 32)(b:World):Calls prog 227 #[.int .u32 (u a),.int .i64 19] b λc d=>c=.returned (.int .u32 (u (si a 19)))/\∃e,d=b.drewN e:=fA a 19 19 rfl aR b
theorem UN(a:BitVec 32)(b:World):Calls prog 227 #[.int .u32 (u a),.int .i64 22] b λc d=>c=.returned (.int .u32 (u (si a 22)))/\∃e,d=b.drewN e:=fA a 22 22 rfl aR b
theorem OH(a:BitVec 32)(b:World):Calls prog 227 #[.int .u32 (u a),.int .i64 25] b λc d=>c=.returned (.int .u32 (u (si a 25)))/\∃e,d=b.drewN e:=fA a 25 25 rfl aR b
theorem NU(e:aj)(b:Nat)(k:e.length=b)(d:b < 144115188075855872)(c:Option Addr)(f a:Nat)(j:a < fq b)(g:World)(i:ax g 1 c b (ak e)):
  Calls prog 226 #[.slice c b f,.int .i64 (a:Int),.int .i64 (fq b:Int)] g λh l=>h=.returned (.int .u8 (b8 (ES e a)))/\∃c,l=g.drewN c:=by
 have f:=Q5 b
 obtain⟨c,h⟩:=bG (fq b)
 rw[<-h.out]at f j ⊢
 have j:Hid (ES e a=if a < b then e.getD a 0 else if a=b then 128 else if c - 8<=a then tX b (8*(c - 1 - a))else 0):=by
  show _=_;unfold ES;rw[k,<-h.out]
 replace d:=AA d
 replace f:=AA f
 rw[j.out]
 clear j h
 by_cases c1:a < b
 ·rw[if_pos c1]
  obtain⟨j,k,rfl,l,h⟩:=i.2 ah;have l:g.cell? ⟨j,k+a,none⟩=some (.int .u8 (b8 (e.getD a 0))):=h a _ (eu e a ah);clear h i;generalize e.getD a 0=g at*;have e:(a:Int) < (b:Int):=ah;(go_enter func226,ntmps226);go_wp2_with fail;go_ret;exact⟨rfl,0,rfl⟩
 ·rw[if_neg c1]
  have e:(b:Int)<=(a:Int):=ah;by_cases c2:a=b
  ·rw[if_pos c2]
   subst c2;(go_enter func226,ntmps226);go_wp2_with fail;go_ret;exact⟨rfl,0,rfl⟩
  ·rw[if_neg c2]
   have e:¬((a:Int)=(b:Int)):=ah;(have e:IntKind.i64.wrap ((c:Int) - 8)=(c:Int) - 8:=by have:=d.out;have:=f.out;exact AO _ ah);by_cases e:c - 8<=a
   ·rw[if_pos e]
    have g:(c:Int) - 8<=(a:Int):=ah;(have h:IntKind.i64.wrap (8*(b:Int))=8*(b:Int):=by have:=d.out;exact AO _ ah);(have h:IntKind.u64.wrap (8*(b:Int))=8*(b:Int):=by have:=d.out;exact dX _ ah ah);(have h:IntKind.i64.wrap ((c:Int) - 1)=(c:Int) - 1:=by have:=d.out;have:=f.out;exact AO _ ah);(have h:IntKind.i64.wrap ((c:Int) - 1 - (a:Int))=(c:Int) - 1 - (a:Int):=by have:=d.out;have:=f.out;exact AO _ ah);(have h:IntKind.i64.wrap (8*((c:Int) - 1 - (a:Int)))=8*((c:Int) - 1 - (a:Int)):=by have:=d.out;have:=f.out;exact AO _ ah);(have h:IntKind.u64.wrap (8*((c:Int) - 1 - (a:Int)))=8*((c:Int) - 1 - (a:Int)):=by have:=d.out;have:=f.out;exact dX _ ah ah);have f:(8*((c:Int) - 1 - (a:Int))).toNat=8*(c - 1 - a):=ah;have f:(0:Int)<=8*((c:Int) - 1 - (a:Int)):=ah;(go_enter func226,ntmps226);go_wp2_with fail;go_ret;refine⟨?_,0,rfl⟩;rw[<-TQ b _ (aC d)];rfl
   ·rw[if_neg e]
    have g:(a:Int) < (c:Int) - 8:=ah;(go_enter func226,ntmps226);go_wp2_with fail;go_ret;exact⟨rfl,0,rfl⟩
def o5(j:Nat):Value:=.int .u32 (u (BitVec.ofNat 32 ((Gl++VW).getD j 0)))
theorem U5:((Gl++VW).map λ(a:Nat)=>Value.int .u32 (a:Int))=(List.range 72).map o5:=by kernel_rfl
theorem KG(a:World):bq 225 #[] a (.agg ((List.range 72).map o5).toArray):=by
 go_enter func225,ntmps225
 go_wp2_with (first
  |(rw[bY 1];refine wpList_buildFlatArr (o:=⟨some 1,_,_,_,_,_⟩) rfl 327 266 72 _ rfl .u32 ((Gl++VW).map λ(b:Nat)=>(b:Int)) underlying327 bH bH (by rfl) ?_)
  |(rw[bA 327 _];refine fw (heap_alloc_new a _) bH bH bH ?_))
 refine gI (setRow_heap _ _ _ _ _ _ (heap_alloc_new a _)) bH underlying327 ?_;refine⟨?_,below_setRow ((Below.refl _ _).alloc (AJ _) _) (AJ _) _⟩;rw[<-U5,List.map_map];rfl
def Ei(f:Nat->BitVec 8)(x:Nat):Nat->BitVec 32
 | 0=>0
 | m+1=>pF (Ei f x m) (f (4*x+m))
theorem LZ(a:Nat->BitVec 8)(b:Nat):Ei a b 4=mB a b:=XJ _ _ _ _
def nN(f:Nat->BitVec 8)(j x:Nat):Value:=.int .u32 (u (Ei f x (min 4 (j - 4*x))))
theorem IJ(b:Nat->BitVec 8)(a:Nat):nN b 0 a=.int .u32 0:=by
 unfold nN;rw[show min 4 (0 - 4*a)=0 by omega];rfl
theorem MW(b:Nat->BitVec 8)(a:Nat):nN b a (a / 4)=.int .u32 (u (Ei b (a / 4) (a % 4))):=by
 unfold nN;rw[show min 4 (a - 4*(a / 4))=a % 4 by omega]
theorem IK(c:Nat->BitVec 8)(a b:Nat):nN c (a+1) b=if b=a / 4 then .int .u32 (u (pF (Ei c (a / 4) (a % 4)) (c a)))else nN c a b:=by
 unfold nN;by_cases c:b=a / 4
 ·subst c
  rw[if_pos rfl,show min 4 (a+1 - 4*(a / 4))=a % 4+1 by omega,Ei,show 4*(a / 4)+a % 4=a by omega]
 ·rw[if_neg c,show min 4 (a+1 - 4*b)=min 4 (a - 4*b) by omega]
def ri(t q:Nat):Nat:=if t < 16 then q else t - 16+(q+1024 - t) % 16
def lH(m:Nat->BitVec 32)(t q:Nat):Value:=.int .u32 (u (bX m (ri t q)))
theorem PZ(b:Nat->BitVec 8)(a:Nat)(hx:a < 16):lH (mB b) 0 a=nN b 64 a:=by
 unfold lH nN ri;rw[if_pos ah,yM _ hx,show min 4 (64 - 4*a)=4 by omega,LZ]
theorem OE(c:Nat->BitVec 32)(a b:Nat)(d:a < 16)(e:b < 16):lH c (a+1) b=lH c a b:=by
 unfold lH ri;rw[if_pos d];by_cases c:a+1 < 16
 ·rw[if_pos c]
 ·rw[if_neg c,show a+1 - 16+(b+1024 - (a+1)) % 16=b by omega]
theorem Wd{a:Nat}(b:Nat)(c:16<=a):ri a b=a - 16+(b+1024 - a) % 16:=by unfold ri;rw[if_neg ah]
theorem OG(c:Nat->BitVec 32)(a b:Nat)(d:16<=a)(e:a < 64)(f:b < 16):lH c (a+1) b=if b=a % 16 then .int .u32 (u (bX c a))else lH c a b:=by
 unfold lH;rw[Wd b d,Wd b (show 16<=a+1 by omega)];by_cases c:b=a % 16
 ·rw[if_pos c,show a+1 - 16+(b+1024 - (a+1)) % 16=a by omega]
 ·rw[if_neg c,show a+1 - 16+(b+1024 - (a+1)) % 16=a - 16+(b+1024 - a) % 16 by omega]
theorem DZ(c:Nat->BitVec 32)(a b:Nat)(d:16<=a)(e:a < 64)(hd:b < 16):lH c a ((a+b) % 16)=.int .u32 (u (bX c (a - 16+b))):=by
 unfold lH ri;rw[if_neg ah,show a - 16+((a+b) % 16+1024 - a) % 16=a - 16+b by omega]
theorem RF(b:Nat->BitVec 32)(a:Nat)(d:a < 64):lH b (a+1) (a % 16)=.int .u32 (u (bX b a)):=by
 by_cases c:a < 16
 ·rw[OE b a _ c ah]
  unfold lH ri;rw[if_pos c,show a % 16=a by omega]
 ·rw[OG b a _ ah d ah,if_pos rfl]
def oK(S:St)(t p:Nat):Value:=.int .u32 (u (S.get ((p+t) % 8)))
theorem vD(c:St)(a b:Nat)(d:a < 64)(e:b < 8):oK c a ((64+b - a) % 8)=.int .u32 (u (c.get b)):=by
 unfold oK;rw[show((64+b - a) % 8+a) % 8=b by omega]
theorem Sr(c d:BitVec 32)(b:St)(a p:Nat)(e:a < 64)(f:p < 8):
  oK (step c d b) (a+1) p=if p=(71 - a) % 8 then .int .u32 (u (t1 c d b+t2 b))else if p=(67 - a) % 8 then .int .u32 (u (b.d+t1 c d b))else oK b a p:=by
 unfold oK
 by_cases b:p=(71 - a) % 8
 ·rw[if_pos b,show(p+(a+1)) % 8=0 by omega]
  rfl
 ·rw[if_neg b]
  by_cases b:p=(67 - a) % 8
  ·rw[if_pos b,show(p+(a+1)) % 8=4 by omega]
   rfl
  ·rw[if_neg b]
   have b:(p+(a+1)) % 8=(p+a) % 8+1:=ah;rw[b];have b:(p+a) % 8 < 7:=ah;have c:(p+a) % 8≠3:=ah;generalize(p+a) % 8=d at*
   match d,b,c with
   | 0,_,_=>rfl
   | 1,_,_=>rfl
   | 2,_,_=>rfl
   | 4,_,_=>rfl
   | 5,_,_=>rfl
   | 6,_,_=>rfl
def rH(S:St)(j:Nat):Value:=.int .u32 (u (S.get j))
theorem Sq(b:St)(a:Nat)(c:a < 8):oK b 0 a=rH b a:=by
 unfold oK rH;rw[show(a+0) % 8=a by omega]
theorem Vi(b:St)(a:Nat)(c:a < 8):oK b 64 a=rH b a:=by
 unfold oK rH;rw[show(a+64) % 8=a by omega]
theorem XO(a:Nat)(b:a < 64):o5 a=.int .u32 (u (K a)):=by
 unfold o5 K;rw[show(Gl++VW).getD a 0=Gl.getD a 0 by simp only[List.getD];rw[List.getElem?_append_left (show a < Gl.length from b)]]
theorem XP(a:Nat)(b:a < 8):o5 (64+a)=rH fU a:=by
 match a,b with
 | 0,_=>rfl
 | 1,_=>rfl
 | 2,_=>rfl
 | 3,_=>rfl
 | 4,_=>rfl
 | 5,_=>rfl
 | 6,_=>rfl
 | 7,_=>rfl
theorem Kw(a:aj)(b:Nat)(c:b < fq a.length):(gF a).getD b 0=ES a b:=by
 unfold gF;simp only[List.getD,List.getElem?_map];rw[List.getElem?_range c];rfl
theorem Pw(b c:St)(a:Nat)(d:Nat->BitVec 32)(e:c=vZ d b 64):nK b c 8 a=if a < 8 then rH (mh b d) a else .int .u32 (u (b.get a)):=by
 unfold nK rH;by_cases b:a < 8
 ·rw[if_pos b,if_pos b,Le,e]
 ·rw[if_neg b,if_neg b]
theorem F5{P:Program}(b:World)(f e i:TypeId)(z:Value)(j:P.underlying f=some (.slice e))(k:∀b,(zeroValue e).run P b=.ok z b)(l:z.cells=#[z])(g:z.oneCell'=true)(c d a m:Nat)(h:0 < a)
  (e:Array Value)(h:TypeId)(n:aL b c h e)(o:d+a<=e.size):
  (Builtin.clear_ #[f] i #[.slice (some ⟨c,d,none⟩) a m]).run P b=.ok (.tuple #[]) (b.setRow c (splice e.toList d (List.replicate a z)).toArray):=by
 have i:(Builtin.zeroCells z.cells a).toList=List.replicate a z:=by
  rw[l];simp[Builtin.zeroCells];apply List.ext_getElem
  ·simp
  ·intro f g l
   simp[Nat.mod_one]
 have f:=run_storeCells_at (P:=P) c d h (List.replicate a z) 0 e b n (by simpa using o) (by intro m l;rw[List.eq_of_mem_replicate l];exact g)
 obtain⟨b,rfl⟩:∃b,a=b+1:=⟨a - 1,ah⟩
 simp only[Nat.add_zero]at f
 simp[Builtin.clear_,run_underlying j,k,i,f,splice,Result.andThen]
theorem oz{f:Program}{a:World}{m:Array Oper}{rest:List Oper}{o:Oper}{h:Act}{n:Exit->Act->World->Prop}(s:o.guard=none)(p:Operand)(g:TypeId)
  (t:o.op=.call {callee:=.builtin .clear,args:=#[p],argTypes:=#[g]})(i:TypeId)(q:f.underlying g=some (.slice i))(z:Value)(u:∀a,(zeroValue i).run f a=.ok z a)(v:z.cells=#[z])(w:z.oneCell'=true)
  (d j b k:Nat)(hd:h.eval p=.slice (some ⟨d,j,none⟩) b k)(e:Nat)(x:0 < b->j=e)(c:Array Value)(l:TypeId)(r:aL a d l c)(y:e+b<=c.size)
  (p:wpList f m n rest (h.put o.dst (.tuple #[])) (a.setRow d (splice c.toList e (List.replicate b z)).toArray)):wpList f m n (o :: rest) h a:=by
 refine wpList_plain s λK h=>?_
 have m:(Builtin.clear_ #[g] o.type #[.slice (some ⟨d,j,none⟩) b k]).run f a=.ok (.tuple #[]) (a.setRow d (splice c.toList e (List.replicate b z)).toArray):=by
  by_cases f:0 < b
  ·rw[x f]
   exact F5 a g i o.type z q u v w d e b k f c l r y
  ·obtain rfl:b=0:=ah
   (have b:(splice c.toList e (List.replicate 0 z)).toArray=c:=by simp[splice]);rw[b,setRow_self a d c l (0,0) r];simp[Builtin.clear_,run_underlying q,Result.andThen]
 unfold Oper.wp
 simp[execOp,t,resolve,invoke,builtin,hd,m,Result.andThen]
 exact h _ _ p
def cu(s:Int):Nat:=if s < 1 then 1 else if 32 < s then 32 else s.toNat
theorem fD(s:Int):1<=cu s/\cu s<=32:=by
 unfold cu
 split
 ·omega
 ·split<;>omega
def dP(x:aj)(m:Nat):aj:=splice x m (List.replicate (32 - m) 0)
theorem Gi(a b:aj)(c:Nat):ak (splice a c b)=splice (ak a) c (ak b):=by simp[ak,splice]
theorem eT(x:aj)(a:Nat)(hx:x.length=32)(b:a<=32):(dP x a).length=32:=by
 unfold dP;rw[length_splice _ _ _ (by simp;omega),hx]
theorem Lc(b:aj)(a:Nat):(splice (ak b) a (List.replicate (32 - a) (.int .u8 0)))=ak (dP b a):=by
 unfold dP;rw[Gi];congr 1;simp[ak,iF,b8]
def Qj(m:Nat):Nat:=if 32=m then 0 else m
theorem U4{a:Nat}(b:0 < 32 - a):Qj a=a:=by unfold Qj;rw[if_neg ah]
theorem Rz{a:Program}{b:TypeId}{e c:Nat}(g:a.underlying b=some (.array (a.arrayLen b) (a.elem b)))(h:a.arrayLen b=32)(hs:∀d,(sizeOf (a.elem b)).run a d=.ok 1 d)(i:c<=32)(f:Int)(hx:f=c)(d:World):
  (Instr.sliceAt b (.pointer (some ⟨e,0,none⟩)) (some (.int .i64 f)) none none).run a d=.ok (.slice (some ⟨e,Qj c,none⟩) (32 - c) (32 - c)) d:=by
 subst hx
 rw[run_sliceAt_array_l d b _ g .i64 (c:Int) ah ah,hs]
 simp only[Result.andThen,slicedAt,h,Int.toNat_natCast,Nat.mul_one]
 unfold Qj
 by_cases a:32=c
 ·rw[if_pos a,if_pos a]
 ·rw[if_neg a,if_neg a,eD,Nat.zero_add]
theorem FM(a b:BitVec 8):(b8 a < b8 b)↔a.toNat < b.toNat:=by unfold b8;omega
theorem DT{a b:BitVec 8}(c:b8 a=b8 b):a=b:=BitVec.eq_of_toNat_eq (by unfold b8 at c;omega)
theorem Sv(b c:aj)(g:b.length=32)(h:c.length=32)(d:World):
  bq 249 #[.agg (ak b).toArray,.agg (ak c).toArray] d (.bool (aT b c)):=by
 have e:aL ((d.alloc (.cells (ak b).toArray 23)).alloc (.cells (ak c).toArray 23)) d.heap.size 23 (ak b).toArray:=(aL.new d _ _).alloc _
 have f:aL ((d.alloc (.cells (ak b).toArray 23)).alloc (.cells (ak c).toArray 23)) (d.heap.size+1) 23 (ak c).toArray:=by
  have:=aL.new (d.alloc (.cells (ak b).toArray 23)) 23 (ak c).toArray;rwa[show(d.alloc (.cells (ak b).toArray 23)).heap.size=d.heap.size+1 by simp]at this
 have k:Hid (av d ((d.alloc (.cells (ak b).toArray 23)).alloc (.cells (ak c).toArray 23))):=((Below.refl _ d).alloc (AJ _) _).alloc aZ _
 have i:Hid (∀a,a < 32->((d.alloc (.cells (ak b).toArray 23)).alloc (.cells (ak c).toArray 23)).cell? ⟨d.heap.size,a,none⟩=some (.int .u8 (b8 (b.getD a 0)))):=λa j=>by
  rw[e.cell a,List.getElem?_toArray];exact eu b a ah
 have m:Hid (∀a,a < 32->((d.alloc (.cells (ak b).toArray 23)).alloc (.cells (ak c).toArray 23)).cell? ⟨d.heap.size+1,a,none⟩=some (.int .u8 (b8 (c.getD a 0)))):=λa j=>by
  rw[f.cell a,List.getElem?_toArray];exact eu c a ah
 obtain⟨p,l⟩:=aS (aT b c)
 rw[l.out]
 replace g:=AA g
 replace h:=AA h
 clear e f
 go_enter func249,ntmps249
 go_wp2_with fail
 obtain⟨f,e⟩:=aS ((d.alloc (.cells (ak b).toArray 23)).alloc (.cells (ak c).toArray 23))
 rw[e.out]at i m k
 simp only[e.out]
 go_loopw [5] (λd wr=>∃a e:Nat,d=.int .i64 (a:Int)/\a<=32/\wr=f.drewN e/\Hid (b.take a=c.take a)) (λd _=>32 - (intOf d).toNat)
 case atStart=>exact⟨0,0,rfl,ah,rfl,rfl⟩
 case round=>
  obtain⟨a,e,rfl,j,rfl,d⟩:=hrel;by_cases e:a < 32
  ·have q:(a:Int) < 32:=ah
   have f:(0:Int)<=(a:Int):=ah;have c1:=i a e;have c2:=m a e;(have m:Hid (b[a]?=some (b.getD a 0)):=by show _=_;simp[List.getD,g.out,e]);(have n:Hid (c[a]?=some (c.getD a 0)):=by show _=_;simp[List.getD,h.out,e]);generalize b.getD a 0=e at*;generalize c.getD a 0=f at*;by_cases i:e=f
   ·subst i
    (have j:Hid (b.take (a+1)=c.take (a+1)):=by show _=_;rw[List.take_add_one,List.take_add_one,d.out,m.out,n.out]);clear d;go_wp2_with fail
    go_quiet (fail)
    go_wp2_with fail;go_roundw
    case rel=>exact⟨a+1,_,by go_num,ah,rfl,j⟩
    case measure=>simp[intOf];omega
   ·have j:¬(b8 e=b8 f):=λj=>i (DT j)
    have o:Hid (p=decide (b8 e < b8 f)):=by
     show _=_;rw[<-l.out,Sn b c a e f d.out m.out n.out i];exact decide_eq_decide.2 (FM e f).symm
    generalize b8 e=r at*;generalize b8 f=e at*;clear d m n i;go_wp2_with fail
    go_quiet (fail)
    go_wp2_with fail
    go_quiet (fail)
    go_wp2_with fail;go_ret;exact⟨by rw[o.out];rfl,fI (fI (fI k _) _) _⟩
  ·have q:¬((a:Int) < 32):=ah
   have o:Hid (p=false):=by
    show _=_
    have a:b=c:=by
     have j:=d.out;rw[List.take_of_length_le (by rw[g.out];omega),List.take_of_length_le (by rw[h.out];omega)]at j;exact j
    rw[<-l.out,a,gJ]
   clear d;go_wp2_with fail;go_ret;exact⟨by rw[o.out];rfl,fI k _⟩
def cl(s:Int):Int:=(cu s:Int)
