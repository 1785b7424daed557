import Derived.Test.YtgldkfaiofkhbaaGreatDoorZ21
import Derived.Test.YtgldkfaiofkhbaaGreatDoorZ30
namespace Go.Proofs.YtgldkfaiofkhbaaGreatDoor
open Go Go.RowKit Go.Proofs.Tryz
set_option maxRecDepth 100000
set_option maxHeartbeats 2000000
def jG(size i:Nat)(ds:List aj):aj:=[49]++jM size++jM i++ds.flatten
theorem o9(b c:Nat)(a:List aj)(d:∀e∈a,e.length=32):(jG b c a).length=17+32*a.length:=by
 simp only[jG,List.length_append,iO,qY a d,List.length_cons,List.length_nil]
theorem uM(e d:Nat)(hs:d<=1099511627776)(s:e<=d)(g:List aj)(c:Nat)(o:g.length=c)(hd:∀b∈g,b.length=32)(h:Option Addr)(l:Nat)(a:World)(v:ax a 32 h c (g.flatMap ak))(w:∀j,0 < c->h=some j->j.block < a.heap.size)(p:oP e d=c):
  Calls prog 66 #[.agg #[.int .i64 e,.int .i64 d,.slice h c l]] a λf i=>∃t,f=.returned (.tuple #[t,.int .i64 0])/\av a i/\i.ownsRow a.heap.size 5 1 t (17+32*c) (ak (jG e d g)):=by
 obtain⟨b,m⟩:∃b:Array Value,b=#[.int .i64 e,.int .i64 d,.slice h c l]:=⟨_,rfl⟩
 have q:b[0]?=some (.int .i64 e):=by rw[m];rfl
 have c1:b[1]?=some (.int .i64 d):=by rw[m];rfl
 have c2:b[2]?=some (.slice h c l):=by rw[m];rfl
 have r:c<=41:=p ▸ wN s hs
 have n:Hid (aL ((a.alloc (.cells b 46)).alloc (.cells #[.slice none 0 0] 313)) a.heap.size 46 b):=(aL.new a _ _).alloc _
 have u:=AA (kX.new (a.alloc (.cells b 46)))
 have k:Hid ((a.alloc (.cells b 46)).heap.size=a.heap.size+1):=by show _=_;simp
 rw[k.out]at u
 have x:=AA u.refl
 have y:Hid (av a ((a.alloc (.cells b 46)).alloc (.cells #[.slice none 0 0] 313))):=(gQ a _).alloc (by rw[k.out];omega) _
 have C:Hid (ax ((a.alloc (.cells b 46)).alloc (.cells #[.slice none 0 0] 313)) 32 h c (g.flatMap ak)):=(v.alloc _).alloc _
 have D:Hid (0 < c->∀j,h=some j->j.block≠a.heap.size+1/\some j.block≠none):=λk j f=>⟨by have:=w j k f;omega,by simp⟩
 have E:Hid (ax ((a.alloc (.cells b 46)).alloc (.cells #[.slice none 0 0] 313)) 32 none 0 (([]:List aj).flatMap ak)):=ax.oI _ _ _
 have j:=(aL.new a 46 b).cell 0
 have A:=(aL.new a 46 b).cell 1
 have F:=(aL.new a 46 b).cell 2
 rw[q]at j
 rw[c1]at A
 rw[c2]at F
 replace q:=AA q
 replace c1:=AA c1
 replace c2:=AA c2
 have z:((c:Int)==(c:Int))=true:=by simp
 have F:=AA<|λi (k:aO ((a.alloc (.cells b 46)).alloc (.cells #[.slice none 0 0] 313)) (a.heap.size+1) none [49] i)=>((k.blk n ah aZ).cell 0).trans q
 have G:Hid (∀i j,aO ((a.alloc (.cells b 46)).alloc (.cells #[.slice none 0 0] 313)) (a.heap.size+1) none j i->i.cell? ⟨a.heap.size,1,none⟩=some (.int .i64 d)/\i.cell? ⟨a.heap.size,2,none⟩=some (.slice h c l)):=λi j k=>⟨((k.blk n ah aZ).cell 1).trans c1,((k.blk n ah aZ).cell 2).trans c2⟩
 have A:Hid ((jG e d g).length=17+32*c):=by show _=_;rw[o9 _ _ _ hd,o]
 have H:Hid (([]:aj)++[49]++jM e++([]:List aj).flatten++jM d++g.flatten=jG e d g):=by show _=_;simp[jG]
 have j:=AA hs
 have q:=AA s
 replace p:=AA p
 replace o:=AA o
 replace hd:=AA hd
 replace r:=AA r
 have b:=n
 clear hs s v w n u
 rw[<-m]
 clear m
 go_enter func66,ntmps66
 go_wp2_with (first
  |(go_at_call 129;refine(Di e d j q _).mono ?_;rw[p.out];rintro f i ⟨rfl,rfl⟩)
  |(go_at_call 130;refine(jy _).mono ?_;rintro f i ⟨rfl,rfl⟩)
  |(go_at_call 131;refine(ko 49 49 rfl aZ x).mono ?_;rintro f i ⟨rfl,b⟩;have m:=F i b;replace b:=AA b;clear x)
  |(go_at_call 132;refine(pG e (dn j q) [] 0 rfl aZ none 0 aZ E (λk=>absurd k aZ) b).mono ?_;rintro f k ⟨rfl,i⟩;obtain⟨n,p⟩:=G.out k _ i;replace i:=AA i;clear b m)
  |(go_at_call 132;refine(pG d (dn j q) g c o hd h l (by have:=r.out;simp[iO];omega) C D i).mono ?_;rintro f j ⟨rfl,b⟩;rw[H.out]at b;have h:=AA<|y.trans (b.below (λ_ f=>by cases f) (B:=a.heap.size) ah y.size);obtain⟨k,c,-,-⟩:=b;replace c:=AA c;clear i n p)
  |(go_at_call 133;refine(uw (a.heap.size+1) k (jG e d g) j (by rw[A.out];have:=r.out;omega) c).mono ?_;rintro f c ⟨t,rfl,b,a⟩;rw[A.out]at a;obtain⟨c,d,rfl,-⟩:=Own.reads a;have c:=aQ h b;replace a:=AA a;clear b))
 go_ret2
 exact⟨_,rfl,c,cO a h.size⟩
theorem uN(a b:Int)(e:Option Addr)(f g:Nat)(c:World)(d:gV a b=false):
  bq 66 #[.agg #[.int .i64 a,.int .i64 b,.slice e f g]] c (.tuple #[.slice none 0 0,.int .i64 170]):=by
 have h:Hid (av c (c.alloc (.cells #[.int .i64 a,.int .i64 b,.slice e f g] 46))):=gQ c _
 replace d:=AA d
 go_enter func66,ntmps66
 go_wp2_with (go_at_call 129;refine(N8 a b d _).mono ?_;rintro a b ⟨rfl,rfl⟩)
 go_ret2
 exact⟨rfl,h⟩
theorem vI(b a:Nat)(hs:a<=1099511627776)(e:b<=a)(f:Option Addr)(c g:Nat)(d:World)(h:oP b a≠c):
  bq 66 #[.agg #[.int .i64 b,.int .i64 a,.slice f c g]] d (.tuple #[.slice none 0 0,.int .i64 170]):=by
 have i:Hid (av d (d.alloc (.cells #[.int .i64 b,.int .i64 a,.slice f c g] 46))):=gQ d _
 have f:=AA hs
 have g:=AA e
 clear hs e
 obtain⟨d,e⟩:=aS (oP b a)
 rw[e.out]at h
 have j:((d:Int)==(c:Int))=false:=by simp;omega
 have j:((d:Int)!=(c:Int))=true:=by simp;omega
 clear h
 go_enter func66,ntmps66
 go_wp2_with (go_at_call 129;refine(Di b a f g _).mono ?_;rw[e.out];rintro a b ⟨rfl,rfl⟩)
 go_ret2
 exact⟨rfl,i⟩
theorem Jq(a c:Int)(d:gV a c=false)(b:World):
  Calls prog 84 #[.int .i64 a,.int .i64 c] b λe f=>e=.returned (.int .i64 (-1))/\b=f:=by
 rcases tu a c d with b |⟨b,e⟩ |⟨b,e,f⟩
 ·have g:=AY b
  clear b d;(go_enter func84,ntmps84);go_wp2_with fail;go_ret;exact⟨rfl,rfl⟩
 ·have g:decide (a < 0)=false:=AP ah
  have h:=AY e;clear b e d;(go_enter func84,ntmps84);go_wp2_with fail;go_ret;exact⟨rfl,rfl⟩
 ·have g:decide (a < 0)=false:=AP ah
  have h:decide (c < a)=false:=AP ah;have a:=AY f;clear b e f d;(go_enter func84,ntmps84);go_wp2_with fail;go_ret;exact⟨rfl,rfl⟩
theorem En(a:Nat)(_:a<=1099511627776)(b:Bool)(c:World):
  Calls prog 151 #[.int .i64 a,.int .i64 a,.bool b] c λd e=>d=.returned (.int .i64 ((if b then 0 else 1:Nat):Int))/\c=e:=by
 have c:((a:Int)==(a:Int))=true:=beq_self_eq_true _
 cases b with
 | true=>
  (go_enter func151,ntmps151);go_wp2_with fail;go_ret;exact⟨rfl,rfl⟩
 | false=>
  (go_enter func151,ntmps151);go_wp2_with fail;go_ret;exact⟨rfl,rfl⟩
theorem Me(b a d:Nat)(h:a<=1099511627776)(l:b < a)(m:1<=b)(i:b<=ay a)(j:Bool)(n:d<=41)(e:World)
  (g:∀e,Calls prog 151 #[.int .i64 b,.int .i64 (ay a:Nat),.bool j] e λf c=>f=.returned (.int .i64 (d:Int))/\e=c):
  Calls prog 151 #[.int .i64 b,.int .i64 a,.bool j] e λf c=>f=.returned (.int .i64 ((d+1:Nat):Int))/\e=c:=by
 have e:((b:Int)==(a:Int))=false:=beq_eq_false_iff_ne.2 ah
 have e:¬b=a:=ah
 have j:=AA (λc=>yg a ah h c)
 replace g:=AA g
 obtain⟨e,k⟩:∃e,ay a=e:=⟨_,rfl⟩
 rw[k]at j i g
 have a:(b:Int)<=(e:Int):=ah
 have a:(d:Int)<=41:=ah
 have a:(0:Int)<=(d:Int):=ah
 clear k h l m i n
 go_enter func151,ntmps151
 go_wp2_with (first
  |(go_at_call 150;refine(j _).mono ?_;rintro f c ⟨rfl,rfl⟩)
  |(go_at_call 151;refine(g _).mono ?_;rintro f c ⟨rfl,rfl⟩))
 go_ret
 exact⟨by push_cast;rfl,rfl⟩
theorem JU(a n d:Nat)(g:n<=1099511627776)(l:a < n)(h:ay n < a)(i:Bool)(m:d<=41)(b:World)
  (f:∀b,Calls prog 151 #[.int .i64 (a - ay n:Nat),.int .i64 (n - ay n:Nat),.bool false] b λe c=>e=.returned (.int .i64 (d:Int))/\b=c):
  Calls prog 151 #[.int .i64 a,.int .i64 n,.bool i] b λe c=>e=.returned (.int .i64 ((d+1:Nat):Int))/\b=c:=by
 have b:((a:Int)==(n:Int))=false:=beq_eq_false_iff_ne.2 ah
 have b:¬a=n:=ah
 have i:=fK (n:=n) ah
 have j:=AA (λc=>yg n ah g c)
 replace f:=AA f
 obtain⟨b,k⟩:∃b,ay n=b:=⟨_,rfl⟩
 rw[k]at j h f i
 have o:¬((a:Int)<=(b:Int)):=ah
 have o:(d:Int)<=41:=ah
 have o:(0:Int)<=(d:Int):=ah
 have d:(a:Int) - (b:Int)=((a - b:Nat):Int):=ah
 have d:(n:Int) - (b:Int)=((n - b:Nat):Int):=ah
 have d:(n:Int)<=1099511627776:=ah
 have d:(a:Int)<=1099511627776:=ah
 have d:(b:Int)<=1099511627776:=ah
 have d:(0:Int)<=(b:Int):=ah
 have b:(0:Int)<=(a:Int):=ah
 have a:(0:Int)<=(n:Int):=ah
 clear k g l h m i
 go_enter func151,ntmps151
 go_wp2_with (first
  |(go_at_call 150;refine(j _).mono ?_;rintro e c ⟨rfl,rfl⟩)
  |(go_at_call 151;refine(f _).mono ?_;rintro e c ⟨rfl,rfl⟩))
 go_ret
 exact⟨by push_cast;rfl,rfl⟩
theorem zL:∀(d a n:Nat) (c:Bool) (b:World),1<=a->a<=n->n<=2 ^ d->d<=40->
  Calls prog 151 #[.int .i64 a,.int .i64 n,.bool c] b λg e=>g=.returned (.int .i64 (rz a n c:Nat))/\b=e
 | 0,a,n,c,b,e,i,f,h=>by
  (obtain rfl:a=n:=by simp at f;omega);rw[ni e];exact En a (by simp at f;omega) c b
 | d+1,a,n,c,b,e,i,f,h=>by
  have i:2 ^ (d+1)<=1099511627776:=by
   rw[show(1099511627776:Nat)=2 ^ 40 by decide];exact Nat.pow_le_pow_right ah h
  by_cases g:a=n
  ·subst g
   rw[ni e];exact En a ah c b
  ·have g:=fK (n:=n) ah
   have g:=qf n;have g:=rW (n:=n) ah f;by_cases f:a<=ay n
   ·rw[vU e ah f]
    exact Me a n _ ah ah e f c (aC (oW d a (ay n) c e f g)) b (λb=>zL d a (ay n) c b e f g ah)
   ·rw[tQ ah ah]
    exact JU a n _ ah ah ah c (aC (oW d (a - ay n) (n - ay n) false ah ah ah)) b (λb=>zL d (a - ay n) (n - ay n) false b ah ah ah ah)
theorem Jr(a b:Nat)(d:b<=1099511627776)(e:1<=a)(f:a<=b)(g:World):
  Calls prog 84 #[.int .i64 a,.int .i64 b] g λh c=>h=.returned (.int .i64 (rz a b true:Nat))/\g=c:=by
 have g:¬((a:Int) < 0):=ah
 have g:¬(1099511627776 < (b:Int)):=ah
 have g:¬((b:Int) < (a:Int)):=ah
 have g:((a:Int)==0)=false:=beq_eq_false_iff_ne.2 ah
 have g:¬a=0:=ah
 have g:=AA (λc=>zL 40 a b true c e f (by rw[show(2:Nat) ^ 40=1099511627776 by decide];exact d) (AJ _))
 clear d e f
 go_enter func84,ntmps84
 go_wp2_with (go_at_call 151;refine(g _).mono ?_;rintro h c ⟨rfl,rfl⟩)
 go_ret
 exact⟨rfl,rfl⟩
theorem FK(a:Nat)(c:a<=1099511627776)(b:World):
  Calls prog 84 #[.int .i64 (0:Nat),.int .i64 a] b λd e=>d=.returned (.int .i64 0)/\b=e:=by
 have b:¬((a:Int) < 0):=ah
 have b:¬(1099511627776 < (a:Int)):=ah
 clear c
 go_enter func84,ntmps84
 go_wp2_with fail
 go_ret
 exact⟨rfl,rfl⟩
theorem Gj(b a:Nat)(d:a<=1099511627776)(e:b<=a)(c:World):
  Calls prog 84 #[.int .i64 b,.int .i64 a] c λf g=>f=.returned (.int .i64 (oP b a:Nat))/\c=g:=by
 unfold oP
 by_cases h0:b=0
 ·subst h0
  rw[if_pos rfl];exact FK a d c
 ·rw[if_neg h0]
  exact Jr b a d ah e c
def fG(size i:Int)(ds:List aj):Option aj:=if gV size i=true/\(oP size.toNat i.toNat)=ds.length then some (jG size.toNat i.toNat ds)else none
def DL(size i:Int):Int:=if gV size i=true then((oP size.toNat i.toNat):Int)else -1
theorem xD(a b:Int)(d:World):Calls prog 84 #[.int .i64 a,.int .i64 b] d λf g=>f=.returned (.int .i64 (DL a b))/\g=d:=by
 unfold DL;by_cases e:gV a b=true
 ·rw[if_pos e]
  have c:=e;simp only[gV,Bool.and_eq_true,decide_eq_true_eq]at c;obtain⟨i,rfl⟩:=Int.eq_ofNat_of_zero_le (show 0<=a by omega);obtain⟨j,rfl⟩:=Int.eq_ofNat_of_zero_le (show 0<=b by omega);exact(Gj i j ah ah d).mono λf g ⟨h,c⟩=>⟨h,c.symm⟩
 ·rw[if_neg e]
  exact(Jq a b (by simpa using e) d).mono λf g ⟨h,c⟩=>⟨h,c.symm⟩
theorem VL(a b:Int):-1<=DL a b/\DL a b<=41:=by
 unfold DL
 split
 ·rename_i c
  simp only[gV,Bool.and_eq_true,decide_eq_true_eq]at c;have:=wN (x:=a.toNat) (y:=b.toNat) ah ah;omega
 ·omega
theorem Ir(size i:Int)(A:Option Addr)(n c:Nat)(w:World)(h:DL size i≠(n:Int)):
  bq 38 #[.agg (eP size i A n c)] w (.slice none 0 0):=by
 unfold eP
 have hT:=AA<|xD size i
 have hbs:=VL size i
 generalize DL size i=bs at*
 have y1:=beq_eq_false_iff_ne.2 h
 have y2:(bs !=(n:Int))=true:=by rw[bne,y1];rfl
 have hb0:=AA<|Below.aJ w (.cells #[.int .i64 size,.int .i64 i,.slice A n c] 46)
 clear hbs
 go_enter func38,ntmps38
 go_wp2_with fail
 go_quiet ((go_at_call 84;exact Calls.quiet_of_same (hT _)))
 go_wp2_with fail
 go_ret
 exact⟨rfl,qh hb0 _⟩
theorem Gc(d c:Nat)(hs:c<=1099511627776)(l:d<=c)(q:List aj)(j:Option Addr)(e m:Nat)(b:World)(r:j6 b j e q)(k:(oP d c)=e):
  Calls prog 38 #[.agg (eP d c j e m)] b λg a=>∃n,g=.returned n/\a.ownsRow b.heap.size 5 1 n (17+32*e) (ak (jG d c q))/\av b a:=by
 unfold eP
 obtain⟨f,x,y,z,A⟩:=fT pI
 have o:gV (d:Int) (c:Int)=true:=by
  have f:(0:Int)<=d:=ah;have h:(d:Int)<=c:=ah;have i:(c:Int)<=1099511627776:=ah;simp[gV,f,h,i]
 have p:=AA<|λa=>by
  have:=xD d c a;unfold DL at this;rw[if_pos o,Int.toNat_natCast,Int.toNat_natCast,k]at this;exact this
 have G:Hid (e<=41):=by
  show e<=41;rw[<-k];exact wN l hs
 have f:((e:Int)==(e:Int))=true:=beq_self_eq_true _
 have B:Hid (∀f:Nat,f<=1099511627776->∀a h,a.heap.size=h->Calls prog 82 #[.int .i64 (f:Int)] a λg i=>g=.returned (.slice (some ⟨h,0,none⟩) 8 8)/\av a i/\i.ownsRow h 5 1 (.slice (some ⟨h,0,none⟩) 8 8) 8 (ak (jM f))):=λf t a h s=>by
  subst s;exact wL f ah a
 have t:Hid (d<=1099511627776):=(by show d<=_;omega)
 have H:Hid (c<=1099511627776):=by show c<=_;omega
 replace r:=AA r
 clear o hs l k
 go_enter func38,ntmps38
 go_wp2_with fail
 go_quiet ((go_at_call 84;exact Calls.quiet_of_same (p _)))
 clear p
 generalize h:((b.alloc (.cells #[.int .i64 (d:Int),.int .i64 (c:Int),.slice j e m] 46)).drewN nq)=f
 have C:Hid (av b f):=h ▸ qh (Below.aJ b _) nq
 have o:Hid (f.heap.size=b.heap.size+1):=by show _=_;rw[<-h];simp
 have l:Hid (aL f b.heap.size 46 #[.int .i64 (d:Int),.int .i64 (c:Int),.slice j e m]):=h ▸ (aL.new b _ _).drewN nq
 clear h
 have s:Hid (∀a,Below (b.heap.size+1) f a->∀k,a.cell? ⟨b.heap.size,k,none⟩=#[Value.int .i64 (d:Int),.int .i64 (c:Int),.slice j e m][k]?):=λa h k=>by
  have:aL a b.heap.size 46 #[.int .i64 (d:Int),.int .i64 (c:Int),.slice j e m]:=(h.block b.heap.size ah).trans l;exact this.cell k
 have p:Hid (Below (b.heap.size+1) f (f.alloc (.cells #[.int .u8 49] 5))):=(Below.refl _ _).alloc (o.out ▸ AJ _) _
 have w:Hid ((f.alloc (.cells #[.int .u8 49] 5)).ownsRow (b.heap.size+1) 5 1 (.slice (some ⟨f.heap.size,0,none⟩) 1 1) 1 (ak [49])):=by
  have:=l9 f (b.heap.size+1) (o.out ▸ AJ _) 5 #[.int .u8 49] 1 rfl (by unfold maxLen;omega);exact this
 have k:Hid (b.heap.size+1<=(f.alloc (.cells #[.int .u8 49] 5)).heap.size):=by show _<=_;simp[o.out]
 have I:(f.alloc (.cells #[.int .u8 49] 5)).cell? ⟨b.heap.size,0,none⟩=some (.int .i64 (d:Int)):=s _ p 0
 go_wp2_with (first
  |(go_at_call 82;refine(B d t _ (f.heap.size+1) aZ).mono ?_;rintro g t ⟨rfl,l,D⟩;have J:=AA<|p.trans (l.mono k);have E:=AA (dz w l);have F:=AA<|AZ k l.size;obtain⟨K,cl,t,-,-,k,-⟩:=iH D;injection t with u L v;subst u v;replace k:=AA k;clear l D p w I)
  |(rw[bY 17];refine iL (.tmp 13) (.tmp 16) AR x y z A E k (λg=>by cases g) (aY _) (by unfold maxLen;omega) ah F ?_;intro w l p;obtain⟨D,M,rfl,I,w⟩:=dM p J F E ([49]++jM d) rfl 9 rfl;have D:Hid (b.heap.size+1<=l.heap.size):=(by have:=w.size;have:=o.out;show _<=_;omega);clear p k))
 have c1:Hid (∀a,Below (b.heap.size+1) f a->a.cell? ⟨b.heap.size,1,none⟩=some (.int .i64 (c:Int))):=λa h=>s a h 1
 have c2:Hid (∀a,Below (b.heap.size+1) f a->a.cell? ⟨b.heap.size,2,none⟩=some (.slice j e m)):=λa h=>s a h 2
 have F:=AA<|λa (h:Below (b.heap.size+1) f a)=>r.below (C.trans (h.mono ah))
 have J:Hid (0 < e->∀s E,j=some ⟨s,E,none⟩->s < b.heap.size+1):=λh0 s E g=>by
  obtain⟨E,M,s,N,-⟩:=r.2.2.at_ ah;rw[g]at s;(injection s with s);(injection s with r E);omega
 have aD:=AA w.drew
 refine dI (λa=>Below (b.heap.size+1) f a) 9 ?_
 refine aH 0 aD ?_
 refine aH 1 aD ?_
 refine eG 2 aD (λa f=>c1 a f) ?_
 refine aH 5 aD ?_
 refine eG 6 aD (λa f=>c2 a f) ?_
 refine aU 3 ?_
 refine cK (R:=λn i=>n=.slice (some ⟨l.heap.size,0,none⟩) 8 8/\av l i/\i.ownsRow l.heap.size 5 1 (.slice (some ⟨l.heap.size,0,none⟩) 8 8) 8 (ak (jM c))) Bd ((B c H l.drew l.heap.size rfl).mono λg i ⟨r,h,s⟩=>⟨_,r,rfl,((Below.refl l.heap.size l).drew).trans h,s⟩) ?_
 rintro l B ⟨rfl,a,f⟩
 have l:=AA<|w.trans (a.mono D)
 have w:=AA (dz I a)
 have B:=AA<|AZ D a.size
 obtain⟨K,cl,t,-,-,k,-⟩:=iH f
 injection t with u L v
 subst u v
 replace k:=AA k
 clear f a
 refine aV l ?_
 refine aU 4 ?_
 refine jK (.tmp 18) (.tmp 21) AR x y z A w k (λg=>by cases g) (aY _) (by unfold maxLen;omega) ah B ?_
 intro f a p
 obtain⟨t,u,rfl,v,f⟩:=dM p l B w ([49]++jM d++jM c) rfl 17 rfl
 have l:Hid (b.heap.size+1<=a.heap.size):=(by have:=f.size;have:=o.out;show _<=_;omega)
 clear p k
 refine aV f ?_
 refine aU 7 ?_
 refine cK (R:=λn i=>i.ownsRow (b.heap.size+1) 5 1 n (17+32*e) (ak ([49]++jM d++jM c++q.flatten))/\Below (b.heap.size+1) a i) Bf ((o8 (b.heap.size+1) ([49]++jM d++jM c) 17 t u q e j m a l v (F a f) J (aC G)).mono λg i ⟨n,r,s,h⟩=>⟨_,r,s,h⟩) ?_
 rintro b d ⟨a,c⟩
 obtain⟨b,d,rfl,-⟩:=iH a
 have b:=AA<|f.trans c
 replace a:=AA a
 clear c
 refine aV b ?_
 refine aH 8 b ?_
 refine bT ?_
 go_wp2_with fail
 go_ret
 exact⟨_,rfl,cO a ah,C.trans (b.mono ah)⟩
theorem Pe{a b:Int}(c:gV a b=true):DL a b=((oP a.toNat b.toNat):Int):=by unfold DL;rw[if_pos c]
theorem Ps{d e:Int}{b:List aj}{c:aj}(hd:jk b)(a:fG d e b=some c):c.length=17+32*b.length:=by
 unfold fG at a
 split at a
 ·rw[<-Option.some.inj a];exact o9 _ _ _ hd
 ·cases a
theorem su(a b:Int)(d:List aj)(k:Option Addr)(e n:Nat)(g:World)(h:j6 g k e d):
  Calls prog 38 #[.agg (eP a b k e n)] g λo l=>∃f i c,o=.returned (.slice f c.length i)/\ax l 1 f c.length (ak c)/\(f=none->c.length=0/\i=0)/\c.length<=i/\(fG a b d=some c\/(fG a b d=none/\f=none/\c=[]))/\av g l:=by
 by_cases c:DL a b=(e:Int)
 ·have j:gV a b=true:=by
   unfold DL at c
   split at c
   ·assumption
   ·omega
  have m:=j;simp only[gV,Bool.and_eq_true,decide_eq_true_eq]at m;obtain⟨p,rfl⟩:=Int.eq_ofNat_of_zero_le (show 0<=a by omega);obtain⟨q,rfl⟩:=Int.eq_ofNat_of_zero_le (show 0<=b by omega);rw[Pe j,Int.toNat_natCast,Int.toNat_natCast]at c;refine(Gc p q ah ah d k e n g h ah).mono ?_;rintro o l ⟨s,rfl,m,r⟩;obtain⟨f,i,rfl,s,t,u,-⟩:=iH m;(have m:(jG p q d).length=17+32*e:=by rw[o9 _ _ _ h.2.1,h.1]);refine⟨f,i,jG p q d,by rw[m],by rw[m];exact u,by rw[m];exact t,by rw[m];exact s,.inl ?_,r⟩;unfold fG;rw[Int.toNat_natCast,Int.toNat_natCast,if_pos ⟨j,by rw[h.1];omega⟩]
 ·refine(Ir a b k e n g c).mono ?_
  rintro o l ⟨rfl,r⟩;refine⟨none,0,[],rfl,ax.oI _ _ _,λ_=>⟨rfl,rfl⟩,AJ _,.inr ⟨?_,rfl,rfl⟩,r⟩;unfold fG;rw[if_neg];rintro⟨j,a⟩;exact c (by rw[Pe j,a,h.1])
theorem Dc(c d:Int)(e:List aj)(n:Option Addr)(h r:Nat)(f:World)(g:j6 f n h e):
  Calls prog 66 #[.agg (eP c d n h r)] f λl a=>∃i o b j,l=.returned (.tuple #[.slice i b.length o,.int .i64 j])/\ax a 1 i b.length (ak b)/\((fG c d e=some b/\j=0)\/(fG c d e=none/\b=[]/\j=170))/\av f a:=by
 have s:∀a,av f a->fG c d e=none->∃(i:Option Addr) (o:Nat) (b:aj) (j:Int),Ending.returned (.tuple #[.slice none 0 0,.int .i64 170])=Ending.returned (.tuple #[.slice i b.length o,.int .i64 j])/\ax a 1 i b.length (ak b)/\((fG c d e=some b/\j=0)\/(fG c d e=none/\b=[]/\j=170))/\av f a:=λa k m=>⟨none,0,[],170,rfl,ax.oI _ _ _,.inr ⟨m,rfl,rfl⟩,k⟩
 cases hin:gV c d with
 | false=>
  refine(uN c d n h r f hin).mono ?_;rintro l a ⟨rfl,k⟩;refine s a k ?_;unfold fG;rw[if_neg (λm=>by rw[hin]at m;exact absurd m.1 aR)]
 | true=>
  have v:=hin;simp only[gV,Bool.and_eq_true,decide_eq_true_eq]at v;obtain⟨p,rfl⟩:=Int.eq_ofNat_of_zero_le (show 0<=c by omega);obtain⟨q,rfl⟩:=Int.eq_ofNat_of_zero_le (show 0<=d by omega);by_cases hs:oP p q=h
  ·refine(uM p q ah ah e h g.1 g.2.1 n r f g.2.2 (λz h0 l=>?_) hs).mono ?_
   ·obtain⟨b,A,t,w,-⟩:=g.2.2.2 ah
    rw[l]at t;obtain rfl:=AL t;exact w
   rintro l a ⟨B,rfl,k,x⟩;obtain⟨i,o,rfl,C,D,y,-⟩:=iH x;(have u:(jG p q e).length=17+32*h:=by rw[o9 _ _ _ g.2.1,g.1]);refine⟨i,o,jG p q e,0,by rw[u],by rw[u];exact y,.inl ⟨?_,rfl⟩,k⟩;unfold fG;rw[Int.toNat_natCast,Int.toNat_natCast,if_pos ⟨hin,by rw[hs,g.1]⟩]
  ·refine(vI p q ah ah n h r f hs).mono ?_
   rintro l a ⟨rfl,k⟩;refine s a k ?_;unfold fG;rw[Int.toNat_natCast,Int.toNat_natCast,if_neg (λm=>hs (by rw[m.2,g.1]))]
theorem QW:(prog.info? 46).map (·.size)=some 3:=by kernel_rfl
theorem LG(a:World)(b d e:Array Value)(c u f:TypeId):aL (((a.alloc (.cells b c)).alloc (.cells d u)).alloc (.cells e f)) a.heap.size c b:=((aL.new a _ _).alloc _).alloc _
theorem LF(a:World)(b c e:Array Value)(d u f:TypeId):aL (((a.alloc (.cells b d)).alloc (.cells c u)).alloc (.cells e f)) (a.heap.size+1) u c:=by
 have:=(aL.new (a.alloc (.cells b d)) u c).alloc (.cells e f);rwa[show(a.alloc (.cells b d)).heap.size=a.heap.size+1 by simp]at this
theorem LD(a:World)(b c d:Array Value)(e u f:TypeId):aL (((a.alloc (.cells b e)).alloc (.cells c u)).alloc (.cells d f)) (a.heap.size+1+1) f d:=by
 have:=aL.new ((a.alloc (.cells b e)).alloc (.cells c u)) f d;rwa[show((a.alloc (.cells b e)).alloc (.cells c u)).heap.size=a.heap.size+1+1 by simp]at this
theorem zy(a:World)(b c d:Obj):av a (((a.alloc b).alloc c).alloc d):=((Below.aJ a _).alloc aZ _).alloc (by simp;omega) _
def kC(s:Int)(r0 r1:aj)(x1 x2:Int)(ds:List aj):Int:=
 if fG x1 x2 ds=none\/iZ s ds=false then 170 else j5 s x1 x2 r0 r1 ds
theorem xG{s:Int}{r0 r1:aj}{x1 x2:Int}{ds:List aj}(a:fG x1 x2 ds=none):kC s r0 r1 x1 x2 ds=170:=if_pos (.inl a)
theorem xE{s:Int}{r0 r1:aj}{x1 x2:Int}{ds:List aj}(a:iZ s ds=false):kC s r0 r1 x1 x2 ds=170:=if_pos (.inr a)
theorem Dk{s:Int}{r0 r1:aj}{b c:Int}{a:List aj}{d:aj}(e:fG b c a=some d)(f:iZ s a=true):kC s r0 r1 b c a=j5 s b c r0 r1 a:=by
 unfold kC;rw[if_neg];rintro(a | a)
 ·rw[e]at a;cases a
 ·rw[f]at a;cases a
theorem Gt{c d:Int}{a:List aj}{b:aj}(hd:jk a)(e:fG c d a=some b):0 < b.length:=by
 have:=Ps hd e;omega
theorem Jw(s:Int)(r0 r1:aj)(h0:r0.length=32)(v:r1.length=32)(x1 x2:Int)(ds:List aj)(d:Option Addr)(c c2:Nat)(D:c < 140737488355328)(a:World)(w:bn a)(k:j6 a d c ds):
  bq 67 #[.int .i64 s,.agg (ak r0).toArray,.agg (ak r1).toArray,.agg (eP x1 x2 d c c2)] a (.int .i64 (kC s r0 r1 x1 x2 ds)):=by
 unfold eP
 obtain⟨l,i⟩:=bG (((a.alloc (.cells (ak r0).toArray 23)).alloc (.cells (ak r1).toArray 23)).alloc (.cells #[Value.int .i64 x1,Value.int .i64 x2,Value.slice d c c2] 46))
 have E:Hid (av a l):=i.out ▸ zy a _ _ _
 have P:Hid (aL l a.heap.size 23 (ak r0).toArray):=i.out ▸ LG a _ _ _ _ _ _
 have Q:Hid (aL l (a.heap.size+1) 23 (ak r1).toArray):=i.out ▸ LF a _ _ _ _ _ _
 have R:Hid (aL l (a.heap.size+1+1) 46 #[Value.int .i64 x1,Value.int .i64 x2,Value.slice d c c2]):=i.out ▸ LD a _ _ _ _ _ _
 have S:=AA (aP (x:=r0) h0)
 have T:=AA (aP (x:=r1) v)
 have U:=AA<|λe (j:av a e)=>El s ds c D d c2 e (k.below j)
 obtain⟨γ,F⟩:=aS (j5 s x1 x2 r0 r1 ds)
 have V:=AA<|λe j=>by
  have:=QT s x1 x2 r0 r1 h0 v ds d c c2 e (w.below j w.1) (k.below j);rw[F.out]at this;exact this
 have p:=AA (λf (m:fG x1 x2 ds=some f) W=>Dk (s:=s) (r0:=r0) (r1:=r1) m W)
 rw[F.out]at p
 have y:=AA (λm=>xG (s:=s) (r0:=r0) (r1:=r1) (x1:=x1) (x2:=x2) (ds:=ds) m)
 have z:=AA (λm=>xE (s:=s) (r0:=r0) (r1:=r1) (x1:=x1) (x2:=x2) (ds:=ds) m)
 obtain⟨δ,G⟩:=aS (kC s r0 r1 x1 x2 ds)
 rw[G.out]at p y z ⊢
 have H:Hid (∀e,av a e->Calls prog 66 #[.agg #[Value.int .i64 x1,Value.int .i64 x2,Value.slice d c c2]] e λn I=>∃A J f q,n=.returned (.tuple #[.slice A f.length J,.int .i64 q])/\ax I 1 A f.length (ak f)/\((fG x1 x2 ds=some f/\q=0)\/(fG x1 x2 ds=none/\f=[]/\q=170))/\av e I):=λe j=>Dc x1 x2 ds d c c2 e (k.below j)
 have ε:=AA k.2.1
 clear h0 v D k w G
 go_enter func67,ntmps67
 go_wp2_with fail
 change Calls _ _ _ (((a.alloc (.cells (ak r0).toArray 23)).alloc (.cells (ak r1).toArray 23)).alloc (.cells #[Value.int .i64 x1,Value.int .i64 x2,Value.slice d c c2] 46)) _
 rw[<-i.out]
 clear i
 refine(H l E).mono ?_
 rintro n K ⟨A,J,f,q,rfl,-,X,b⟩
 have r:=aQ E b
 have L:=AA<|aL.jd P b
 have M:=AA<|aL.jd Q b
 have B:=AA<|aL.jd R b
 clear b H
 rcases X with⟨o,rfl⟩ |⟨o,rfl,rfl⟩
 ·have t:=AA (U K r)
  have C:=AA (p f o);clear y o p;have ζ:K.cell? ⟨a.heap.size+1+1,2,none⟩=some (.slice d c c2):=B.cell 2;cases hwi:iZ s ds with
  | false=>
   obtain rfl:=z hwi;rw[hwi]at t;clear hwi C;go_wp2_with (go_at_call 134;refine t.mono ?_;rintro n g ⟨rfl,b⟩;have u:=aQ r b;have N:=AA<|aL.jd L b;have O:=AA<|aL.jd M b;have h:=AA<|aL.jd B b;have Y:g.cell? ⟨a.heap.size+1+1,0,none⟩=some (.int .i64 x1):=h.cell 0;have Z:g.cell? ⟨a.heap.size+1+1,1,none⟩=some (.int .i64 x2):=h.cell 1;have α:g.cell? ⟨a.heap.size+1+1,2,none⟩=some (.slice d c c2):=h.cell 2;clear b);go_ret;exact⟨rfl,u⟩
  | true=>
   obtain rfl:=C hwi;rw[hwi]at t;clear hwi z C
   go_wp2_with (first
    |(go_at_call 134;refine t.mono ?_;rintro n g ⟨rfl,b⟩;have u:=aQ r b;have N:=AA<|aL.jd L b;have O:=AA<|aL.jd M b;have h:=AA<|aL.jd B b;have Y:g.cell? ⟨a.heap.size+1+1,0,none⟩=some (.int .i64 x1):=h.cell 0;have Z:g.cell? ⟨a.heap.size+1+1,1,none⟩=some (.int .i64 x2):=h.cell 1;have α:g.cell? ⟨a.heap.size+1+1,2,none⟩=some (.slice d c c2):=h.cell 2;clear b)
    |(rw[aF 30];refine aM N S.size AB ?_)
    |(rw[aF 31];refine aM O T.size AB ?_)
    |(go_at_call 135;refine(V _ u).mono ?_;rintro n η ⟨rfl,b⟩;have β:=aQ u b;clear b))
   go_ret;exact⟨rfl,β⟩
 ·obtain rfl:=y o
  clear o;go_wp2_with fail;go_ret;exact⟨rfl,r⟩
theorem IC(s:Int)(r0 r1:aj)(h0:r0.length=32)(n:r1.length=32)(x1 x2:Int)(ds:List aj)(e:Option Addr)(d c2:Nat)(r:d < 140737488355328)(a:World)(o:s < 9223372036854775808)(i:j6 a e d ds):
  bq 118 #[.int .i64 s,.agg (ak r0).toArray,.agg (ak r1).toArray,.agg (eP x1 x2 e d c2)] a (.int .i64 (kC s r0 r1 x1 x2 ds)):=by
 unfold eP
 obtain⟨j,b⟩:=bG (((a.alloc (.cells (ak r0).toArray 23)).alloc (.cells (ak r1).toArray 23)).alloc (.cells #[Value.int .i64 x1,Value.int .i64 x2,Value.slice e d c2] 46))
 have t:Hid (av a j):=b.out ▸ zy a _ _ _
 have y:Hid (aL j a.heap.size 23 (ak r0).toArray):=b.out ▸ LG a _ _ _ _ _ _
 have z:Hid (aL j (a.heap.size+1) 23 (ak r1).toArray):=b.out ▸ LF a _ _ _ _ _ _
 have A:Hid (aL j (a.heap.size+1+1) 46 #[Value.int .i64 x1,Value.int .i64 x2,Value.slice e d c2]):=b.out ▸ LD a _ _ _ _ _ _
 have B:=AA (aP (x:=r0) h0)
 have C:=AA (aP (x:=r1) n)
 have D:=AA<|λc (k:av a c)=>xh s o ds d r e c2 c (i.below k)
 obtain⟨f,h⟩:=aS (j5 s x1 x2 r0 r1 ds)
 have E:=AA<|λc k=>by
  have:=IB s x1 x2 o r0 r1 h0 n ds e d c2 c (i.below k);rw[h.out]at this;exact this
 have m:=AA (λf (g:fG x1 x2 ds=some f) l=>Dk (s:=s) (r0:=r0) (r1:=r1) g l)
 rw[h.out]at m
 have p:=AA (λg=>xG (s:=s) (r0:=r0) (r1:=r1) (x1:=x1) (x2:=x2) (ds:=ds) g)
 have q:=AA (λg=>xE (s:=s) (r0:=r0) (r1:=r1) (x1:=x1) (x2:=x2) (ds:=ds) g)
 obtain⟨g,u⟩:=aS (kC s r0 r1 x1 x2 ds)
 rw[u.out]at m p q ⊢
 have v:Hid (∀c,av a c->Calls prog 38 #[.agg #[Value.int .i64 x1,Value.int .i64 x2,Value.slice e d c2]] c λl w=>∃g h f,l=.returned (.slice g f.length h)/\ax w 1 g f.length (ak f)/\(g=none->f.length=0/\h=0)/\f.length<=h/\(fG x1 x2 ds=some f\/(fG x1 x2 ds=none/\g=none/\f=[]))/\av c w):=λc k=>su x1 x2 ds e d c2 c (i.below k)
 have k:=AA i.2.1
 clear h0 n r i o u
 go_enter func118,ntmps118
 go_wp2_with fail
 change Calls _ _ _ (((a.alloc (.cells (ak r0).toArray 23)).alloc (.cells (ak r1).toArray 23)).alloc (.cells #[Value.int .i64 x1,Value.int .i64 x2,Value.slice e d c2] 46)) _
 rw[<-b.out]
 clear b
 refine(v j t).mono ?_
 rintro l u ⟨g,h,f,rfl,-,n,-,r,b⟩
 have j:=aQ t b
 have t:=AA<|aL.jd y b
 have w:=AA<|aL.jd z b
 have o:=AA<|aL.jd A b
 clear b v
 rcases r with i |⟨i,rfl,rfl⟩
 ·have r:=Gt k i
  obtain⟨v,rfl⟩:∃k,g=some k:=by
   cases g with
   | none=>have:=(n rfl).1;omega
   | some k=>exact⟨k,rfl⟩
  (have y:=λc=>Lib.run_eql_slice_nil (P:=prog) c 27 5 (some v) f.length h 0 0 AR);clear n r;have k:=AA (D u j);have r:=AA (m f i);clear p i m;have f:u.cell? ⟨a.heap.size+1+1,2,none⟩=some (.slice e d c2):=o.cell 2;cases hwi:iZ s ds with
  | false=>
   obtain rfl:=q hwi;rw[hwi]at k;clear hwi r;go_wp2_with (go_at_call 190;refine k.mono ?_;rintro l f ⟨rfl,b⟩;have m:=aQ j b;have u:=AA<|aL.jd t b;have v:=AA<|aL.jd w b;have g:=AA<|aL.jd o b;have z:f.cell? ⟨a.heap.size+1+1,0,none⟩=some (.int .i64 x1):=g.cell 0;have A:f.cell? ⟨a.heap.size+1+1,1,none⟩=some (.int .i64 x2):=g.cell 1;have D:f.cell? ⟨a.heap.size+1+1,2,none⟩=some (.slice e d c2):=g.cell 2;clear b);go_ret;exact⟨rfl,m⟩
  | true=>
   obtain rfl:=r hwi;rw[hwi]at k;clear hwi q r
   go_wp2_with (first
    |(go_at_call 190;refine k.mono ?_;rintro l f ⟨rfl,b⟩;have m:=aQ j b;have u:=AA<|aL.jd t b;have v:=AA<|aL.jd w b;have g:=AA<|aL.jd o b;have z:f.cell? ⟨a.heap.size+1+1,0,none⟩=some (.int .i64 x1):=g.cell 0;have A:f.cell? ⟨a.heap.size+1+1,1,none⟩=some (.int .i64 x2):=g.cell 1;have D:f.cell? ⟨a.heap.size+1+1,2,none⟩=some (.slice e d c2):=g.cell 2;clear b)
    |(rw[aF 24];refine aM u B.size AB ?_)
    |(rw[aF 25];refine aM v C.size AB ?_)
    |(go_at_call 191;refine(E _ m).mono ?_;rintro l a ⟨rfl,b⟩;have a:=aQ m b;clear b))
   go_ret;exact⟨rfl,a⟩
 ·have y:=λc=>Lib.run_eql_slice_nil (P:=prog) c 27 5 none 0 h 0 0 AR
  obtain rfl:=p i;clear i n;go_wp2_with fail;go_ret;exact⟨rfl,j⟩
