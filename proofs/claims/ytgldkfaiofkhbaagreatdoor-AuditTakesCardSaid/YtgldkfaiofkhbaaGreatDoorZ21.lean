import Derived.Test.YtgldkfaiofkhbaaGreatDoorZ20
import Derived.LoopN
import Derived.Laws.IdiomStrings
import Derived.Lib.AppendStr
namespace Go.Proofs.YtgldkfaiofkhbaaGreatDoor
open Go Go.RowKit Go.Proofs.Tryz
set_option maxRecDepth 100000
set_option maxHeartbeats 20000000
def cnt(size i:Nat):Nat->Nat
 | 0=>0
 | k+1=>cnt size i k+if fu i k < size then 1 else 0
theorem NR(b c:Nat):∀a,cnt b c a<=a
 | 0=>AJ _
 | a+1=>by have:=NR b c a;unfold cnt;split<;>omega
def nY(size i:Nat):Nat:=cnt size i (eH size)
theorem rD(a:Nat):a ^^^ 1<=a+1:=by
 have c:(a ^^^ 1) / 2=a / 2:=by
  have c:=Nat.shiftRight_xor_distrib (a:=a) (b:=1) (i:=1);simpa[Nat.shiftRight_succ]using c
 omega
theorem vB(b a:Nat):fu b a<=b+2 ^ a:=by
 unfold fu;have c:=Nat.mul_le_mul_right (2 ^ a) (rD (b / 2 ^ a));have d:=Nat.div_mul_le_self b (2 ^ a);rw[Nat.succ_mul]at c;omega
theorem uP(a:Nat)(b:a < 9223372036854775806):bits .xor .i64 (a:Int) 1=((a ^^^ 1:Nat):Int):=by
 show IntKind.i64.wrap (((BitVec.ofInt 64 (a:Int) ^^^ BitVec.ofInt 64 1).toNat:Nat):Int)=_
 have b:(BitVec.ofInt 64 (a:Int) ^^^ BitVec.ofInt 64 1).toNat=a ^^^ 1:=by
  rw[BitVec.toNat_xor,BitVec.ofInt_natCast,BitVec.toNat_ofNat,Nat.mod_eq_of_lt ah];rfl
 rw[b];have:=rD a;exact AO _ ah
theorem QK(a c:Int)(b:bP a c=false)(d:World):
  Calls prog 152 #[.int .i64 a,.int .i64 c] d λe f=>e=.returned (.tuple #[.int .i64 0,.bool false])/\d=f:=by
 have f:a < 1\/(1<=a/\1099511627776 < a)\/(1<=a/\a<=1099511627776/\c < 0)\/(1<=a/\a<=1099511627776/\0<=c/\a<=c):=by
  simp only[bP,Bool.and_eq_false_iff,decide_eq_false_iff_not]at b;omega
 clear b
 rcases f with b |⟨b,d⟩ |⟨b,d,e⟩ |⟨b,d,e,g⟩
 ·have f:=AY b
  clear b;(go_enter Bb,ntmps152);go_wp2_with fail;go_ret2;exact⟨rfl,rfl⟩
 ·have f:decide (a < 1)=false:=AP ah
  have h:=AY d;clear b d;(go_enter Bb,ntmps152);go_wp2_with fail;go_ret2;exact⟨rfl,rfl⟩
 ·have f:decide (a < 1)=false:=AP ah
  have h:decide (1099511627776 < a)=false:=AP ah;have i:=AY e;clear b d e;(go_enter Bb,ntmps152);go_wp2_with fail;go_ret2;exact⟨rfl,rfl⟩
 ·have f:decide (a < 1)=false:=AP ah
  have h:decide (1099511627776 < a)=false:=AP ah;have i:decide (c < 0)=false:=AP ah;have a:=AY g;clear b d e g;(go_enter Bb,ntmps152);go_wp2_with fail;go_ret2;exact⟨rfl,rfl⟩
theorem FL(size a:Nat)(hs:size<=1099511627776)(c:a < size)(b:World):
  Calls prog 152 #[.int .i64 size,.int .i64 a] b λc d=>c=.returned (.tuple #[.int .i64 (nY size a),.bool true])/\b=d:=by
 have b:decide ((size:Int) < 1)=false:=AP ah
 have c:decide (1099511627776 < (size:Int))=false:=AP ah
 have d:decide ((a:Int) < 0)=false:=AP ah
 have e:decide ((size:Int)<=(a:Int))=false:=AP ah
 go_enter Bb,ntmps152
 go_wp2_with fail
 clear b c d e
 go_loop [6,7] (λc b=>∃k:Nat,b=.int .i64 (k:Int)/\c=.int .i64 (cnt size a k:Nat)/\Hid (k<=eH size)) (λ_ b=>41 - (intOf b).toNat)
 case atStart=>exact⟨0,rfl,rfl,AX _⟩
 case round=>
  obtain⟨k,rfl,rfl,i⟩:=hrel;have b:=NR size a k;have b:(0:Int)<=(k:Int):=ah
  have b:(k:Int) < 64:=by
   rcases Nat.lt_or_ge k 41 with b | b
   ·omega
   ·have b:=i.out
    have j:eH size<=40:=jm (by(have e:(2:Nat) ^ 40=1099511627776:=by decide);omega);omega
  obtain⟨c,d⟩:=aS (2 ^ k)
  have f:k<=40:=by
   have b:=i.out;have j:eH size<=40:=jm (by(have e:(2:Nat) ^ 40=1099511627776:=by decide);omega);omega
  have h:Hid (c<=1099511627776):=by
   show c<=_;rw[<-d.out];(have e:(2:Nat) ^ 40=1099511627776:=by decide);rw[<-e];exact Nat.pow_le_pow_right ah f
  have e:wrap64 ((2:Int) ^ k)=(c:Int):=by
   (have b:((2:Int) ^ k)=(c:Int):=by rw[<-d.out];simp);rw[b];have:=h.out;exact IntWalk.wrap64_in _ ah
  have f:bits .xor .i64 ((a:Int) / 2 ^ k) 1=((a / 2 ^ k ^^^ 1:Nat):Int):=by
   (have b:(a:Int) / 2 ^ k=((a / 2 ^ k:Nat):Int):=by simp);rw[b];have:=Nat.div_le_self a (2 ^ k);exact uP _ ah
  obtain⟨e,hx⟩:=aS (a / 2 ^ k ^^^ 1);rw[hx.out]at f;obtain⟨f,g⟩:=aS (fu a k)
  have l:wrap64 ((e:Int)*2 ^ k)=(f:Int):=by
   (have b:((e:Int)*2 ^ k)=(f:Int):=by rw[<-g.out,<-hx.out];unfold fu;simp);rw[b];have:=vB a k;have j:=g.out;have e:=d.out;have e:=h.out;exact IntWalk.wrap64_in _ ah
  by_cases e:c < size
  ·have l:=AA<|nT (d.out ▸ e)
   by_cases h:f < size
   ·have m:(c:Int) < (size:Int):=ah
    have n:(f:Int) < (size:Int):=ah;(have f:Hid (cnt size a (k+1)=cnt size a k+1):=by show _=_;simp only[cnt];rw[g.out,if_pos h]);clear e h;go_wp2_with fail
    go_round
    case rel=>exact⟨k+1,by go_num,by rw[f.out];go_num,l⟩
    case measure=>simp[intOf];omega
   ·have m:(c:Int) < (size:Int):=ah
    have n:=AP ah;(have f:Hid (cnt size a (k+1)=cnt size a k):=by show _=_;simp only[cnt];rw[g.out,if_neg h];rfl);clear e h;go_wp2_with fail
    go_round
    case rel=>exact⟨k+1,by go_num,by rw[f.out],l⟩
    case measure=>simp[intOf];omega
  ·have m:=AP ah
   have f:Hid (nY size a=cnt size a k):=by
    have b:=jm (size:=size) (k:=k) (d.out ▸ e);have j:=i.out;obtain rfl:k=eH size:=ah;rfl
   clear e;go_wp2_with fail;go_ret2;refine⟨?_,rfl⟩;show Ending.returned (.tuple #[.int .i64 ((cnt size a k:Nat):Int),.bool true])=_;rw[f.out]
theorem TH{b c:Nat}(d:c < b):∀a,cnt b c a=(lv b c a).length
 | 0=>rfl
 | a+1=>by rw[nS,List.length_append,vz d,<-TH d a];rfl
theorem zm{a b:Nat}(c:b < a):nY a b=(sides a b).length:=by
 unfold nY;rw[TH c,sS c (mZ a)]
theorem yg(n:Nat)(h:2<=n)(b:n<=1099511627776)(a:World):
  Calls prog 150 #[.int .i64 n] a λb c=>b=.returned (.int .i64 (ay n:Nat))/\a=c:=by
 have a:=fK h
 obtain⟨c,d⟩:=aS (ay n)
 rw[d.out]at a ⊢
 go_enter func150,ntmps150
 go_wp2_with fail
 go_loop [3] (λe=>∃a b:Nat,e=.int .i64 (a:Int)/\Hid (a=2 ^ b)/\1<=a/\a<=c) (λe=>c - (intOf e).toNat)
 case atStart=>exact⟨1,0,rfl,rfl,AJ _,by have:=iQ n;rw[d.out]at this;exact this⟩
 case round=>
  obtain⟨a,b,rfl,e,f,g⟩:=hrel;have f:=AO (2*(a:Int)) ah;have f:=IntWalk.wrap64_in (2*(a:Int)) ah;have f:(0:Int)<=(a:Int):=ah;have f:(a:Int)<=1099511627776:=ah;by_cases f:2*a < n
  ·have j:2*(a:Int) < (n:Int):=ah
   (have g:Hid (2*a=2 ^ (b+1)):=by show _=_;rw[e.out,Nat.pow_succ,Nat.mul_comm]);have i:Hid (2*a<=c):=(by show _<=_;rw[g.out,<-d.out];exact mr h (g.out ▸ f));clear f;go_wp2_with fail
   go_round
   case rel=>exact⟨2*a,b+1,by go_num,g,ah,i⟩
   case measure=>(have:=i.out;simp[intOf];omega)
  ·have j:¬(2*(a:Int) < (n:Int)):=ah
   have g:Hid (a=c):=by
    show a=c;have a:=qf n;have a:=d.out;obtain⟨a,c⟩:=tC n;have c:2 ^ b<=2 ^ a:=aC e
    have d:b=a:=by
     rcases Nat.lt_or_ge b a with c | c
     ·have:=Nat.pow_le_pow_right (show 0 < 2 by omega) (show b+1<=a from c)
      rw[Nat.pow_succ]at this;have:=e.out;omega
     ·rcases Nat.lt_or_ge a b with c | c
      ·have:=Nat.pow_lt_pow_right (show 1 < 2 by omega) c
       omega
      ·omega
    have:=e.out;rw[d]at this;omega
   clear f;go_wp2_with fail;go_ret;exact⟨by rw[g.out];rfl,rfl⟩
theorem Lr(a c:Int)(b:bP a c=false)(d:World):
  Calls prog 81 #[.int .i64 a,.int .i64 c] d λe f=>e=.returned (.int .i64 (-1))/\d=f:=by
 have f:a < 1\/(1<=a/\1099511627776 < a)\/(1<=a/\a<=1099511627776/\c < 0)\/(1<=a/\a<=1099511627776/\0<=c/\a<=c):=by
  simp only[bP,Bool.and_eq_false_iff,decide_eq_false_iff_not]at b;omega
 clear b
 rcases f with b |⟨b,d⟩ |⟨b,d,e⟩ |⟨b,d,e,g⟩
 ·have f:=AY b
  clear b;(go_enter Bc,ntmps81);go_wp2_with fail;go_ret;exact⟨rfl,rfl⟩
 ·have f:decide (a < 1)=false:=AP ah
  have h:=AY d;clear b d;(go_enter Bc,ntmps81);go_wp2_with fail;go_ret;exact⟨rfl,rfl⟩
 ·have f:decide (a < 1)=false:=AP ah
  have h:decide (1099511627776 < a)=false:=AP ah;have i:=AY e;clear b d e;(go_enter Bc,ntmps81);go_wp2_with fail;go_ret;exact⟨rfl,rfl⟩
 ·have f:decide (a < 1)=false:=AP ah
  have h:decide (1099511627776 < a)=false:=AP ah;have i:decide (c < 0)=false:=AP ah;have a:=AY g;clear b d e g;(go_enter Bc,ntmps81);go_wp2_with fail;go_ret;exact⟨rfl,rfl⟩
theorem Js(b d:Nat)(hs:b<=1099511627776)(h:d < b)(a:World):
  Calls prog 81 #[.int .i64 b,.int .i64 d] a λl e=>l=.returned (.int .i64 ((sides b d).length:Nat))/\a=e:=by
 have a:decide ((b:Int) < 1)=false:=AP ah
 have c:decide (1099511627776 < (b:Int))=false:=AP ah
 have g:decide ((d:Int) < 0)=false:=AP ah
 have m:decide (b<=d)=false:=AP ah
 have i:=AA<|sQ h (by rw[show(2:Nat) ^ 40=1099511627776 by decide];omega)
 obtain⟨f,k⟩:=aS ((sides b d).length)
 rw[k.out]at i ⊢
 go_enter Bc,ntmps81
 go_wp2_with fail
 clear a c g m
 go_loop [0,1,5] (λg m o=>∃a j c:Nat,g=.int .i64 (a:Int)/\m=.int .i64 (j:Int)/\o=.int .i64 (c:Int)/\a<=b/\j < a/\Hid (c+(sides a j).length=f)) (λg _ _=>(intOf g).toNat)
 case atStart=>exact⟨b,d,0,rfl,rfl,rfl,AJ _,h,by show _=_;rw[Nat.zero_add,k.out]⟩
 case round=>
  obtain⟨a,j,c,rfl,rfl,rfl,b,d,g⟩:=hrel;have b:(0:Int)<=(a:Int):=ah;have b:(0:Int)<=(j:Int):=ah;have b:(0:Int)<=(c:Int):=ah;have b:(c:Int)<=40:=dn g i;by_cases p:1 < a
  ·have q:(1:Int) < (a:Int):=ah
   have k:=fK (n:=a) ah;have o:=iQ a;have m:=AA (λe=>yg a ah ah e);have h:=AA (λb=>xO (n:=a) (j:=j) ah b);have i:=AA (λb=>rJ (n:=a) (j:=j) ah b d);obtain⟨b,d⟩:∃b,ay a=b:=⟨_,rfl⟩;rw[d]at k o m h i;clear d;by_cases k:j < b
   ·have r:(j:Int) < (b:Int):=ah
    have o:Hid (c+1+(sides b j).length=f):=by
     have:=g.out;rw[h.out k,List.length_append]at this;show _=_;simp at this;omega
    have d:=AA k;clear k h i;go_wp2_with (go_at_call 150;refine(m _).mono ?_;rintro l e ⟨rfl,rfl⟩)
    go_round
    case rel=>exact⟨b,j,c+1,rfl,rfl,by go_num,ah,d,o⟩
    case measure=>simp[intOf];omega
   ·have r:¬((j:Int) < (b:Int)):=ah
    have o:Hid (c+1+(sides (a - b) (j - b)).length=f):=by
     have:=g.out;rw[i.out ah,List.length_append]at this;show _=_;simp at this;omega
    have r:((a:Int) - (b:Int))=((a - b:Nat):Int):=ah;have r:((j:Int) - (b:Int))=((j - b:Nat):Int):=ah;(have d:Hid (b<=j):=by show _<=_;omega);clear k h i;go_wp2_with (go_at_call 150;refine(m _).mono ?_;rintro l e ⟨rfl,rfl⟩)
    go_round
    case rel=>exact⟨a - b,j - b,c+1,(by first| rfl |(congr 1;omega)),(by first| rfl |(have:=d.out;congr 1;omega)),by go_num,ah,by have:=d.out;omega,o⟩
    case measure=>(have:=d.out;simp[intOf];omega)
  ·have q:¬((1:Int) < (a:Int)):=ah
   have a:Hid (c=f):=by
    have:=g.out;rw[uW ah]at this;exact this
   clear p;go_wp2_with fail;go_ret;exact⟨by rw[a.out];rfl,rfl⟩
section
variable {w0 w:World} {g:Nat} {r:Option Nat} {l:aj}
theorem pG(a:Nat)(m:a < 9223372036854775808)(c:List aj)(b:Nat)(f:c.length=b)(hd:∀k∈c,k.length=32)(d:Option Addr)(n:Nat)(e:l.length+8+32*b<=140737488355328)(h:ax w0 32 d b (c.flatMap ak))(i:0 < b->∀j,d=some j->j.block≠g/\some j.block≠r)
  (j:aO w0 g r l w):
  Calls prog 132 #[.pointer (some ⟨g,0,none⟩),.int .i64 (a:Int),.slice d b n] w λk o=>k=.returned (.tuple #[])/\aO w0 g r (l++jM a++c.flatten) o:=by
 have o:IntKind.u64.wrap (a:Int)=(a:Int):=dX _ ah ah
 have o:=AA m
 replace j:=AA j
 replace f:=AA f
 replace hd:=AA hd
 replace h:=AA h
 replace i:=AA i
 replace e:=AA e
 clear m
 go_enter func132,ntmps132
 go_wp2_with (first
  |(go_at_call 218;refine(zU (a:Int) a rfl (aC o) (aC e) j).mono ?_;rintro k j ⟨rfl,a⟩;replace a:=AA a)
  |(go_at_call 156;refine(vL c b f hd d n (by have:=e.out;simp[iO];omega) h i a).mono ?_;rintro k b ⟨rfl,a⟩;replace a:=AA a))
 go_end0
 exact⟨rfl,a⟩
end
def jo(size i:Nat)(ds:List aj):aj:=[48]++jM size++jM i++ds.flatten
theorem qY:∀(a:List aj),(∀b∈a,b.length=32)->a.flatten.length=32*a.length
 | [],_=>rfl
 | b :: a,c=>by
  have d:=qY a (λd hx=>c d (List.mem_cons_of_mem _ hx));have a:=c b (List.mem_cons_self ..);simp only[List.flatten_cons,List.length_append,List.length_cons];omega
theorem sw(b c:Nat)(a:List aj)(d:∀e∈a,e.length=32):(jo b c a).length=17+32*a.length:=by
 simp only[jo,List.length_append,iO,qY a d,List.length_cons,List.length_nil]
theorem gQ(w:World)(a:Obj):av w (w.alloc a):=(Below.refl _ w).alloc (AJ _) a
theorem Qo{a:Nat}(hs:a<=1099511627776):eH a<=40:=by
 (have a:(2:Nat) ^ 40=1099511627776:=by decide);exact jm ah
theorem Lp{a b:Nat}(hs:a<=1099511627776):nY a b<=40:=AZ (NR _ _ _) (Qo hs)
theorem wX(c d:Nat)(hs:c<=1099511627776)(x:d < c)(f:List aj)(b:Nat)(p:f.length=b)(hd:∀a∈f,a.length=32)(h:Option Addr)(m:Nat)(w:World)(y:ax w 32 h b (f.flatMap ak))(A:∀j,0 < b->h=some j->j.block < w.heap.size)(q:nY c d=b):
  Calls prog 87 #[.agg #[.int .i64 c,.int .i64 d,.slice h b m]] w λe i=>∃u,e=.returned (.tuple #[u,.int .i64 0])/\av w i/\i.ownsRow w.heap.size 5 1 u (17+32*b) (ak (jo c d f)):=by
 obtain⟨a,n⟩:∃a:Array Value,a=#[.int .i64 c,.int .i64 d,.slice h b m]:=⟨_,rfl⟩
 have s:a[0]?=some (.int .i64 c):=by rw[n];rfl
 have c1:a[1]?=some (.int .i64 d):=by rw[n];rfl
 have c2:a[2]?=some (.slice h b m):=by rw[n];rfl
 have t:b<=40:=q ▸ Lp hs
 have o:Hid (aL ((w.alloc (.cells a 48)).alloc (.cells #[.slice none 0 0] 313)) w.heap.size 48 a):=(aL.new w _ _).alloc _
 have v:=AA (kX.new (w.alloc (.cells a 48)))
 have k:Hid ((w.alloc (.cells a 48)).heap.size=w.heap.size+1):=by show _=_;simp
 rw[k.out]at v
 have C:=AA v.refl
 have D:Hid (av w ((w.alloc (.cells a 48)).alloc (.cells #[.slice none 0 0] 313))):=(gQ w _).alloc (by rw[k.out];omega) _
 have F:Hid (ax ((w.alloc (.cells a 48)).alloc (.cells #[.slice none 0 0] 313)) 32 h b (f.flatMap ak)):=(y.alloc _).alloc _
 have G:Hid (0 < b->∀j,h=some j->j.block≠w.heap.size+1/\some j.block≠none):=λk j e=>⟨by have:=A j k e;omega,by simp⟩
 have H:Hid (ax ((w.alloc (.cells a 48)).alloc (.cells #[.slice none 0 0] 313)) 32 none 0 (([]:List aj).flatMap ak)):=ax.oI _ _ _
 have j:=(aL.new w 48 a).cell 0
 have E:=(aL.new w 48 a).cell 1
 have I:=(aL.new w 48 a).cell 2
 rw[s]at j
 rw[c1]at E
 rw[c2]at I
 replace s:=AA s
 replace c1:=AA c1
 replace c2:=AA c2
 have z:((b:Int)==(b:Int))=true:=by simp
 have I:=AA<|λi (k:aO ((w.alloc (.cells a 48)).alloc (.cells #[.slice none 0 0] 313)) (w.heap.size+1) none [48] i)=>((k.blk o ah aZ).cell 0).trans s
 have J:Hid (∀i l,aO ((w.alloc (.cells a 48)).alloc (.cells #[.slice none 0 0] 313)) (w.heap.size+1) none l i->i.cell? ⟨w.heap.size,1,none⟩=some (.int .i64 d)/\i.cell? ⟨w.heap.size,2,none⟩=some (.slice h b m)):=λi l k=>⟨((k.blk o ah aZ).cell 1).trans c1,((k.blk o ah aZ).cell 2).trans c2⟩
 have s:Hid ((jo c d f).length=17+32*b):=by show _=_;rw[sw _ _ _ hd,p]
 have K:Hid (([]:aj)++[48]++jM c++([]:List aj).flatten++jM d++f.flatten=jo c d f):=by show _=_;simp[jo]
 have j:=AA hs
 have E:=AA x
 replace q:=AA q
 replace p:=AA p
 replace hd:=AA hd
 replace t:=AA t
 have a:=o
 clear hs x y A o v
 rw[<-n]
 clear n
 go_enter func87,ntmps87
 go_wp2_with (first
  |(go_at_call 152;refine(FL c d j E _).mono ?_;rw[q.out];rintro e i ⟨rfl,rfl⟩)
  |(go_at_call 130;refine(jy _).mono ?_;rintro e i ⟨rfl,rfl⟩)
  |(go_at_call 131;refine(ko 48 48 rfl aZ C).mono ?_;rintro e i ⟨rfl,a⟩;have n:=I i a;replace a:=AA a;clear C)
  |(go_at_call 132;refine(pG c (aC j) [] 0 rfl aZ none 0 aZ H (λk=>absurd k aZ) a).mono ?_;rintro e k ⟨rfl,i⟩;obtain⟨o,q⟩:=J.out k _ i;replace i:=AA i;clear a n)
  |(go_at_call 132;refine(pG d (dn j E) f b p hd h m (by have:=t.out;simp[iO];omega) F G i).mono ?_;rintro e j ⟨rfl,a⟩;rw[K.out]at a;have h:=AA<|D.trans (a.below (λ_ e=>by cases e) (B:=w.heap.size) ah D.size);obtain⟨k,b,-,-⟩:=a;replace b:=AA b;clear i o q)
  |(go_at_call 133;refine(uw (w.heap.size+1) k (jo c d f) j (by rw[s.out];have:=t.out;omega) b).mono ?_;rintro e c ⟨u,rfl,b,a⟩;rw[s.out]at a;obtain⟨c,d,rfl,-⟩:=Own.reads a;have c:=aQ h b;replace a:=AA a;clear b))
 go_ret2
 exact⟨_,rfl,c,cO a h.size⟩
theorem wY(a b:Int)(d:Option Addr)(e f:Nat)(w:World)(c:bP a b=false):
  bq 87 #[.agg #[.int .i64 a,.int .i64 b,.slice d e f]] w (.tuple #[.slice none 0 0,.int .i64 170]):=by
 have h:Hid (av w (w.alloc (.cells #[.int .i64 a,.int .i64 b,.slice d e f] 48))):=gQ w _
 replace c:=AA c
 go_enter func87,ntmps87
 go_wp2_with (go_at_call 152;refine(QK a b c _).mono ?_;rintro a b ⟨rfl,rfl⟩)
 go_ret2
 exact⟨rfl,h⟩
theorem yj(a b:Nat)(hs:a<=1099511627776)(d:b < a)(e:Option Addr)(c f:Nat)(w:World)(h:nY a b≠c):
  bq 87 #[.agg #[.int .i64 a,.int .i64 b,.slice e c f]] w (.tuple #[.slice none 0 0,.int .i64 170]):=by
 have i:Hid (av w (w.alloc (.cells #[.int .i64 a,.int .i64 b,.slice e c f] 48))):=gQ w _
 have f:=AA hs
 have j:=AA d
 clear hs d
 obtain⟨d,e⟩:=aS (nY a b)
 rw[e.out]at h
 have k:((d:Int)==(c:Int))=false:=by simp;omega
 have k:((d:Int)!=(c:Int))=true:=by simp;omega
 clear h
 go_enter func87,ntmps87
 go_wp2_with (go_at_call 152;refine(FL a b f j _).mono ?_;rw[e.out];rintro a b ⟨rfl,rfl⟩)
 go_ret2
 exact⟨rfl,i⟩
def lY(N i j:Nat):Value:=if j < i then iF ((jM N).getD j 0)else .int .u8 0
theorem xB(c a b:Nat):lY c (a+1) b=if b=a then iF ((jM c).getD a 0)else lY c a b:=by
 unfold lY;by_cases c:b=a
 ·subst c;rw[if_pos ah,if_pos rfl]
 ·rw[if_neg c]
  by_cases c:b < a
  ·rw[if_pos ah,if_pos c]
  ·rw[if_neg ah,if_neg c]
theorem Um{e:World}{d a:Nat}{c:aj}{f:Nat->Value}(h:iX e d 5 a f)(i:c.length=a)(j:a<=maxLen)(k:∀b,b < a->f b=iF (c.getD b 0)){g:Nat}(l:g<=d):e.ownsRow g 5 1 (.slice (some ⟨d,0,none⟩) a a) a (ak c):=by
 obtain⟨e,f,hs,g⟩:=h;refine⟨by rw[aB,i,Nat.mul_one],.inr ⟨d,a,e,rfl,l,f,AJ _,j,ah,?_⟩⟩
 have f:e.toList=ak c:=by
  apply List.ext_getElem?;intro b;rw[Array.getElem?_toList]
  rcases Nat.lt_or_ge b a with d | d
  ·rw[g b d,eu c b ah,k b d]
  ·rw[Array.getElem?_eq_none ah,List.getElem?_eq_none (by rw[aB];omega)]
 rw[f,Nat.mul_one];exact BA (by rw[aB];omega)
theorem wL(c:Nat)(a:c < 9223372036854775808)(b:World):
  Calls prog 82 #[.int .i64 (c:Int)] b λe d=>e=.returned (.slice (some ⟨b.heap.size,0,none⟩) 8 8)/\av b d/\d.ownsRow b.heap.size 5 1 (.slice (some ⟨b.heap.size,0,none⟩) 8 8) 8 (ak (jM c)):=by
 have d:=AA a
 have d:(0:Int)<=(c:Int):=ah
 have d:=dX _ ah ah
 have f:Hid (iX (b.alloc (.cells #[.int .u8 0,.int .u8 0,.int .u8 0,.int .u8 0,.int .u8 0,.int .u8 0,.int .u8 0,.int .u8 0] 5)) b.heap.size 5 8 (lY c 0)):=iX.new b _ _ 8 _ rfl (λd g=>by
  match d,g with
  | 0,_=>rfl
  | 1,_=>rfl
  | 2,_=>rfl
  | 3,_=>rfl
  | 4,_=>rfl
  | 5,_=>rfl
  | 6,_=>rfl
  | 7,_=>rfl
  | d+8,e=>omega)
 clear a
 have a:∀b:World,(Instr.makeSlice 27 (.int .i64 8) (.int .i64 8)).run prog b=.ok (.slice (some ⟨b.heap.size,0,none⟩) 8 8) (b.alloc (.cells #[.int .u8 0,.int .u8 0,.int .u8 0,.int .u8 0,.int .u8 0,.int .u8 0,.int .u8 0,.int .u8 0] 5)):=λ_=>by kernel_rfl
 go_enter Bd,ntmps82
 go_wp2_with fail
 clear a
 go_loopw [4] (λe wr=>∃a:Nat,e=.int .i64 (a:Int)/\a<=8/\Hid (iX wr b.heap.size 5 8 (lY c a))/\Hid (av b wr)) (λe _=>8 - (intOf e).toNat)
 case atStart=>exact⟨0,rfl,ah,f,Below.aJ b _⟩
 case round=>
  clear f;obtain⟨a,rfl,f,e,h⟩:=hrel;by_cases f:a < 8
  ·have i:(a:Int) < 8:=ah
   have i:(0:Int)<=(a:Int):=ah;obtain⟨i,hx⟩:=bG (vP c (56 - 8*a));have j:=AO (8*(a:Int)) ah;have j:=AO (56 - 8*(a:Int)) ah;have j:IntKind.u64.wrap (56 - 8*(a:Int))=56 - 8*(a:Int):=dX _ ah ah;have j:(56 - 8*(a:Int)).toNat=56 - 8*a:=ah;have j:(c:Int) / 2 ^ (56 - 8*a) % 256=b8 i:=hx.out ▸ Ph c _;have j:(56 - 8*(a:Int)) < 64:=ah;have j:0<=(56 - 8*(a:Int)):=ah;have j:(0:Int)<=(c:Int) / 2 ^ (56 - 8*a):=Int.ediv_nonneg ah (by exact Int.le_of_lt (Int.pow_pos aR));(have j:Hid ((jM c).getD a 0=i):=by show _=_;rw[List.getD,Ju c a f,hx.out];rfl);have i:=e.cell f;have i:wr.frozen? ⟨b.heap.size,a,none⟩=false:=e.frozen _;have i:=AA f;clear f;go_wp2_with fail;go_roundw
   case rel=>exact⟨a+1,by go_num,i,e.lD a _ (λd _=>by rw[xB,j.out];rfl),h.trans (au.aW ((au.refl (·=b.heap.size) wr).setCell (.inl rfl) _) (AJ _) h.size)⟩
   case measure=>(have:=i.out;simp[intOf];omega)
  ·obtain rfl:a=8:=ah
   go_wp2_with fail;go_ret;exact⟨rfl,h,Um e (iO c) aR (λd g=>by unfold lY;rw[if_pos g]) (AJ _)⟩
theorem Cf{a:List aj}{b:Nat}{c:aj}(d:a[b]?=some c):(a.take (b+1)).flatten=(a.take b).flatten++c:=by
 rw[List.take_add_one,d];simp
theorem o8(e:Nat)(g:aj)(b:Nat)(n:Option Addr)(o:Nat)(c:List aj)(d:Nat)(t:Option Addr)(c2:Nat)(w:World)(u:e<=w.heap.size)(h:w.ownsRow e 5 1 (.slice n b o) b (ak g))(l:j6 w t d c)
  (v:0 < d->∀f i,t=some ⟨f,i,none⟩->f < e)(m:b+32*d<=140737488355328):
  Calls prog 83 #[.slice n b o,.slice t d c2] w λj B=>∃q,j=.returned q/\B.ownsRow e 5 1 q (b+32*d) (ak (g++c.flatten))/\Below e w B:=by
 obtain⟨J,K,L,M,N⟩:=fT pI
 have C:=AA l.1
 have O:=AA l.2.1
 have D:Hid (w.ownsRow e 5 1 (.slice n (b+32*0) o) (b+32*0) (ak (g++(c.take 0).flatten))):=by show World.ownsRow _ _ _ _ _ _ _;simpa using h
 replace l:=AA l
 replace v:=AA v
 replace m:=AA m
 replace u:=AA u
 clear h
 go_enter Bf,ntmps83
 go_wp2_with fail
 go_loopw [0,5] (λP x wr=>∃(a:Nat) (r:Option Addr) (c1:Nat),P=.slice r (b+32*a) c1/\x=.int .i64 (a:Int)/\a<=d/\Hid (wr.ownsRow e 5 1 (.slice r (b+32*a) c1) (b+32*a) (ak (g++(c.take a).flatten)))/\Hid (Below e w wr)) (λ_ x _=>d - (intOf x).toNat)
 case atStart=>exact⟨0,n,o,rfl,rfl,AX _,D,Below.refl _ _⟩
 case round=>
  clear D;obtain⟨a,r,c1,rfl,rfl,δ,h,s⟩:=hrel;have ε:(a:Int) < 9223372036854775807:=aC m;by_cases y:a < d
  ·have Q:(a:Int) < (d:Int):=ah
   have ζ:(0:Int)<=(a:Int):=ah;obtain⟨k,hd⟩:∃k,c[a]?=some k:=⟨_,AV (C.out ▸ y)⟩;have E:=O.at_ hd;obtain⟨f,i,j,R,F⟩:=l.at_ hd;have z:=v ah f i j;subst j;(have A:=AA<|AZ u s.size);have S:Hid (ax wr 1 (some ⟨f,i+a*32,none⟩) 32 (ak k)):=⟨by rw[aB,E],λ_=>⟨f,i+a*32,rfl,Ad z A,λG q T=>(s.cell (p:=⟨f,i+a*32+G,none⟩) z).trans (F G q T)⟩⟩;(have U:Hid (g++(c.take (a+1)).flatten=(g++(c.take a).flatten)++k):=by show _=_;rw[Cf hd,List.append_assoc]);(have V:Hid (b+32*(a+1)=b+32*a+32):=by show _=_;omega);(have W:Hid (b+32*a+32<=maxLen):=by have:=m.out;show _<=_;unfold maxLen;omega);(have X:Hid ((b+32*a+32)*1<=140737488355328):=by have:=m.out;show _<=_;omega);have H:=AA y;clear hd E F R z y;go_wp2_with (at_builtin;refine dD _ rfl (.tmp 12) (.tmp 16) 27 rfl e 5 J (.int .u8 0) 1 1 AR K L M N rfl aR (.slice r (b+32*a) c1) (b+32*a) (ak (g++(c.take a).flatten)) rfl h (some ⟨f,i+a*32,none⟩) 32 32 (ak k) rfl S (λj=>by cases j) (aY k) W X A ?_;intro η θ I;obtain⟨Y,Z,rfl,α,β⟩:=dM I s A h _ U (b+32*(a+1)) V;clear I);go_roundw
   case rel=>exact⟨a+1,Y,Z,rfl,by go_num,H,α,β⟩
   case measure=>(have:=H.out;simp[intOf];omega)
  ·obtain rfl:a=d:=ah
   (have γ:Hid ((c.take a).flatten=c.flatten):=by show _=_;rw[List.take_of_length_le (by rw[C.out];exact Nat.le_refl _)]);rw[γ.out]at h;have Q:¬((a:Int) < (a:Int)):=ah;go_wp2_with fail;go_ret;exact⟨_,rfl,h,s⟩
def eP(size i:Int)(A:Option Addr)(n c:Nat):Array Value:=#[.int .i64 size,.int .i64 i,.slice A n c]
def fO(size i:Int)(ds:List aj):Option aj:=if bP size i=true/\(sides size.toNat i.toNat).length=ds.length then some (jo size.toNat i.toNat ds)else none
theorem qh{b:Nat}{c d:World}(a:Below b c d)(e:Nat):Below b c (d.drewN e):=⟨a.os,a.tape,a.output,a.size,a.block⟩
def DR(size i:Int):Int:=if bP size i=true then((sides size.toNat i.toNat).length:Int)else -1
theorem zn(b c:Int)(d:World):Calls prog 81 #[.int .i64 b,.int .i64 c] d λf g=>f=.returned (.int .i64 (DR b c))/\g=d:=by
 unfold DR;by_cases e:bP b c=true
 ·rw[if_pos e]
  have a:=e;simp only[bP,Bool.and_eq_true,decide_eq_true_eq]at a;obtain⟨i,rfl⟩:=Int.eq_ofNat_of_zero_le (show 0<=b by omega);obtain⟨j,rfl⟩:=Int.eq_ofNat_of_zero_le a.1.2;exact(Js i j ah ah d).mono λf g ⟨h,a⟩=>⟨h,a.symm⟩
 ·rw[if_neg e]
  exact(Lr b c (by simpa using e) d).mono λf g ⟨h,a⟩=>⟨h,a.symm⟩
theorem VN(a b:Int):-1<=DR a b/\DR a b<=40:=by
 unfold DR
 split
 ·rename_i c
  simp only[bP,Bool.and_eq_true,decide_eq_true_eq]at c;have:=sQ (n:=a.toNat) (j:=b.toNat) (L:=40) ah (by rw[show(2:Nat) ^ 40=1099511627776 by decide];omega);omega
 ·omega
theorem Iq(size i:Int)(A:Option Addr)(n c:Nat)(w:World)(h:DR size i≠(n:Int)):
  bq 37 #[.agg (eP size i A n c)] w (.slice none 0 0):=by
 unfold eP
 have hT:=AA<|zn size i
 have hbs:=VN size i
 generalize DR size i=bs at*
 have y1:=beq_eq_false_iff_ne.2 h
 have y2:(bs !=(n:Int))=true:=by rw[bne,y1];rfl
 have hb0:=AA<|Below.aJ w (.cells #[.int .i64 size,.int .i64 i,.slice A n c] 48)
 clear hbs
 go_enter func37,ntmps37
 go_wp2_with fail
 go_quiet ((go_at_call 81;exact Calls.quiet_of_same (hT _)))
 go_wp2_with fail
 go_ret
 exact⟨rfl,qh hb0 _⟩
theorem F9(c d:Nat)(hs:c<=1099511627776)(l:d < c)(q:List aj)(j:Option Addr)(e m:Nat)(b:World)(r:j6 b j e q)(k:(sides c d).length=e):
  Calls prog 37 #[.agg (eP c d j e m)] b λg a=>∃n,g=.returned n/\a.ownsRow b.heap.size 5 1 n (17+32*e) (ak (jo c d q))/\av b a:=by
 unfold eP
 obtain⟨f,x,y,z,A⟩:=fT pI
 have o:bP (c:Int) (d:Int)=true:=by
  have f:(1:Int)<=c:=ah;have h:(c:Int)<=1099511627776:=ah;have i:(0:Int)<=d:=ah;have p:(d:Int) < c:=ah;simp[bP,f,h,i,p]
 have p:=AA<|λa=>by
  have:=zn c d a;unfold DR at this;rw[if_pos o,Int.toNat_natCast,Int.toNat_natCast,k]at this;exact this
 have G:Hid (e<=40):=by
  show e<=40;rw[<-k];exact sQ l (by rw[show(2:Nat) ^ 40=1099511627776 by decide];omega)
 have f:((e:Int)==(e:Int))=true:=beq_self_eq_true _
 have B:Hid (∀f:Nat,f<=1099511627776->∀a h,a.heap.size=h->Calls prog 82 #[.int .i64 (f:Int)] a λg i=>g=.returned (.slice (some ⟨h,0,none⟩) 8 8)/\av a i/\i.ownsRow h 5 1 (.slice (some ⟨h,0,none⟩) 8 8) 8 (ak (jM f))):=λf t a h s=>by
  subst s;exact wL f ah a
 have t:=AA hs
 have H:Hid (d<=1099511627776):=by show d<=_;omega
 replace r:=AA r
 clear o hs l k
 go_enter func37,ntmps37
 go_wp2_with fail
 go_quiet ((go_at_call 81;exact Calls.quiet_of_same (p _)))
 clear p
 generalize h:((b.alloc (.cells #[.int .i64 (c:Int),.int .i64 (d:Int),.slice j e m] 48)).drewN nq)=f
 have C:Hid (av b f):=h ▸ qh (Below.aJ b _) nq
 have o:Hid (f.heap.size=b.heap.size+1):=by show _=_;rw[<-h];simp
 have l:Hid (aL f b.heap.size 48 #[.int .i64 (c:Int),.int .i64 (d:Int),.slice j e m]):=h ▸ (aL.new b _ _).drewN nq
 clear h
 have s:Hid (∀a,Below (b.heap.size+1) f a->∀k,a.cell? ⟨b.heap.size,k,none⟩=#[Value.int .i64 (c:Int),.int .i64 (d:Int),.slice j e m][k]?):=λa h k=>by
  have:aL a b.heap.size 48 #[.int .i64 (c:Int),.int .i64 (d:Int),.slice j e m]:=(h.block b.heap.size ah).trans l;exact this.cell k
 have p:Hid (Below (b.heap.size+1) f (f.alloc (.cells #[.int .u8 48] 5))):=(Below.refl _ _).alloc (o.out ▸ AJ _) _
 have w:Hid ((f.alloc (.cells #[.int .u8 48] 5)).ownsRow (b.heap.size+1) 5 1 (.slice (some ⟨f.heap.size,0,none⟩) 1 1) 1 (ak [48])):=by
  have:=l9 f (b.heap.size+1) (o.out ▸ AJ _) 5 #[.int .u8 48] 1 rfl (by unfold maxLen;omega);exact this
 have k:Hid (b.heap.size+1<=(f.alloc (.cells #[.int .u8 48] 5)).heap.size):=by show _<=_;simp[o.out]
 have I:(f.alloc (.cells #[.int .u8 48] 5)).cell? ⟨b.heap.size,0,none⟩=some (.int .i64 (c:Int)):=s _ p 0
 go_wp2_with (first
  |(go_at_call 82;refine(B c t _ (f.heap.size+1) aZ).mono ?_;rintro g t ⟨rfl,l,D⟩;have J:=AA<|p.trans (l.mono k);have E:=AA (dz w l);have F:=AA<|AZ k l.size;obtain⟨K,cl,t,-,-,k,-⟩:=iH D;injection t with u L v;subst u v;replace k:=AA k;clear l D p w I)
  |(rw[bY 17];refine iL (.tmp 13) (.tmp 16) AR x y z A E k (λg=>by cases g) (aY _) (by unfold maxLen;omega) ah F ?_;intro w l p;obtain⟨D,M,rfl,I,w⟩:=dM p J F E ([48]++jM c) rfl 9 rfl;have D:Hid (b.heap.size+1<=l.heap.size):=(by have:=w.size;have:=o.out;show _<=_;omega);clear p k))
 have c1:Hid (∀a,Below (b.heap.size+1) f a->a.cell? ⟨b.heap.size,1,none⟩=some (.int .i64 (d:Int))):=λa h=>s a h 1
 have c2:Hid (∀a,Below (b.heap.size+1) f a->a.cell? ⟨b.heap.size,2,none⟩=some (.slice j e m)):=λa h=>s a h 2
 have F:=AA<|λa (h:Below (b.heap.size+1) f a)=>r.below (C.trans (h.mono ah))
 have J:Hid (0 < e->∀s E,j=some ⟨s,E,none⟩->s < b.heap.size+1):=λh0 s E g=>by
  obtain⟨E,M,s,N,-⟩:=r.2.2.at_ ah;rw[g]at s;(injection s with s);(injection s with r E);omega
 have aD:=AA w.drew
 refine dI (λa=>Below (b.heap.size+1) f a) 9 ?_
 refine aH 0 aD ?_
 refine aH 1 aD ?_
 refine eG 2 aD (λa f=>c1 a f) ?_
 refine aH 5 aD ?_
 refine eG 6 aD (λa f=>c2 a f) ?_
 refine aU 3 ?_
 refine cK (R:=λn i=>n=.slice (some ⟨l.heap.size,0,none⟩) 8 8/\av l i/\i.ownsRow l.heap.size 5 1 (.slice (some ⟨l.heap.size,0,none⟩) 8 8) 8 (ak (jM d))) Bd ((B d H l.drew l.heap.size rfl).mono λg i ⟨r,h,s⟩=>⟨_,r,rfl,((Below.refl l.heap.size l).drew).trans h,s⟩) ?_
 rintro l B ⟨rfl,a,f⟩
 have l:=AA<|w.trans (a.mono D)
 have w:=AA (dz I a)
 have B:=AA<|AZ D a.size
 obtain⟨K,cl,t,-,-,k,-⟩:=iH f
 injection t with u L v
 subst u v
 replace k:=AA k
 clear f a
 refine aV l ?_
 refine aU 4 ?_
 refine jK (.tmp 18) (.tmp 21) AR x y z A w k (λg=>by cases g) (aY _) (by unfold maxLen;omega) ah B ?_
 intro f a p
 obtain⟨t,u,rfl,v,f⟩:=dM p l B w ([48]++jM c++jM d) rfl 17 rfl
 have l:Hid (b.heap.size+1<=a.heap.size):=(by have:=f.size;have:=o.out;show _<=_;omega)
 clear p k
 refine aV f ?_
 refine aU 7 ?_
 refine cK (R:=λn i=>i.ownsRow (b.heap.size+1) 5 1 n (17+32*e) (ak ([48]++jM c++jM d++q.flatten))/\Below (b.heap.size+1) a i) Bf ((o8 (b.heap.size+1) ([48]++jM c++jM d) 17 t u q e j m a l v (F a f) J (aC G)).mono λg i ⟨n,r,s,h⟩=>⟨_,r,s,h⟩) ?_
 rintro b d ⟨a,c⟩
 obtain⟨b,d,rfl,-⟩:=iH a
 have b:=AA<|f.trans c
 replace a:=AA a
 clear c
 refine aV b ?_
 refine aH 8 b ?_
 refine bT ?_
 go_wp2_with fail
 go_ret
 exact⟨_,rfl,cO a ah,C.trans (b.mono ah)⟩
theorem nQ:dw.length=32:=rfl
theorem Es(a:World):bq 51 #[] a (.agg (ak dw).toArray):=by
 (have b:=AA<|aL.new a 23 bF);(have c:=AA<|Below.aJ a (.cells bF 23));have a:=AA (aP (x:=dw) nQ);(go_enter Bg,ntmps51);go_wp2_with (rw[bA 23 _];refine fw b a.size a.zero a.one ?_);refine gI (setRow_heap _ _ _ _ _ _ b) a.size AB ?_;exact⟨rfl,below_setRow c (AJ _) _⟩
def eF(h:bE)(q:aj):aj:=iU q++nR q (dN h)
theorem jw(a:bE)(b:aj):(eF a b).length=64:=by unfold eF;rw[List.length_append,jI,qp]
theorem Dx(z:Array Value)(f:z.size=64)(a b:List Value)(hx:a.length=32)(g:b.length=32):
  Instr.fill (#[((0:Nat),(32:Nat)),(32,32)][·]?) z [(0,.agg a.toArray),(1,.agg b.toArray)]=some (a++b).toArray:=by
 have d:=Great.fill_whole (s:=32) ah [.agg a.toArray,.agg b.toArray] z (λe c=>by
  rcases Ag.1 c with rfl | c
  ·exact hx
  ·rcases Ag.1 c with rfl | c
   ·exact g
   ·cases c) (by rw[f];rfl)
 have c:([Value.agg a.toArray,.agg b.toArray].flatMap λe=>e.cells.toList)=a++b:=by
  simp[Value.cells]
 rw[c]at d
 exact d
theorem NW(a b:List Value)(hx:a.length=32)(c:b.length=32):prog.built 57 [(0,.agg a.toArray),(1,.agg b.toArray)]=some (a++b).toArray:=by
 have d:=Dx (Array.replicate 64 (.int .u8 0)) aZ a b hx c;rw[Cr];exact d
theorem J8(b:bE)(a:aj)(c:World):(Instr.build 57 #[(0,.agg (ak (iU a)).toArray),(1,.agg (ak (nR a (dN b))).toArray)]).run prog c=.ok (.agg (ak (eF b a)).toArray) c:=by
 (have d:ak (eF b a)=ak (iU a)++ak (nR a (dN b)):=by simp[eF,ak]);rw[d];exact run_build c _ _ _ (NW _ _ (by rw[aB,jI]) (by rw[aB,qp]))
theorem lm(a:aj)(hx:a.length=64):(prog.info? 57).map (·.size)=some (ak a).toArray.size:=kK.trans (congrArg some (by simp[aB,hx]))
theorem jH(a:aj):(ak a).toArray.all (λb=>b.oneCell')=true:=bO a
theorem jv(a:aj)(hx:a.length=64):(gU:Array Value).size=(ak a).toArray.size:=by simp[aB,hx,gU]
theorem J2(a:bE)(h:a.Ok)(q:gH a=true)(b:aj)(g:Nat)(r:b.length=g)(y:g<=64)(l:Option Addr)(m:Nat)(c:World)(i:bn c)(s:ax c 1 l g (ak b))(p:g<=m)(k:l=none->g=0/\m=0):
  bq 216 #[.agg (aI a).toArray,.slice l g m] c (.agg (ak (eF a b)).toArray):=by
 obtain⟨e,j⟩:=bG ((c.alloc (.cells (aI a).toArray 36)).alloc (.cells gU 57))
 have n:Hid (aL e c.heap.size 36 (aI a).toArray):=j.out ▸ heap_alloc2_old c _ _
 have u:Hid (aL e (c.heap.size+1) 57 gU):=j.out ▸ heap_alloc2_new c _ _
 have d:Hid (av c e):=j.out ▸ ((Below.refl _ c).alloc (AJ _) _).alloc aZ _
 have f:=AA<|BB u.lt
 have o:Hid ((prog.info? 36).map (·.size)=some (aI a).toArray.size):=by show _=_;rw[List.size_toArray,bQ h];exact iT
 have z:=AA (jZ h)
 have A:=AA (lm _ (jw a b))
 replace h:=AA h
 replace q:=AA q
 replace r:=AA r
 replace i:=AA i
 replace s:=AA s
 replace k:=AA k
 go_enter func216,ntmps216
 go_wp2_with fail
 change(Code.region _ _ _).wp _ _ _ ((c.alloc (.cells (aI a).toArray 36)).alloc (.cells gU 57))
 rw[<-j.out]
 clear j
 have aD:Hid (av e e.drew):=(Below.refl _ _).drew
 refine dI (λt=>Below (c.heap.size+1) e t) 8 ?_
 refine aH 0 (aD.mono f) ?_
 refine aH 2 (aD.mono f) ?_
 refine eO 3 rfl (aD.mono f) (λt w=>gM 36 (.tmp 2) rfl (c.heap.size) rfl 36 ((aI a).toArray) (0,0) _ ((w.block _ ah).trans n) AQ rfl o) ?_
 refine aU 1 ?_
 refine cK (R:=λj c=>j=.agg (ak (iU b)).toArray/\av e c) A9 ((Ca b g r l m e.drew (i.below (d.trans (aD.mono d.size)) i.1) (s.below (d.trans (aD.mono d.size))) p ah k).mono λx c ⟨n,o⟩=>⟨_,n,rfl,aD.trans (o.mono aD.size)⟩) ?_
 rintro k v ⟨rfl,p⟩
 replace p:=AA p
 refine aV (p.mono f) ?_
 refine aU 4 ?_
 refine cK (R:=λj c=>∃k c1,j=.slice k 113 c1/\113<=c1/\ax c 1 k 113 (ak (dN a))/\av e c) func264 ((SB a h q v).mono λx c ⟨j,n,o,B⟩=>by obtain⟨k,c1,rfl,v,_,_,q,_⟩:=Own.reads B;exact⟨_,n,k,c1,rfl,v,q,p.trans (o.mono p.size)⟩) ?_
 rintro B p ⟨k,c1,rfl,v,q,h⟩
 replace h:=AA h
 replace q:=AA q
 refine aV (h.mono f) ?_
 refine aU 5 ?_
 refine cK (R:=λj c=>j=.agg (ak (nR b (dN a))).toArray/\av e c) func263 ((Vf b (dN a) g 113 r z y l k m c1 p (i.below (d.trans (h.mono d.size)) i.1) ah (s.below (d.trans (h.mono d.size))) q v).mono λx c ⟨n,o⟩=>⟨_,n,rfl,h.trans (o.mono h.size)⟩) ?_
 rintro e g ⟨rfl,c⟩
 replace c:=AA c
 refine aV (c.mono f) ?_
 refine eO 6 rfl (c.mono f) (λt w=>fe 57 #[(0,.tmp 6),(1,.tmp 10)] rfl #[(0,.agg (ak (iU b)).toArray),(1,.agg (ak (nR b (dN a))).toArray)] (by simp;exact⟨rfl,rfl⟩) _ (J8 a b t)) ?_
 refine fP 7 (λK e=>?_)
 refine fM ((c.block _ u.lt).trans u) (lm _ (jw a b)) (jv _ (jw a b)) (jH _) ?_
 intro g b a
 have g:=AA<|d.trans ((c.mono d.size).trans (au.aW a ah (dn d.size c.size)))
 go_simp
 refine e _ _ ?_ ?_
 ·exact((c.mono f).trans (au.aW a ah (dn c.size f)))
 refine bT ?_
 go_wp2_with fail
 refine gI b A Af ?_
 exact⟨rfl,g⟩
def lT(k:Nat):Bool:=decide (0 < (k:Int))&&decide ((k:Int)<=64)
theorem yZ{a:Nat}(b:lT a=true):0 < a/\a<=64:=by
 unfold lT at b;simp at b;omega
def qN:aj:=List.replicate 64 0
theorem tV:qN.length=64:=by simp[qN]
def iM(h:bE)(q:aj):aj×Int:=if lT q.length then(if gH h then(eF h q,0)else(qN,1))else(qN,160)
theorem nk(a:bE)(b:aj):(iM a b).1.length=64:=by
 unfold iM
 split
 ·split
  ·exact jw a b
  ·exact tV
 ·exact tV
theorem oL(a:Nat)(c:Option Addr)(d:Nat)(b:World):
  Calls prog 60 #[.slice c a d] b λe f=>e=.returned (.bool (lT a))/\f=b:=by
 by_cases c:(0:Int) < (a:Int)
 ·by_cases d:(a:Int)<=64
  ·have b:Hid (lT a=true):=by show _=_;simp only[lT,c,d,decide_true,Bool.and_self]
   (go_enter func60,ntmps60);go_wp2_with fail;go_ret;rw[b.out];exact⟨rfl,rfl⟩
  ·have b:Hid (lT a=false):=by show _=_;simp only[lT,d,decide_false,Bool.and_false]
   (go_enter func60,ntmps60);go_wp2_with fail;go_ret;rw[b.out];exact⟨rfl,rfl⟩
 ·have b:Hid (lT a=false):=by show _=_;simp only[lT,c,decide_false,Bool.false_and]
  (go_enter func60,ntmps60);go_wp2_with fail;go_ret;rw[b.out];exact⟨rfl,rfl⟩

def fE(h:bE)(s q:aj):Int:=if lT q.length=true/\iU q=s.take 32 then(if gH h then(if eF h q=s then 0 else 161)else 1)else 160
theorem tJ(d:bE)(α:d.Ok)(e:aj)(hs:e.length=64)(f:aj)(i:Nat)(t:f.length=i)(m:Option Addr)(n:Nat)(c:World)(o:bn c)(z:ax c 1 m i (ak f))(K:i<=n)(A:m=none->i=0/\n=0):
  bq 128 #[.agg (aI d).toArray,.agg (ak e).toArray,.slice m i n] c (.int .i64 (fE d e f)):=by
 obtain⟨v,B⟩:=bG ((c.alloc (.cells (aI d).toArray 36)).alloc (.cells (ak e).toArray 57))
 have L:Hid (aL v c.heap.size 36 (aI d).toArray):=B.out ▸ heap_alloc2_old c _ _
 have C:Hid (aL v (c.heap.size+1) 57 (ak e).toArray):=B.out ▸ heap_alloc2_new c _ _
 have η:Hid (av c v):=B.out ▸ ((Below.refl _ c).alloc (AJ _) _).alloc aZ _
 have q:=AA<|λa (b:aA v a)=>η.trans (b.below.mono η.size)
 have V:Hid (∀a,aA v a->∀W X,(ak (e.take 32))[W]?=some X->a.cell? ⟨c.heap.size+1,0+W,none⟩=some X):=λa b W X κ=>by
  have g:aL a (c.heap.size+1) 57 (ak e).toArray:=(b.below.block _ C.lt).trans C;rw[g.cell,List.getElem?_toArray];exact Jg e W X κ
 have R:Hid ((prog.info? 36).map (·.size)=some (aI d).toArray.size):=by show _=_;rw[List.size_toArray,bQ α];exact iT
 have θ:=AA (lm e hs)
 have β:(e.take 32).length=32:=by simp[hs]
 have Y:Hid ((prog.info? 23).map (·.size)=some (ak (e.take 32)).length):=by show _=_;rw[aB,β];exact jN
 have H:=iV (iU f) (e.take 32) (jI f) β
 have I:=Oy (eF d f) e (jw d f) hs
 have J:=Oz (eF d f) e (jw d f) hs
 have D:(eF d f).take 32=iU f:=by unfold eF;rw[List.take_append_of_le_length (by rw[jI];exact Nat.le_refl _),List.take_of_length_le (by rw[jI];exact Nat.le_refl _)]
 have E:=Jf (eF d f) e
 rw[D]at E
 replace t:=AA t
 replace o:=AA o
 replace z:=AA z
 replace A:=AA A
 have S:=AA α
 clear α hs β
 by_cases u:lT i=true
 ·have ι:=yZ u
  have M:=AA u;by_cases r:iU f=e.take 32
  ·have T:Hid (∀c,(Op.equalIn 10000 23 (.agg (ak (iU f)).toArray) (.agg (ak (e.take 32)).toArray)).run prog c=.ok true c):=λc=>by rw[H c,decide_eq_true r]
   by_cases F:gH d=true
   ·have N:=AA F
    by_cases O:eF d f=e
    ·have x:Hid (fE d e f=0):=by show _=_;unfold fE;rw[t.out,if_pos ⟨u,r⟩,if_pos F,if_pos O]
     (have γ:Hid (∀c,(Op.equalIn 9999 23 (.agg (List.take 32 (ak (eF d f))).toArray) (.agg (List.take 32 (ak e)).toArray)).run prog c=.ok true c):=λc=>by rw[J c,D,decide_eq_true r]);(have δ:Hid (∀c,(Op.equalIn 9999 23 (.agg (List.take 32 (List.drop 32 (ak (eF d f)))).toArray) (.agg (List.take 32 (List.drop 32 (ak e))).toArray)).run prog c=.ok true c):=λc=>by rw[I c,decide_eq_true (E.1 O).2]);rw[x.out];clear u r F O H I J E D;(go_enter Bh,ntmps128);go_wp2_with fail;change(Code.region _ _ _).wp _ _ _ ((c.alloc (.cells (aI d).toArray 36)).alloc (.cells (ak e).toArray 57));rw[<-B.out];refine cB (aA v) (aA.jD ((Below.refl _ _).drew)) ?_;refine aG ?_;refine cZ Bj (λa b=>(oL i m n a).mono (λs w ⟨h,g⟩=>⟨by rw[h,M.out],by rw[g];exact b⟩)) ?_;(iterate 3 refine aG ?_);refine cZ A9 (λa b=>(Ca f i t m n a (o.below (q a b) o.1) (z.below (q a b)) K ah A).mono (λs w ⟨h,g⟩=>⟨h,b.next g⟩)) ?_;refine aG ?_;refine dh (c.heap.size+1) (0) (ak (e.take 32)) (λa b=>V a b) Y AB ?_;refine bC (λa b=>T a) ?_;refine aG ?_;refine bR ?_;intro k j;(have y:=AA<|q k j);have G:Hid (aL k c.heap.size 36 (aI d).toArray):=(j.below.block _ L.lt).trans L;have U:Hid (aL k (c.heap.size+1) 57 (ak e).toArray):=(j.below.block _ C.lt).trans C;clear j
     go_wp2_with (first
      |(rw[aF 17];refine aM G R AQ ?_)
      |(go_at_call 209;refine(gK d S _).mono ?_;rw[N.out];rintro s Z ⟨rfl,p⟩;have l:=aQ y p;have P:=bf p G;have Q:=bf p U;clear p))
     refine cB (aA Z) (aA.jD ((Below.refl _ _).drew)) ?_;refine gu (λa b=>(b.below.block _ P.lt).trans P) R AQ ?_;refine aG ?_;refine cZ func216 (λa b=>(J2 d S N f i t ι.2 m n a (o.below (l.trans (b.below.mono l.size)) o.1) (z.below (l.trans (b.below.mono l.size))) K A).mono (λs w ⟨h,g⟩=>⟨h,b.next g⟩)) ?_;refine gu (λa b=>(b.below.block _ Q.lt).trans Q) θ Af ?_;refine jr (λa b=>by have μ:=γ a;have ν:=δ a;go_simp;rfl) ?_;refine bR ?_;intro ξ ε;(have ζ:=AA<|l.trans (ε.below.mono l.size));go_wp2_with fail;go_ret;exact⟨rfl,ζ⟩
    ·have x:Hid (fE d e f=161):=by show _=_;unfold fE;rw[t.out,if_pos ⟨u,r⟩,if_pos F,if_neg O]
     (have γ:Hid (∀c,(Op.equalIn 9999 23 (.agg (List.take 32 (ak (eF d f))).toArray) (.agg (List.take 32 (ak e)).toArray)).run prog c=.ok true c):=λc=>by rw[J c,D,decide_eq_true r]);(have δ:Hid (∀c,(Op.equalIn 9999 23 (.agg (List.take 32 (List.drop 32 (ak (eF d f)))).toArray) (.agg (List.take 32 (List.drop 32 (ak e))).toArray)).run prog c=.ok false c):=λc=>by rw[I c,decide_eq_false (λο=>O (E.2 ⟨r,ο⟩))]);rw[x.out];clear u r F O H I J E D;(go_enter Bh,ntmps128);go_wp2_with fail;change(Code.region _ _ _).wp _ _ _ ((c.alloc (.cells (aI d).toArray 36)).alloc (.cells (ak e).toArray 57));rw[<-B.out];refine cB (aA v) (aA.jD ((Below.refl _ _).drew)) ?_;refine aG ?_;refine cZ Bj (λa b=>(oL i m n a).mono (λs w ⟨h,g⟩=>⟨by rw[h,M.out],by rw[g];exact b⟩)) ?_;(iterate 3 refine aG ?_);refine cZ A9 (λa b=>(Ca f i t m n a (o.below (q a b) o.1) (z.below (q a b)) K ah A).mono (λs w ⟨h,g⟩=>⟨h,b.next g⟩)) ?_;refine aG ?_;refine dh (c.heap.size+1) (0) (ak (e.take 32)) (λa b=>V a b) Y AB ?_;refine bC (λa b=>T a) ?_;refine aG ?_;refine bR ?_;intro k j;(have y:=AA<|q k j);have G:Hid (aL k c.heap.size 36 (aI d).toArray):=(j.below.block _ L.lt).trans L;have U:Hid (aL k (c.heap.size+1) 57 (ak e).toArray):=(j.below.block _ C.lt).trans C;clear j
     go_wp2_with (first
      |(rw[aF 17];refine aM G R AQ ?_)
      |(go_at_call 209;refine(gK d S _).mono ?_;rw[N.out];rintro s Z ⟨rfl,p⟩;have l:=aQ y p;have P:=bf p G;have Q:=bf p U;clear p))
     refine cB (aA Z) (aA.jD ((Below.refl _ _).drew)) ?_;refine gu (λa b=>(b.below.block _ P.lt).trans P) R AQ ?_;refine aG ?_;refine cZ func216 (λa b=>(J2 d S N f i t ι.2 m n a (o.below (l.trans (b.below.mono l.size)) o.1) (z.below (l.trans (b.below.mono l.size))) K A).mono (λs w ⟨h,g⟩=>⟨h,b.next g⟩)) ?_;refine gu (λa b=>(b.below.block _ Q.lt).trans Q) θ Af ?_;refine jr (λa b=>by have μ:=γ a;have ν:=δ a;go_simp;rfl) ?_;refine bR ?_;intro ξ ε;(have ζ:=AA<|l.trans (ε.below.mono l.size));go_wp2_with fail;go_ret;exact⟨rfl,ζ⟩
   ·have N:Hid (gH d=false):=by show _=_;simpa using F
    (have x:Hid (fE d e f=1):=by show _=_;unfold fE;rw[t.out,if_pos ⟨u,r⟩,if_neg F]);rw[x.out];clear u r F H I J E D;(go_enter Bh,ntmps128);go_wp2_with fail;change(Code.region _ _ _).wp _ _ _ ((c.alloc (.cells (aI d).toArray 36)).alloc (.cells (ak e).toArray 57));rw[<-B.out];refine cB (aA v) (aA.jD ((Below.refl _ _).drew)) ?_;refine aG ?_;refine cZ Bj (λa b=>(oL i m n a).mono (λs w ⟨h,g⟩=>⟨by rw[h,M.out],by rw[g];exact b⟩)) ?_;(iterate 3 refine aG ?_);refine cZ A9 (λa b=>(Ca f i t m n a (o.below (q a b) o.1) (z.below (q a b)) K ah A).mono (λs w ⟨h,g⟩=>⟨h,b.next g⟩)) ?_;refine aG ?_;refine dh (c.heap.size+1) (0) (ak (e.take 32)) (λa b=>V a b) Y AB ?_;refine bC (λa b=>T a) ?_;refine aG ?_;refine bR ?_;intro k j;(have y:=AA<|q k j);have G:Hid (aL k c.heap.size 36 (aI d).toArray):=(j.below.block _ L.lt).trans L;have U:Hid (aL k (c.heap.size+1) 57 (ak e).toArray):=(j.below.block _ C.lt).trans C;clear j
    go_wp2_with (first
     |(rw[aF 17];refine aM G R AQ ?_)
     |(go_at_call 209;refine(gK d S _).mono ?_;rw[N.out];rintro s Z ⟨rfl,p⟩;have l:=aQ y p;have P:=bf p G;have Q:=bf p U;clear p))
    go_ret;exact⟨rfl,l⟩
  ·have T:Hid (∀c,(Op.equalIn 10000 23 (.agg (ak (iU f)).toArray) (.agg (ak (e.take 32)).toArray)).run prog c=.ok false c):=λc=>by rw[H c,decide_eq_false r]
   (have x:Hid (fE d e f=160):=by show _=_;unfold fE;rw[if_neg (λd=>r d.2)]);rw[x.out];clear u r H I J E D;(go_enter Bh,ntmps128);go_wp2_with fail;change(Code.region _ _ _).wp _ _ _ ((c.alloc (.cells (aI d).toArray 36)).alloc (.cells (ak e).toArray 57));rw[<-B.out];refine cB (aA v) (aA.jD ((Below.refl _ _).drew)) ?_;refine aG ?_;refine cZ Bj (λa b=>(oL i m n a).mono (λs w ⟨h,g⟩=>⟨by rw[h,M.out],by rw[g];exact b⟩)) ?_;(iterate 3 refine aG ?_);refine cZ A9 (λa b=>(Ca f i t m n a (o.below (q a b) o.1) (z.below (q a b)) K ah A).mono (λs w ⟨h,g⟩=>⟨h,b.next g⟩)) ?_;refine aG ?_;refine dh (c.heap.size+1) (0) (ak (e.take 32)) (λa b=>V a b) Y AB ?_;refine bC (λa b=>T a) ?_;refine aG ?_;refine bR ?_;intro k j;(have y:=AA<|q k j);go_wp2_with fail;go_ret;exact⟨rfl,y⟩
 ·have x:Hid (fE d e f=160):=by show _=_;unfold fE;rw[t.out,if_neg (λd=>u d.1)]
  rw[x.out];(have M:Hid (lT i=false):=by show _=_;simpa using u);clear u H I J E D;(go_enter Bh,ntmps128);go_wp2_with fail;change(Code.region _ _ _).wp _ _ _ ((c.alloc (.cells (aI d).toArray 36)).alloc (.cells (ak e).toArray 57));rw[<-B.out];refine cB (aA v) (aA.jD ((Below.refl _ _).drew)) ?_;refine aG ?_;refine cZ Bj (λa b=>(oL i m n a).mono (λs w ⟨h,g⟩=>⟨by rw[h,M.out],by rw[g];exact b⟩)) ?_;(iterate 8 refine aG ?_);refine bR ?_;intro k j;(have y:=AA<|q k j);go_wp2_with fail;go_ret;exact⟨rfl,y⟩
theorem UC{d:World}{a g b:Nat}{e:List aj}{c:aj}(f:kD d (some ⟨a,0,none⟩) g e)(hx:e[b]?=some c):ax d 1 (some ⟨a,b*64,none⟩) 32 (ak (eZ c)):=by
 obtain⟨h,i,d,e,g⟩:=f.at_ hx;(injection d with d);(injection d with h i);subst h i;have d:=f.all c (Ab hx);refine⟨by rw[aB,mU d],λ_=>⟨a,b*64,rfl,e,λc u d=>?_⟩⟩;have:=g (0+c) u (uf d);rwa[Nat.zero_add,Nat.zero_add]at this
theorem UA{d:World}{a g b:Nat}{e:List aj}{c:aj}(f:kD d (some ⟨a,0,none⟩) g e)(hx:e[b]?=some c):ax d 1 (some ⟨a,b*64+32,none⟩) 32 (ak (LU c)):=by
 obtain⟨h,i,d,e,g⟩:=f.at_ hx;(injection d with d);(injection d with h i);subst h i;have d:=f.all c (Ab hx);refine⟨by rw[aB,DV d],λ_=>⟨a,b*64+32,rfl,e,λc u d=>?_⟩⟩;have:=g (32+c) u (Oo d);rwa[Nat.zero_add,<-Nat.add_assoc]at this
theorem VG(a:Nat)(b:a<=16):(#[Value.int .u8 (a:Int)]:Array Value).toList=ak [BitVec.ofNat 8 a]:=by
 show[Value.int .u8 (a:Int)]=[Value.int .u8 (b8 (BitVec.ofNat 8 a))];rw[TS b]
theorem OT(a:World)(u:Value)(b:aj)(c:(#[u]:Array Value).toList=ak b):(a.alloc (.cells #[u] 5)).ownsRow a.heap.size 5 1 (.slice (some ⟨a.heap.size,0,none⟩) 1 1) 1 (ak b):=by
 have:=l9 a a.heap.size (AJ _) 5 #[u] 1 rfl (by unfold maxLen;omega);rw[c]at this;exact this
theorem F7(a:bE)(f:a.Ok)(h:List aj)(c:Nat)(j:Hid (gH a=false))(d:Option Addr)(e:Nat)(b:World)(i:kD b d c h):
  bq 187 #[.agg (aN a (.slice d c e)).toArray] b (.tuple #[.slice none 0 0,.int .i64 1]):=by
 have k:=AA<|Below.aJ b (.cells (aN a (.slice d c e)).toArray 39)
 have g:Hid (fC (b.alloc (.cells (aN a (.slice d c e)).toArray 39)) b.heap.size a d c e h):=fC.new i
 have h:Hid ((prog.info? 36).map (·.size)=some (aI a).length):=by show _=_;rw[bQ f];exact iT
 have l:Hid ((b.alloc (.cells (aN a (.slice d c e)).toArray 39)).heap.size=b.heap.size+1):=by show _=_;simp
 have b:=g.row f
 have b:=AA f
 clear f i
 go_enter Bl,ntmps187
 go_wp2_with (first
  |((rw[aF 12];refine bS g.head h AQ ?_))
  |(go_at_call 248;refine(EO a b j _).mono ?_;rintro c d ⟨rfl,a⟩;have c:=AA (g.below a);have d:=c.row b;have b:=AA<|k.trans (a.mono (by rw[l.out];omega));clear a))
 go_ret2
 exact⟨rfl,b⟩
theorem Io(a:bE)(f:a.Ok)(h:List aj)(b:Nat)(j:Hid (gH a=true))(h0:b=0)(d:Option Addr)(e:Nat)(c:World)(i:kD c d b h):
  bq 187 #[.agg (aN a (.slice d b e)).toArray] c (.tuple #[.slice none 0 0,.int .i64 7]):=by
 have k:=AA<|Below.aJ c (.cells (aN a (.slice d b e)).toArray 39)
 have g:Hid (fC (c.alloc (.cells (aN a (.slice d b e)).toArray 39)) c.heap.size a d b e h):=fC.new i
 have h:Hid ((prog.info? 36).map (·.size)=some (aI a).length):=by show _=_;rw[bQ f];exact iT
 have l:Hid ((c.alloc (.cells (aN a (.slice d b e)).toArray 39)).heap.size=c.heap.size+1):=by show _=_;simp
 have b:=g.row f
 have c:=AA f
 clear f i
 subst h0
 go_enter Bl,ntmps187
 go_wp2_with (first
  |((rw[aF 12];refine bS g.head h AQ ?_))
  |(go_at_call 248;refine(pE a c j _).mono ?_;rintro d e ⟨f,rfl,a,b⟩;obtain⟨e,f,rfl,-,-,d,-,-⟩:=Own.reads b;replace b:=AA b;replace d:=AA d;have b:=AA (g.below a);have d:=b.row c;have b:=AA<|k.trans (a.mono (by rw[l.out];omega));clear a))
 go_ret2
 exact⟨rfl,b⟩
theorem Ip(a:bE)(f:a.Ok)(h:List aj)(b:Nat)(j:Hid (gH a=true))(k:16 < b)(d:Option Addr)(e:Nat)(c:World)(i:kD c d b h):
  bq 187 #[.agg (aN a (.slice d b e)).toArray] c (.tuple #[.slice none 0 0,.int .i64 7]):=by
 have l:=AA<|Below.aJ c (.cells (aN a (.slice d b e)).toArray 39)
 have g:Hid (fC (c.alloc (.cells (aN a (.slice d b e)).toArray 39)) c.heap.size a d b e h):=fC.new i
 have h:Hid ((prog.info? 36).map (·.size)=some (aI a).length):=by show _=_;rw[bQ f];exact iT
 have m:Hid ((c.alloc (.cells (aN a (.slice d b e)).toArray 39)).heap.size=c.heap.size+1):=by show _=_;simp
 have c:=g.row f
 have c:=AA f
 clear f i
 have d:((b:Int) < 1)=False:=eq_false ah
 have d:(16:Int) < (b:Int):=ah
 clear k
 go_enter Bl,ntmps187
 go_wp2_with (first
  |((rw[aF 12];refine bS g.head h AQ ?_))
  |(go_at_call 248;refine(pE a c j _).mono ?_;rintro d e ⟨f,rfl,a,b⟩;obtain⟨e,f,rfl,-,-,d,-,-⟩:=Own.reads b;replace b:=AA b;replace d:=AA d;have b:=AA (g.below a);have d:=b.row c;have b:=AA<|l.trans (a.mono (by rw[m.out];omega));clear a))
 go_ret2
 exact⟨rfl,b⟩
theorem F8(b:bE)(f:b.Ok)(g:List aj)(a:Nat)(l:Hid (gH b=true))(h0:0 < a)(i:a<=16)(m:Hid (bK eZ g=none))(c:Option Addr)(e:Nat)(d:World)(j:kD d c a g):
  bq 187 #[.agg (aN b (.slice c a e)).toArray] d (.tuple #[.slice none 0 0,.int .i64 92]):=by
 have n:=AA<|Below.aJ d (.cells (aN b (.slice c a e)).toArray 39)
 have h:Hid (fC (d.alloc (.cells (aN b (.slice c a e)).toArray 39)) d.heap.size b c a e g):=fC.new j
 have o:Hid ((prog.info? 36).map (·.size)=some (aI b).length):=by show _=_;rw[bQ f];exact iT
 have p:Hid ((d.alloc (.cells (aN b (.slice c a e)).toArray 39)).heap.size=d.heap.size+1):=by show _=_;simp
 have d:=h.row f
 have k:=AA f
 clear f j
 have d:((a:Int) < 1)=False:=eq_false ah
 have d:((16:Int) < (a:Int))=False:=eq_false ah
 have d:=AA h0
 have j:=AA i
 clear h0 i
 go_enter Bl,ntmps187
 go_wp2_with (first
  |((rw[aF 12];refine bS h.head o AQ ?_))
  |(go_at_call 248;refine(pE b k l _).mono ?_;rintro i l ⟨f,rfl,b,d⟩;obtain⟨o,q,rfl,-,-,f,-,-⟩:=Own.reads d;replace d:=AA d;replace f:=AA f;have d:=AA (h.below b);have f:=d.row k;have f:=AA<|n.trans (b.mono (by rw[p.out];omega));clear b)
  |(go_at_call 188;refine(sj g a (aC j) c e l d.rA).mono ?_;rw[m.out];rintro i d ⟨b,rfl,a,c⟩;have d:=aQ f a;obtain rfl:b=.slice none 0 0:=c;simp only[Option.isNone_none];clear a))
 go_ret2
 exact⟨rfl,d⟩
theorem Kj(c:bE)(s:c.Ok)(t:List aj)(b:Nat)(γ:Hid (gH c=true))(h0:0 < b)(O:b<=16)(d:List aj)(δ:Hid (bK eZ t=some d))(i:Option Addr)(l:Nat)(g:World)(P:kD g i b t):
  Calls prog 187 #[.agg (aN c (.slice i b l)).toArray] g λh Q=>∃m,h=.returned (.tuple #[m,.int .i64 0])/\av g Q/\Q.ownsRow g.heap.size 5 1 m (115+64*b) (ak (uE c d)):=by
 have ε:=AA<|Below.aJ g (.cells (aN c (.slice i b l)).toArray 39)
 have E:Hid (fC (g.alloc (.cells (aN c (.slice i b l)).toArray 39)) g.heap.size c i b l t):=fC.new P
 have ζ:Hid ((prog.info? 36).map (·.size)=some (aI c).length):=by show _=_;rw[bQ s];exact iT
 have η:Hid ((g.alloc (.cells (aN c (.slice i b l)).toArray 39)).heap.size=g.heap.size+1):=by show _=_;simp
 have Ë:=E.row s
 have F:=AA s
 clear s P
 obtain⟨Ì,u,v,w,x⟩:=fT pI
 have Í:((b:Int) < 1)=False:=eq_false ah
 have Î:((16:Int) < (b:Int))=False:=eq_false ah
 have θ:=AA h0
 have y:=AA O
 clear h0 O
 have Ï:IntKind.u8.wrap (b:Int)=(b:Int):=by have:=y.out;simp[IntKind.wrap,IntKind.bits,IntKind.signed];omega
 have Ð:Hid (([33]++dN c:aj).length=114):=by show _=_;simp[jZ F.out]
 have ι:Hid (1+113<=maxLen):=by show _<=_;unfold maxLen;omega
 have κ:Hid ((1+113)*1<=140737488355328):=by show _<=_;omega
 have μ:Hid (114+1<=maxLen):=by show _<=_;unfold maxLen;omega
 have ν:Hid ((114+1)*1<=140737488355328):=by show _<=_;omega
 go_enter Bl,ntmps187
 go_wp2_with (first
  |((rw[aF 12];refine bS E.head ζ AQ ?_))
  |(go_at_call 248;refine(pE c F γ _).mono ?_;rintro h R ⟨Ñ,rfl,G,z⟩;obtain⟨ξ,Ò,rfl,-,-,H,-,-⟩:=Own.reads z;replace z:=AA z;replace H:=AA H;have S:=AA (E.below G);have Ó:=S.row F;have ο:=AA<|ε.trans (G.mono (by rw[η.out];omega));clear G)
  |(go_at_call 188;refine(sj t b (aC y) i l R S.rA).mono ?_;rw[δ.out];rintro h e ⟨ρ,rfl,I,j⟩;have J:=aQ ο I;replace j:ji e R.heap.size ρ b d:=j;obtain⟨Ô,Õ,rfl,-,-,-,A,-⟩:=ji.reads j;obtain⟨Ö,rfl⟩:=Kz j θ;simp only[Option.isNone_some];have K:=AA j.2.1;have σ:=AA j.1;replace A:=AA A;have τ:=AA (dz z I);have T:Hid ((e.alloc (.cells #[.int .u8 33] 5)).ownsRow e.heap.size 5 1 (.slice (some ⟨e.heap.size,0,none⟩) 1 1) 1 (ak [33])):=OT e _ [33] rfl;have L:=AA<|Below.aJ e (.cells #[.int .u8 33] 5);have υ:Hid (ax (e.alloc (.cells #[.int .u8 33] 5)) 1 ξ 113 (ak (dN c))):=(by obtain⟨n,o,k,-,-,-,M,-⟩:=Own.reads τ;injection k with k;subst k;exact M.alloc _);clear I j)
  |(rw[bY 37];refine iL (.tmp 35) (.tmp 36) AR u v w x T υ H (aY _) ι κ L.size ?_;intro Ø p f;obtain⟨φ,χ,rfl,ψ,U⟩:=dM f L L.size T ([33]++dN c) rfl 114 rfl;have V:Hid ((p.alloc (.cells #[.int .u8 (b:Int)] 5)).ownsRow e.heap.size 5 1 (.slice φ 114 χ) 114 (ak ([33]++dN c))):=dz ψ (Below.aJ p _);have N:Hid (av e (p.alloc (.cells #[.int .u8 (b:Int)] 5))):=U.alloc U.size _;have ω:Hid (ax (p.alloc (.cells #[.int .u8 (b:Int)] 5)) 1 (some ⟨p.heap.size,0,none⟩) 1 (ak [BitVec.ofNat 8 b])):=(by obtain⟨n,o,k,-,-,-,M,-⟩:=Own.reads (OT p _ _ (VG b y));injection k with k;subst k;exact M);clear f)
  |(rw[bY 43];refine iL (.tmp 38) (.tmp 42) AR u v w x V ω (λh=>by cases h) (aY _) μ ν N.size ?_;intro Ù Ú f;obtain⟨Γ,Δ,rfl,W,X⟩:=dM f N N.size V ([33]++dN c++[BitVec.ofNat 8 b]) rfl 115 rfl;clear f))
 go_loopw [8,9] (λY m wr=>∃(a:Nat) (n:Option Addr) (o:Nat),m=.int .i64 (a:Int)/\Y=.slice n (115+64*a) o/\Hid (a<=b)/\Hid (wr.ownsRow e.heap.size 5 1 (.slice n (115+64*a) o) (115+64*a) (ak ([33]++dN c++[BitVec.ofNat 8 b]++(d.take a).flatten)))/\Hid (av e wr)) (λ_ m _=>b - (intOf m).toNat)
 case atStart=>exact⟨0,Γ,Δ,rfl,rfl,AX _,by show World.ownsRow _ _ _ _ _ _ _;simpa using W.out,X⟩
 case round=>
  clear W X;obtain⟨a,n,o,rfl,rfl,Z,B,r⟩:=hrel;have Û:(a:Int)<=16:=dn Z y;by_cases C:a < b
  ·have Θ:(a:Int) < (b:Int):=ah
   have Ü:(0:Int)<=(a:Int):=ah;have α:=AA C;obtain⟨q,hx⟩:∃q,Hid (d[a]?=some q):=⟨_,AV (K.out ▸ C)⟩;have Ý:=AA (nI.at_ σ hx);(have Ξ:Hid ((d.take (a+1)).flatten=(d.take a).flatten++eZ q++LU q):=by show _=_;rw[List.take_add_one,hx.out];have:=Wl q;simp at this;simp[this]);have Φ:=AA (UC (A.below r) hx);(have Ψ:Hid (115+64*a+32<=maxLen):=by show _<=_;unfold maxLen;omega);(have Ω:Hid ((115+64*a+32)*1<=140737488355328):=by show _<=_;omega);(have À:Hid (147+64*a+32<=maxLen):=by show _<=_;unfold maxLen;omega);(have Á:Hid ((147+64*a+32)*1<=140737488355328):=by show _<=_;omega);(have Â:Hid (147+64*a=115+64*a+32):=by show _=_;omega);(have Ã:Hid (115+64*(a+1)=147+64*a+32):=by show _=_;omega);clear C
   go_wp2_with (first
    |(rw[bY 56];refine iL (.tmp 50) (.tmp 55) AR u v w x B Φ (λh=>by cases h) (aY _) Ψ Ω r.size ?_;intro Þ ß f;obtain⟨à,á,rfl,β,D⟩:=dM f r r.size B ([33]++dN c++[BitVec.ofNat 8 b]++((d.take a).flatten++eZ q)) aZ (147+64*a) Â;have Ä:=AA (UA (A.below D) hx);clear f)
    |(rw[bY 63];refine iL (.tmp 57) (.tmp 62) AR u v w x β Ä (λh=>by cases h) (aY _) À Á D.size ?_;intro Y â f;obtain⟨Å,Æ,rfl,Ç,È⟩:=dM f D D.size β ([33]++dN c++[BitVec.ofNat 8 b]++(d.take (a+1)).flatten) (by rw[Ξ.out];simp) (115+64*(a+1)) Ã;clear f))
   go_roundw
   case rel=>exact⟨a+1,Å,Æ,by go_num,rfl,α,Ç,È⟩
   case measure=>(have:=α.out;simp[intOf];omega)
  ·have Θ:¬((a:Int) < (b:Int)):=ah
   have É:a=b:=aC Z;subst É;clear C;(have Ê:Hid ([33]++dN c++[BitVec.ofNat 8 a]++(d.take a).flatten=uE c d):=by show _=_;unfold uE;rw[List.take_of_length_le (K.out ▸ Nat.le_refl _),K.out];simp);rw[Ê.out]at B;go_wp2_with fail;go_ret2;exact⟨.slice n (115+64*a) o,rfl,J.trans (r.mono J.size),cO B J.size⟩
def LP(B:Nat)(w':World)(v:Value):Option aj->Prop
 | none=>v=.slice none 0 0
 | some b=>w'.ownsRow B 5 1 v b.length (ak b)
theorem xQ{a b:List aj}(c:bK eZ a=some b):b.length=a.length:=(jU c).2.length_eq
theorem EK{a b:List aj}(c:bK eZ a=some b)(hs:nI a):nI b:=λa b=>hs a ((jU c).2.mem_iff.1 b)
theorem qM(a:bE)(b:List aj)(c:Nat)(e:b.length=c):
  (gH a=false/\lI a b=(none,1))\/(gH a=true/\c=0/\lI a b=(none,7))\/(gH a=true/\16 < c/\lI a b=(none,7))\/(gH a=true/\0 < c/\c<=16/\bK eZ b=none/\lI a b=(none,92))\/
   (gH a=true/\0 < c/\c<=16/\∃d,bK eZ b=some d/\lI a b=(some (uE a d),0)):=by
 unfold lI
 cases hr:gH a with
 | false=>exact .inl ⟨rfl,by simp⟩
 | true=>
  rw[if_neg aZ,e];by_cases h0:c=0
  ·exact .inr (.inl ⟨rfl,h0,by rw[if_pos (.inl h0)]⟩)
  ·by_cases a:16 < c
   ·exact .inr (.inr (.inl ⟨rfl,a,by rw[if_pos (.inr a)]⟩))
   ·rw[if_neg ah]
    cases hq:bK eZ b with
    | none=>exact .inr (.inr (.inr (.inl ⟨rfl,ah,ah,rfl,rfl⟩)))
    | some d=>exact .inr (.inr (.inr (.inr ⟨rfl,ah,ah,d,rfl,rfl⟩)))
theorem Db(b:bE)(m:b.Ok)(c:List aj)(d:Nat)(j:Option Addr)(n:Nat)(e:World)(i:kD e j d c):
  Calls prog 125 #[.agg (aN b (.slice j d n)).toArray] e λa k=>∃p,a=.returned (.tuple #[p,.int .i64 (lI b c).2])/\av e k/\LP e.heap.size k p (lI b c).1:=by
 rcases qM b c d i.len with⟨f,a⟩ |⟨f,l,a⟩ |⟨f,l,a⟩ |⟨f,l,q,o,a⟩ |⟨f,l,q,r,o,a⟩
 ·rw[a]
  exact(QB b m c d f j n e i).mono λa k ⟨g,h⟩=>⟨_,g,h,rfl⟩
 ·rw[a]
  exact(Tz b m c d f l j n e i).mono λa k ⟨g,h⟩=>⟨_,g,h,rfl⟩
 ·rw[a]
  exact(TA b m c d f l j n e i).mono λa k ⟨g,h⟩=>⟨_,g,h,rfl⟩
 ·rw[a]
  exact(QC b m c d f l q o j n e i).mono λa k ⟨g,h⟩=>⟨_,g,h,rfl⟩
 ·rw[a]
  (have s:(uE b r).length=115+64*d:=by rw[G5 m (EK o i.all),xQ o,i.len]);exact(VA b m c d f l q r o j n e i).mono λa k ⟨p,g,h,t⟩=>⟨p,g,h,by show World.ownsRow _ _ _ _ _ _ _;rw[s];exact t⟩
theorem CJ(b:bE)(m:b.Ok)(c:List aj)(d:Nat)(j:Option Addr)(n:Nat)(e:World)(i:kD e j d c):
  Calls prog 187 #[.agg (aN b (.slice j d n)).toArray] e λa k=>∃p,a=.returned (.tuple #[p,.int .i64 (lI b c).2])/\av e k/\LP e.heap.size k p (lI b c).1:=by
 rcases qM b c d i.len with⟨f,a⟩ |⟨f,l,a⟩ |⟨f,l,a⟩ |⟨f,l,q,o,a⟩ |⟨f,l,q,r,o,a⟩
 ·rw[a]
  exact(F7 b m c d f j n e i).mono λa k ⟨g,h⟩=>⟨_,g,h,rfl⟩
 ·rw[a]
  exact(Io b m c d f l j n e i).mono λa k ⟨g,h⟩=>⟨_,g,h,rfl⟩
 ·rw[a]
  exact(Ip b m c d f l j n e i).mono λa k ⟨g,h⟩=>⟨_,g,h,rfl⟩
 ·rw[a]
  exact(F8 b m c d f l q o j n e i).mono λa k ⟨g,h⟩=>⟨_,g,h,rfl⟩
 ·rw[a]
  (have s:(uE b r).length=115+64*d:=by rw[G5 m (EK o i.all),xQ o,i.len]);exact(Kj b m c d f l q r o j n e i).mono λa k ⟨p,g,h,t⟩=>⟨p,g,h,by show World.ownsRow _ _ _ _ _ _ _;rw[s];exact t⟩
theorem Nv(b:Value)(a:World):Calls prog 284 #[.slice none 0 0,.int .i64 0,.int .i64 0,b] a λc d=>c=.returned (.tuple #[])/\d=a:=by
 (go_enter func284,ntmps284);go_wp2_with fail;refine wp_loop_rounds 1 ?_;rw[rounds_succ];go_wp2_with fail
 go_end0
 exact⟨rfl,rfl⟩
theorem Yn(b:Value)(e:Int)(a:World):Calls prog 262 #[.slice none 0 0,.int .i64 0,.int .i64 0,.int .i64 e,b] a λc d=>c=.returned (.tuple #[])/\d=a:=by
 have e:=AA (Nv b a);(go_enter func262,ntmps262);go_wp2_with fail;refine wp_loop_rounds 1 ?_;rw[rounds_succ];go_wp2_with (go_at_call 284;refine e.mono ?_;rintro c d ⟨rfl,rfl⟩);exact bodyPost_ret (results_none rfl _ _ _) rfl ⟨rfl,rfl⟩
theorem Yr(a:World):Calls prog 124 #[.int .u64 0] a λb c=>(∃d:Int,b=.returned (.int .i64 d))/\c=a:=by
 have d:=Any.bits_Len (SlLaysF0.n15.bits {Tryz.sortSigns with}) 0 a aR aR;change Calls _ 124 _ _ _ at d;exact d.mono λb c ⟨a,e⟩=>⟨⟨_,a⟩,e⟩
theorem XF(e:Value)(a:World):Calls prog 211 #[.slice none 0 0,e] a λb c=>b=.returned (.tuple #[])/\c=a:=by
 have f:=AA (Yr a);have g:=AA (λd=>Yn e d a);go_enter func211,ntmps211
 go_wp2_with (first
  |(go_at_call 124;refine f.mono ?_;rintro b c ⟨⟨d,rfl⟩,rfl⟩)
  |(go_at_call 262;refine(g d).mono ?_;rintro b c ⟨rfl,rfl⟩))
 go_end0
 exact⟨rfl,rfl⟩
theorem UL(a:Option Addr)(b:Nat)(c:World)(d:a=none->(0:Nat)=0/\b=0):
  bq 126 #[.slice a 0 b] c (.tuple #[.slice none 0 0,.bool true]):=by
 obtain⟨e,f,g,h,i⟩:=bV Fj
 have j:=AA d
 have k:Hid (ax c 64 a 0 (([]:List aj).flatMap ak)):=ax.oI _ _ _
 have l:Hid (0+0<=maxLen):=by show _<=_;unfold maxLen;omega
 have m:Hid ((0+0)*64<=140737488355328):=by show _<=_;omega
 clear d
 go_enter func126,ntmps126
 go_wp2_with (first
  |(at_builtin;refine dD _ rfl (.const (.slice none 0 0)) (.tmp 5) 37 rfl c.heap.size 57 e (.agg kW) 64 64 Ar f g h i rfl aR (.slice none 0 0) 0 [] rfl (Aa _ _ _ _) a 0 b (([]:List aj).flatMap ak) rfl k j (mg []) l m (AJ _) ?_;intro b c a;obtain rfl:=a.oI.2 ⟨rfl,rfl⟩;have d:=AA<|a.below (Below.refl _ _) (AJ _) (λe b=>by cases b);clear a)
  |(go_at_call 211;refine(XF _ c).mono ?_;rintro b c ⟨rfl,a⟩;subst a)
  |(go_at_call 213;refine(Kc [] 0 aR none 0 _ (kD.oI _ _)).mono ?_;rintro b c ⟨rfl,a⟩;have b:=aQ d a))
 go_ret2
 exact⟨rfl,b⟩
theorem MK(e:List aj)(a:Nat)(l:a<=2199023255552)(d:Option Addr)(f:Nat)(b:World)(k:kD b d a e)(m:d=none->a=0/\f=0):
  Calls prog 126 #[.slice d a f] b λi g=>∃(j:Option Addr) (h:Nat) (c:List aj),i=.returned (.tuple #[.slice j a h,.bool (nu (ky:=eZ) c)])/\Hid (bK eZ e=if nu (ky:=eZ) c=true then some c else none)/\Hid (ji g b.heap.size (.slice j a h) a c)/\Hid (av b g):=by
 by_cases h0:a=0
 ·subst h0
  obtain rfl:e=[]:=Ap k.len;exact(UL d f b m).mono λi g ⟨j,n⟩=>⟨none,0,[],j,rfl,ji.nil _ _,n⟩
 ·exact(xR e a ah l d f b k).mono λi g ⟨p,h,c,j,m,n,o⟩=>⟨_,h,c,j,m,n,o⟩
theorem Pf{a b:Int}(c:bP a b=true):DR a b=((sides a.toNat b.toNat).length:Int):=by unfold DR;rw[if_pos c]
theorem Ga(a c:Int)(d:List aj)(k:Option Addr)(e n:Nat)(g:World)(h:j6 g k e d):
  Calls prog 37 #[.agg (eP a c k e n)] g λo l=>∃f i b,o=.returned (.slice f b.length i)/\ax l 1 f b.length (ak b)/\(f=none->b.length=0/\i=0)/\b.length<=i/\(fO a c d=some b\/(fO a c d=none/\f=none/\b=[]))/\av g l:=by
 by_cases b:DR a c=(e:Int)
 ·have j:bP a c=true:=by
   unfold DR at b
   split at b
   ·assumption
   ·omega
  have m:=j;simp only[bP,Bool.and_eq_true,decide_eq_true_eq]at m;obtain⟨p,rfl⟩:=Int.eq_ofNat_of_zero_le (show 0<=a by omega);obtain⟨q,rfl⟩:=Int.eq_ofNat_of_zero_le m.1.2;rw[Pf j,Int.toNat_natCast,Int.toNat_natCast]at b;refine(F9 p q ah ah d k e n g h ah).mono ?_;rintro o l ⟨s,rfl,m,r⟩;obtain⟨f,i,rfl,s,t,u,-⟩:=iH m;(have m:(jo p q d).length=17+32*e:=by rw[sw _ _ _ h.2.1,h.1]);refine⟨f,i,jo p q d,by rw[m],by rw[m];exact u,by rw[m];exact t,by rw[m];exact s,.inl ?_,r⟩;unfold fO;rw[Int.toNat_natCast,Int.toNat_natCast,if_pos ⟨j,by rw[h.1];omega⟩]
 ·refine(Iq a c k e n g b).mono ?_
  rintro o l ⟨rfl,r⟩;refine⟨none,0,[],rfl,ax.oI _ _ _,λ_=>⟨rfl,rfl⟩,AJ _,.inr ⟨?_,rfl,rfl⟩,r⟩;unfold fO;rw[if_neg];rintro⟨j,a⟩;exact b (by rw[Pf j,a,h.1])
theorem K9(c e:Int)(d:List aj)(m:Option Addr)(h o:Nat)(f:World)(g:j6 f m h d):
  Calls prog 87 #[.agg (eP c e m h o)] f λk a=>∃i n b j,k=.returned (.tuple #[.slice i b.length n,.int .i64 j])/\ax a 1 i b.length (ak b)/\((fO c e d=some b/\j=0)\/(fO c e d=none/\b=[]/\j=170))/\av f a:=by
 have p:∀a,av f a->fO c e d=none->∃(i:Option Addr) (n:Nat) (b:aj) (j:Int),Ending.returned (.tuple #[.slice none 0 0,.int .i64 170])=Ending.returned (.tuple #[.slice i b.length n,.int .i64 j])/\ax a 1 i b.length (ak b)/\((fO c e d=some b/\j=0)\/(fO c e d=none/\b=[]/\j=170))/\av f a:=λa j l=>⟨none,0,[],170,rfl,ax.oI _ _ _,.inr ⟨l,rfl,rfl⟩,j⟩
 cases hin:bP c e with
 | false=>
  refine(wY c e m h o f hin).mono ?_;rintro k a ⟨rfl,j⟩;refine p a j ?_;unfold fO;rw[if_neg (λl=>by rw[hin]at l;exact absurd l.1 aR)]
 | true=>
  have q:=hin;simp only[bP,Bool.and_eq_true,decide_eq_true_eq]at q;obtain⟨e,rfl⟩:=Int.eq_ofNat_of_zero_le (show 0<=c by omega);obtain⟨c,rfl⟩:=Int.eq_ofNat_of_zero_le q.1.2;by_cases hs:nY e c=h
  ·refine(wX e c ah ah d h g.1 g.2.1 m o f g.2.2 (λq h0 k=>?_) hs).mono ?_
   ·obtain⟨b,s,q,r,-⟩:=g.2.2.2 ah
    rw[k]at q;obtain rfl:=AL q;exact r
   rintro k a ⟨q,rfl,j,b⟩;obtain⟨i,n,rfl,r,s,q,-⟩:=iH b;(have b:(jo e c d).length=17+32*h:=by rw[sw _ _ _ g.2.1,g.1]);refine⟨i,n,jo e c d,0,by rw[b],by rw[b];exact q,.inl ⟨?_,rfl⟩,j⟩;unfold fO;rw[Int.toNat_natCast,Int.toNat_natCast,if_pos ⟨hin,by rw[<-zm ah,hs,g.1]⟩]
  ·refine(yj e c ah ah m h o f hs).mono ?_
   rintro k a ⟨rfl,j⟩;refine p a j ?_;unfold fO;rw[Int.toNat_natCast,Int.toNat_natCast,if_neg (λl=>hs (by rw[zm ah,l.2,g.1]))]
theorem x9(e a b:Int)(c:aj)(f d:List aj)(g:c.length=32):(jO e a b c f d).1.length=32:=by
 unfold jO
 split
 ·simp
 ·split
  ·simp
  ·rename_i h
   exact(q9 g _ (by(rw[List.length_zip];have i:(sides a.toNat b.toNat).length=d.length:=ah);omega)).1
theorem om.new{w:World}{b:Nat}{c:Int}(a:aL w b 322 #[.int .i64 c,.slice none 0 0]):om w b none c []:=
 ⟨.slice none 0 0,[],a,Aa _ _ _ _,rfl,(λc b=>by cases b),(λc d a=>by simp at a)⟩
theorem KV(c g h:Int)(b:aj)(j:b.length=32)(i:List aj)(l:Option Addr)(f n:Nat)(o:f < 4503599627370496)(a:World)(k:bn a)(m:j6 a l f i):
  bq 136 #[.int .i64 c,.int .i64 g,.int .i64 h,.agg (ak b).toArray,.slice l f n] a (.tuple #[.agg (ak (jO c g h b [] i).1).toArray,.int .i64 (jO c g h b [] i).2.1]):=by
 have e:Hid (av a (((a.alloc (.cells (ak b).toArray 23)).alloc (.cells bF 23)).alloc (.cells #[.int .i64 c,.slice none 0 0] 322))):=((Below.aJ a _).alloc aZ _).alloc (by simp;omega) _
 have s:Hid ((((a.alloc (.cells (ak b).toArray 23)).alloc (.cells bF 23)).alloc (.cells #[.int .i64 c,.slice none 0 0] 322)).heap.size=a.heap.size+3):=by show _=_;simp
 have p:((a.alloc (.cells (ak b).toArray 23)).alloc (.cells bF 23)).heap.size=a.heap.size+2:=by simp
 have t:Hid (aL (((a.alloc (.cells (ak b).toArray 23)).alloc (.cells bF 23)).alloc (.cells #[.int .i64 c,.slice none 0 0] 322)) (a.heap.size+1) 23 bF):=by
  have:=(aL.new (a.alloc (.cells (ak b).toArray 23)) 23 bF).alloc (.cells #[.int .i64 c,.slice none 0 0] 322);rwa[show(a.alloc (.cells (ak b).toArray 23)).heap.size=a.heap.size+1 by simp]at this
 have u:Hid (aL (((a.alloc (.cells (ak b).toArray 23)).alloc (.cells bF 23)).alloc (.cells #[.int .i64 c,.slice none 0 0] 322)) a.heap.size 23 (ak b).toArray):=((aL.new a 23 (ak b).toArray).alloc _).alloc _
 have q:om (((a.alloc (.cells (ak b).toArray 23)).alloc (.cells bF 23)).alloc (.cells #[.int .i64 c,.slice none 0 0] 322)) (a.heap.size+2) none c []:=by
  have:=aL.new ((a.alloc (.cells (ak b).toArray 23)).alloc (.cells bF 23)) 322 #[.int .i64 c,.slice none 0 0];rw[p]at this;exact om.new this
 have r:=AA (SV (a.heap.size+2) none c [] g h b j i l f n (((a.alloc (.cells (ak b).toArray 23)).alloc (.cells bF 23)).alloc (.cells #[.int .i64 c,.slice none 0 0] 322)) (k.below e k.1) (aC k.1) q (λv d=>by cases d) (by have:=o;simp) (m.below e) (λh0 l n f=>by
  obtain⟨n,v,l,w,-⟩:=m.2.2.at_ ah;rw[f]at l;have l:=AL l;injection l with n
  exact⟨ah,λd=>by cases d⟩))
 obtain⟨x,hx⟩:∃x,jO c g h b [] i=x:=⟨_,rfl⟩
 have c:=AA (aP (x:=x.1) (hx ▸ x9 _ _ _ _ _ _ j))
 have g:=AA (aP (x:=b) j)
 rw[hx]at r ⊢
 clear q p k o m j
 go_enter func136,ntmps136
 go_wp2_with (rw[aF 19];refine aM u g.size AB ?_)
 refine r.mono ?_
 rintro f h ⟨rfl,g,-,b,-⟩
 have g:=AA<|t.kept b (λd=>by rcases d with d | d;omega;cases d)
 have i:Hid (av a h):=⟨b.os.trans e.os,b.tape.trans e.tape,b.output.trans e.output,AZ e.size b.size,λh d=>(b.block h (aC s) (λf=>by rcases f with f | f;omega;cases f)).trans (e.block h d)⟩
 go_wp2_with (rw[bA 23 _];refine fw g c.size c.zero c.one ?_)
 refine bodyPost_ret (di rfl _ _ (a.heap.size+1) 23 (ak x.1).toArray (0,0) _ rfl (setRow_heap _ _ _ _ _ _ g) AB rfl c.size) rfl ?_
 exact⟨rfl,below_setRow i ah _⟩

theorem MQ(s:Int)(Ñ:s < 9223372036854775808)(a d:Nat)(hs:a<=1099511627776)(r:d < a)(k:aj)(b:k.length=32)(A:List aj)(c:Option Addr)(n g:Nat)(e:n < 1099511627776)(w:World)(f:j6 w c n A):
  Calls prog 192 #[.int .i64 s,.int .i64 (a:Int),.int .i64 (d:Int),.agg (ak k).toArray,.slice c n g] w (uJ w (jO s a d k [] A)):=by
 obtain⟨c,ð,ñ,ò,ó⟩:=bV Hg
 have ô:Hid (av w ((w.alloc (.cells (ak k).toArray 23)).alloc (.cells bF 23))):=(Below.aJ w _).alloc aZ _
 have Ò:Hid (((w.alloc (.cells (ak k).toArray 23)).alloc (.cells bF 23)).heap.size=w.heap.size+1+1):=by show _=_;simp
 have è:Hid (aL ((w.alloc (.cells (ak k).toArray 23)).alloc (.cells bF 23)) (w.heap.size+1) 23 bF):=by
  have:=aL.new (w.alloc (.cells (ak k).toArray 23)) 23 bF;rwa[show(w.alloc (.cells (ak k).toArray 23)).heap.size=w.heap.size+1 by simp]at this
 have o:Hid (aL ((w.alloc (.cells (ak k).toArray 23)).alloc (.cells bF 23)) w.heap.size 23 (ak k).toArray):=(aL.new w 23 (ak k).toArray).alloc _
 have h:bP (a:Int) (d:Int)=true:=by
  have D:(1:Int)<=a:=ah;have ζ:(a:Int)<=1099511627776:=ah;have g:(0:Int)<=d:=ah;have c:(d:Int) < a:=ah;simp[bP,D,ζ,g,c]
 obtain⟨c,ν⟩:∃c,jO s a d k [] A=c:=⟨_,rfl⟩
 rw[ν]
 unfold jO at ν
 rw[if_neg (by rw[h];decide),Int.toNat_natCast,Int.toNat_natCast]at ν
 obtain⟨L,c⟩:=aS (eH a)
 have F:L<=40:=c.out ▸ He hs
 have é:Hid ((lv a d L).length=(sides a d).length):=c.out ▸ Sl r (mZ a)
 have Ó:=AA<|λt=>by
  have:=Nr a hs t;rw[c.out]at this;exact this
 have õ:=AA<|λ(J:Nat) (Î:J<=40) t=>Gh a d J hs r Î t
 have ö:Hid (∀l,l<=L->(lv a d l).length<=40):=λl b=>by
  have D:=XU (n:=a) (j:=d) b;have ζ:=é.out;have g:=sQ (L:=L) r (c.out ▸ mZ a);omega
 have ê:decide ((a:Int) < 1)=false:=AP ah
 have Ă:decide (1099511627776 < (a:Int))=false:=AP ah
 have c:decide ((d:Int) < 0)=false:=AP ah
 have i:decide (a<=d)=false:=AP ah
 have m:¬(a<=d):=ah
 have g:=AA (aP (x:=k) b)
 replace b:=AA b
 replace f:=AA f
 replace ν:=AA ν
 replace Ñ:=AA Ñ
 replace hs:=AA hs
 replace r:=AA r
 replace e:=AA e
 clear h
 go_enter BK,ntmps192
 go_wp2_with fail
 clear ê Ă c i m
 go_loop [13,14] (λV P=>∃l W:Nat,P=.int .i64 (l:Int)/\V=.int .i64 (W:Int)/\l<=L/\Hid ((lv a d l).length=W)) (λ_ P=>L - (intOf P).toNat)
 case atStart=>exact⟨0,0,rfl,rfl,AX _,rfl⟩
 case round=>
  obtain⟨l,W,rfl,rfl,v,h⟩:=hrel;(have y:W<=40:=by have:=ö l v;rw[h.out]at this;exact this);by_cases ξ:l < L
  ·have i:=AA (õ l ah)
   have B:(l:Int) < (L:Int):=ah
   have η:Hid ((lv a d (l+1)).length=W+if fu d l < a then 1 else 0):=by
    show _=_;rw[nS,List.length_append,h.out,vz r.out]
   by_cases c:fu d l < a
   ·rw[decide_eq_true c]at i
    rw[if_pos c]at η;clear c;generalize fu d l=m at*;generalize min (m+2 ^ l) a=C at*
    go_wp2_with (first
     |(go_at_call 252;refine(Ó _).mono ?_;rintro e t ⟨rfl,rfl⟩)
     |(go_at_call 253;refine(i _).mono ?_;rintro e t ⟨rfl,rfl⟩))
    go_round
    case rel=>exact⟨l+1,W+1,by go_num,by go_num,ah,η⟩
    case measure=>simp[intOf];omega
   ·rw[decide_eq_false c]at i
    rw[if_neg c]at η;clear c;generalize fu d l=m at*;generalize min (m+2 ^ l) a=C at*
    go_wp2_with (first
     |(go_at_call 252;refine(Ó _).mono ?_;rintro e t ⟨rfl,rfl⟩)
     |(go_at_call 253;refine(i _).mono ?_;rintro e t ⟨rfl,rfl⟩))
    go_round
    case rel=>exact⟨l+1,W,by go_num,rfl,ah,η⟩
    case measure=>simp[intOf];omega
  ·obtain rfl:l=L:=ah
   have B:¬((l:Int) < (l:Int)):=ah;(have ë:=AA<|é.symm.trans h);have Å:=f.1;by_cases η:W=n
   ·obtain rfl:n=W:=η.symm
    have Æ:=ν.out;rw[if_neg (by rw[ë.out,Å];exact λE=>E rfl)]at Æ;replace Æ:=AA Æ;clear ν η ξ ö õ é;have ê:((n:Int)==(n:Int))=true:=beq_self_eq_true _;(have G:IntKind.i64.wrap ((a:Int) - 1)=((a - 1:Nat):Int):=by have:=r.out;have:=hs.out;rw[IntWalk.i64_in _ ah];omega);have H:wrap64 ((a:Int) - 1)=((a - 1:Nat):Int):=by have:=r.out;have:=hs.out;rw[IntWalk.wrap64_in _ ah];omega
    have m:Hid (aL (((w.alloc (.cells (ak k).toArray 23)).alloc (.cells bF 23)).alloc (.cells bF 23)) (w.heap.size+1+1) 23 bF):=by
     have:=aL.new ((w.alloc (.cells (ak k).toArray 23)).alloc (.cells bF 23)) 23 bF;rwa[Ò.out]at this
    (have I:wrap64 ((a - 1:Nat):Int)=((a - 1:Nat):Int):=by have:=hs.out;exact IntWalk.wrap64_in _ ah);have K:((a:Int) - 1)=((a - 1:Nat):Int):=aC r
    go_wp2_with (first
     |(go_at_call 252;refine(Ó _).mono ?_;rintro e t ⟨rfl,rfl⟩)
     |(rw[aF 65];refine aM o g.size AB ?_)
     |(rw[bA 23 20];refine dB m g.size g.zero g.one ?_;intro Q c C;obtain⟨ì,i,ο⟩:=Ta ô Ò C;replace ì:=AA ì;replace i:=AA i;replace ο:=AA ο;replace c:=AA c;clear C))
    have Ċ:=bf i è
    have C:Hid (Oc Q Q (w.heap.size+1+1) (iy s (k,[]) ((sides a d).zip A) 0) (.slice none 0 0) []):=by
     show Oc _ _ _ _ _ _;rw[rY];exact⟨c,Aa _ _ _ _,(λd q E=>by simp at E),au.refl _ _⟩
    have i:Hid (((sides a d).zip A).length=n):=by show _=_;rw[List.length_zip,ë.out,Å];omega
    have M:Hid (∀j,j<=n->(iy s (k,[]) ((sides a d).zip A) j).1.length=32/\(iy s (k,[]) ((sides a d).zip A) j).2.length=j):=λj Ô=>by
     have:=q9 (s:=s) (st:=(k,[])) (l:=(sides a d).zip A) b j (i.out ▸ Ô);exact⟨this.1,by rw[this.2];simp⟩
    have i:=AA y;replace Å:=AA Å;clear ê G H K I è o m c h y ô Ò Ó B b g v F
    go_loopw [18,19,21,22] (λV P c b wr=>∃(j h H:Nat) (m:Value) (θ:List Value),b=.int .i64 (j:Int)/\j<=n/\V=.int .i64 (h:Int)/\P=.int .i64 (H:Int)/\c=m/\Hid (bJ a d j h H)/\Hid (Oc Q wr (w.heap.size+1+1) (iy s (k,[]) ((sides a d).zip A) j) m θ)) (λ_ _ _ b _=>n - (intOf b).toNat)
    case atStart=>exact⟨0,d,a - 1,_,[],rfl,AX _,rfl,rfl,rfl,bJ.zero a d,C⟩
    case round=>
     clear C;obtain⟨j,h,H,m,θ,rfl,Ô,rfl,rfl,b,Ï,y⟩:=hrel;rw[b];clear b;have b:=M j Ô;obtain⟨st,Ç⟩:∃st,iy s (k,[]) ((sides a d).zip A) j=st:=⟨_,rfl⟩;rw[Ç]at b y;have B:=AA b.1;have Î:=AA b.2;have ρ:=AA (aP (x:=st.1) B);have c:=y.own;rw[Î.out]at c;obtain⟨σ,τ,rfl,-⟩:=Own.reads c;have Õ:=AA c;replace Ç:=AA Ç;have g:=Ï.le;have ă:(h:Int) < 1099511627776:=dn hs r;have Ą:(H:Int) < 1099511627776:=dn hs r;have o:(0:Int)<=(h:Int):=ah;have o:(0:Int)<=(H:Int):=ah;have o:(0:Int)<=(j:Int):=ah;have o:(j:Int)<=40:=aC i;(have í:Hid (some (w.heap.size+1+1)≠(Value.slice σ j τ).ownBlock):=λe=>by have D:=(Õ.lt _ e.symm).1;have ζ:=ο.out;omega);clear c b g;by_cases ξ:j < n
     ·obtain⟨g,hd⟩:∃g,Hid (A[j]?=some g):=⟨_,AA (AV (Å.out ▸ ξ))⟩
      have F:=AA (f.2.1.at_ hd);have I:=AA (aP (x:=g) F);obtain⟨P,c,rfl,b,o⟩:=f.at_ hd;(have ø:Hid (∀J m,(ak g)[J]?=some m->wr.cell? ⟨P,c+j*32+J,none⟩=some m):=λJ m f=>(((au.of_below ì).trans y.kept (λd _ E=>E)).cell (p:=⟨P,c+j*32+J,none⟩) b (λE=>by have E:P=w.heap.size+1+1:=E;have ζ:=b;omega)).trans (o J m f));have î:Hid (j < (sides a d).length):=ë.out ▸ ξ;have Ð:=AA ξ;have Ò:(j:Int) < (n:Int):=ah;(have ù:Hid (j+1<=maxLen):=by have:=i.out;show _<=_;unfold maxLen;omega);(have ú:Hid ((j+1)*24<=140737488355328):=by have:=i.out;show _<=_;omega);(have û:Hid (some wr.heap.size≠(Value.slice σ j τ).ownBlock):=λe=>by have:=(Õ.lt _ e.symm).2;omega);clear ξ Ô b o;by_cases U:h % 2=1
      ·have G:(h:Int) % 2=1:=ah
       (have ι:(h:Int).tmod 2=1:=by rw[Int.tmod_eq_emod_of_nonneg ah];exact G);have υ:=bJ.left r h H Ï (.inl U) î;have ü:Hid (jE h H):=.inl U
       have φ:Hid (iy s (k,[]) ((sides a d).zip A) (j+1)=(nP s g st.1,st.2++[kb 1 :: (g++st.1)])):=by
        show _=_;have Ö:((sides a d).zip A)[j]?=some (false,g):=List.getElem?_zip_eq_some.2 ⟨υ,hd⟩;rw[nG Ö,Ç.out,rf];rfl
       obtain⟨z,X⟩:=aS (nP s g st.1);obtain⟨q,Y⟩:∃q:aj,Hid (kb 1 :: (g++st.1)=q):=⟨_,AA rfl⟩;(have K:Hid (q.length=65):=by show _=_;rw[<-Y.out];simp[B.out,F.out]);rw[X.out,Y.out]at φ;have Z:=AA (aP (x:=z) (X.out ▸ gY s _ _))
       have Ø:=AA<|λt=>by
        have:=kG g st.1 F B s t Ñ;rw[show dP (bB (kb 1 :: (g++st.1))) (cu s)=z from X.out]at this;exact this
       have Ù:=AA (Z.same st.1 B);clear υ U
       go_wp2_with (first
        |(rw[aF 75];refine bS ø I.part AB ?_)
        |(rw[bA 23 23];refine dB (aL.new wr _ _) I.size I.zero I.one ?_;intro c M χ;have N:=AA<|dx χ;have È:=AA<|AZ y.kept.size N.size;have Ú:=AA<|aK Õ N;have ψ:Hid (aL c (w.heap.size+1+1) 23 (ak st.1).toArray):=(N.block _ y.leaf.lt).trans y.leaf;replace M:=AA M;clear χ))
       have ω:Hid (Calls prog 224 #[.int .i64 1,.slice (some ⟨c.heap.size,0,none⟩) 2 2] (tW c wr.heap.size (w.heap.size+1+1)) λe t=>∃m,e=.returned m/\t.ownsRow (tW c wr.heap.size (w.heap.size+1+1)).heap.size 5 1 m 65 (ak q)/\Below (tW c wr.heap.size (w.heap.size+1+1)).heap.size (tW c wr.heap.size (w.heap.size+1+1)) t):=by
        have Û:=jQ (w:=c) M ψ F B;have:=iB [g,st.1] 2 rfl (some ⟨c.heap.size,0,none⟩) 2 1 (tW c wr.heap.size (w.heap.size+1+1)) (by simp[B.out,F.out]) aR Û;rw[show kb 1 :: [g,st.1].flatten=q by rw[<-Y.out];simp,show 1+[g,st.1].flatten.length=65 by simp[B.out,F.out]]at this;exact this
       refine dI (λ_=>True) 8 ?_;refine aH 0 trivial ?_;refine aH 1 trivial ?_;refine aH 2 trivial ?_;refine jJ 3 trivial ?_;change wpAnyH _ _ _ _ _ _ _ _ (tW c wr.heap.size (w.heap.size+1+1));refine aU 4 ?_;refine cK (R:=λm α=>Below (tW c wr.heap.size (w.heap.size+1+1)).heap.size (tW c wr.heap.size (w.heap.size+1+1)) α/\α.ownsRow (tW c wr.heap.size (w.heap.size+1+1)).heap.size 5 1 m 65 (ak q)) Aw (ω.mono λe α ⟨m,κ,U,Ü⟩=>⟨_,κ,Ü,U⟩) ?_;rintro ą v ⟨Γ,β⟩;obtain⟨gt,ct,rfl,Ý,Δ⟩:=β.form aR;refine aV trivial ?_;(have Θ:Hid (c.heap.size<=gt/\gt < v.heap.size):=by have:=ja c wr.heap.size (w.heap.size+1+1);exact⟨ah,Δ⟩);(have f:=AA<|(kT c _ _).trans (Γ.mono (by rw[ja];omega)));obtain⟨bJ,Ć,Þ,O,-,-,Ξ,-⟩:=Own.reads β;(injection Þ with ß ć à);subst ß à;have Φ:=AA Ξ;replace O:=AA O;have Ψ:Hid ((v.alloc (.cells #[.slice (some ⟨gt,0,none⟩) 65 ct] 27)).ownsRow Q.heap.size 27 1 (.slice σ j τ) j θ):=(aK (aK Ú f) (Below.aJ v _));have Ω:Hid (ax (v.alloc (.cells #[.slice (some ⟨gt,0,none⟩) 65 ct] 27)) 1 (some ⟨v.heap.size,0,none⟩) 1 [.slice (some ⟨gt,0,none⟩) 65 ct]):=aL.reads (aL.new v 27 #[.slice (some ⟨gt,0,none⟩) 65 ct]) 0 _ rfl (λj u á=>by rw[Nat.zero_add];simpa using á);(have À:Hid (Q.heap.size<=(v.alloc (.cells #[.slice (some ⟨gt,0,none⟩) 65 ct] 27)).heap.size):=by have:=f.size;have:=È.out;show _<=_;simp;omega);clear Γ β Ý Δ Ξ ω;refine jJ 5 trivial ?_;refine aU 6 ?_;refine jK (.tmp 84) (.tmp 89) Ao ð ñ ò ó Ψ Ω (λe=>by cases e) (gm rfl) ù ú À ?_;intro Ĉ â i;obtain⟨ã,ä,rfl,-⟩:=Own.reads i.own;replace i:=AA i;refine aV trivial ?_;refine aH 7 trivial ?_;refine bT ?_;have γ:Hid (au (λq=>some q=(Value.slice σ j τ).ownBlock) c â):=⟨i.grow.os.trans f.os,i.grow.tape.trans f.tape,i.grow.output.trans f.output,(by have D:=i.grow.size;have ζ:=f.size;simp at D;omega),λp å æ=>(i.grow.block p (by have:=f.size;simp;omega) æ).trans ((Below.heap_alloc _ _ _ (aC f.size)).trans (f.block p å))⟩;(have Á:=AA<|M.kept γ (λe=>û e));(have δ:=AA<|ψ.kept γ (λe=>í e));clear Ω À Ψ
       go_wp2_with (first
        |(rw[aF 92];refine aM Á I.size AB ?_)
        |(rw[aF 93];refine aM δ ρ.size AB ?_)
        |(go_at_call 254;refine(Ø _).mono ?_;rintro e ĉ ⟨rfl,C⟩;have Â:=bf C δ;replace C:=AA C)
        |(rw[bA 23 20];refine lF Â Z.size Ù Z.one ?_;intro É Ã Ä;have ç:Hid (Oc Q É (w.heap.size+1+1) (iy s (k,[]) ((sides a d).zip A) (j+1)) (.slice ã (j+1) ä) (θ++[.slice (some ⟨gt,0,none⟩) 65 ct])):=(by show Oc _ _ _ _ _ _;rw[φ.out];have:=(Oc.step (st':=(z,st.2++[q])) (q:=q) (gt:=gt) (ct:=ct) y ο Î N f (K.out ▸ Φ) Θ (K.out ▸ O) (K.out ▸ i) C Ã Ä rfl);rw[K.out]at this;exact this);clear Ã Ä C Â δ Á i Φ O Θ f γ))
       clear G ι
       go_loopw [18,19] (λV P ý=>∃b o:Nat,V=.int .i64 (b:Int)/\P=.int .i64 (o:Int)/\b<=h/\o<=H/\Hid (bJ a d j b o)/\Hid (jE b o)/\ý=É) (λV _ _=>(intOf V).toNat)
       case atStart=>exact⟨h,H,rfl,rfl,AJ _,AJ _,Ï,ü,rfl⟩
       case round=>
        obtain⟨b,o,rfl,rfl,ċ,Č,Ê,Ë,rfl⟩:=hrel;have č:(b:Int) < 1099511627776:=aC ă;have Ď:(o:Int) < 1099511627776:=aC Ą;have ď:(0:Int)<=(b:Int):=ah;have Đ:(0:Int)<=(o:Int):=ah;by_cases μ:b % 2=1
        ·have G:(b:Int) % 2=1:=ah
         (have ι:(b:Int).tmod 2=1:=by rw[Int.tmod_eq_emod_of_nonneg ah];exact G);(have ï:(b:Int).tdiv 2=((b / 2:Nat):Int):=by rw[Int.tdiv_eq_ediv_of_nonneg ah];omega);(have È:(o:Int).tdiv 2=((o / 2:Nat):Int):=by rw[Int.tdiv_eq_ediv_of_nonneg ah];omega);obtain⟨-,ε⟩:=Ê.odd r μ;replace ε:=AA ε;clear μ Ë;go_wp2_with fail;go_roundw
         case rel=>exact⟨j+1,b / 2,o / 2,_,_,by go_num,Ð,(by first| rfl |(congr 1;omega)),(by first| rfl |(congr 1;omega)),rfl,ε,ç⟩
         case measure=>(have:=Ð.out;simp[intOf];omega)
        ·have G:(b:Int) % 2=0:=ah
         (have ι:(b:Int).tmod 2=0:=by rw[Int.tmod_eq_emod_of_nonneg ah];exact G);(have þ:b=o:=by have:b % 2=1\/b=o:=Ë;omega);subst þ;have ï:(b:Int).tdiv 2=((b / 2:Nat):Int):=by rw[Int.tdiv_eq_ediv_of_nonneg ah];omega
         have ÿ:¬b=0:=λe=>by
          have D:=Ê.out;rw[e]at D;have:=D.done r rfl;have:=î.out;omega
         have Ì:((b:Int)==0)=false:=beq_eq_false_iff_ne.2 ah;(have Ā:((b:Int)!=0)=true:=by rw[bne,Ì];rfl);have đ:¬((b:Int)=0):=ah;(have ā:=AA<|Ê.skip r μ rfl);(have Í:Hid (b / 2 < b):=by show _ < _;omega);clear μ Ë ÿ;go_wp2_with fail;go_roundw
         case rel=>exact⟨b / 2,b / 2,(by first| rfl |(congr 1;omega)),(by first| rfl |(congr 1;omega)),by have:=Í.out;omega,by have:=Í.out;omega,ā,.inr rfl,by first| rfl | trivial⟩
         case measure=>(have:=Í.out;simp[intOf];omega)
      ·by_cases κ:h=H
       ·subst κ
        have G:(h:Int) % 2=0:=ah;(have ι:(h:Int).tmod 2=0:=by rw[Int.tmod_eq_emod_of_nonneg ah];exact G);have Ì:((h:Int)==(h:Int))=true:=beq_self_eq_true _;have υ:=bJ.left r h h Ï (.inr rfl) î;have ü:Hid (jE h h):=.inr rfl
        have φ:Hid (iy s (k,[]) ((sides a d).zip A) (j+1)=(nP s g st.1,st.2++[kb 1 :: (g++st.1)])):=by
         show _=_;have Ö:((sides a d).zip A)[j]?=some (false,g):=List.getElem?_zip_eq_some.2 ⟨υ,hd⟩;rw[nG Ö,Ç.out,rf];rfl
        obtain⟨z,X⟩:=aS (nP s g st.1);obtain⟨q,Y⟩:∃q:aj,Hid (kb 1 :: (g++st.1)=q):=⟨_,AA rfl⟩;(have K:Hid (q.length=65):=by show _=_;rw[<-Y.out];simp[B.out,F.out]);rw[X.out,Y.out]at φ;have Z:=AA (aP (x:=z) (X.out ▸ gY s _ _))
        have Ø:=AA<|λt=>by
         have:=kG g st.1 F B s t Ñ;rw[show dP (bB (kb 1 :: (g++st.1))) (cu s)=z from X.out]at this;exact this
        have Ù:=AA (Z.same st.1 B);clear υ U
        go_wp2_with (first
         |(rw[aF 75];refine bS ø I.part AB ?_)
         |(rw[bA 23 23];refine dB (aL.new wr _ _) I.size I.zero I.one ?_;intro c M χ;have N:=AA<|dx χ;have È:=AA<|AZ y.kept.size N.size;have Ú:=AA<|aK Õ N;have ψ:Hid (aL c (w.heap.size+1+1) 23 (ak st.1).toArray):=(N.block _ y.leaf.lt).trans y.leaf;replace M:=AA M;clear χ))
        have ω:Hid (Calls prog 224 #[.int .i64 1,.slice (some ⟨c.heap.size,0,none⟩) 2 2] (tW c wr.heap.size (w.heap.size+1+1)) λe t=>∃m,e=.returned m/\t.ownsRow (tW c wr.heap.size (w.heap.size+1+1)).heap.size 5 1 m 65 (ak q)/\Below (tW c wr.heap.size (w.heap.size+1+1)).heap.size (tW c wr.heap.size (w.heap.size+1+1)) t):=by
         have Û:=jQ (w:=c) M ψ F B;have:=iB [g,st.1] 2 rfl (some ⟨c.heap.size,0,none⟩) 2 1 (tW c wr.heap.size (w.heap.size+1+1)) (by simp[B.out,F.out]) aR Û;rw[show kb 1 :: [g,st.1].flatten=q by rw[<-Y.out];simp,show 1+[g,st.1].flatten.length=65 by simp[B.out,F.out]]at this;exact this
        refine dI (λ_=>True) 8 ?_;refine aH 0 trivial ?_;refine aH 1 trivial ?_;refine aH 2 trivial ?_;refine jJ 3 trivial ?_;change wpAnyH _ _ _ _ _ _ _ _ (tW c wr.heap.size (w.heap.size+1+1));refine aU 4 ?_;refine cK (R:=λm α=>Below (tW c wr.heap.size (w.heap.size+1+1)).heap.size (tW c wr.heap.size (w.heap.size+1+1)) α/\α.ownsRow (tW c wr.heap.size (w.heap.size+1+1)).heap.size 5 1 m 65 (ak q)) Aw (ω.mono λe α ⟨m,κ,U,Ü⟩=>⟨_,κ,Ü,U⟩) ?_;rintro ą v ⟨Γ,β⟩;obtain⟨gt,ct,rfl,Ý,Δ⟩:=β.form aR;refine aV trivial ?_;(have Θ:Hid (c.heap.size<=gt/\gt < v.heap.size):=by have:=ja c wr.heap.size (w.heap.size+1+1);exact⟨ah,Δ⟩);(have f:=AA<|(kT c _ _).trans (Γ.mono (by rw[ja];omega)));obtain⟨bJ,Ć,Þ,O,-,-,Ξ,-⟩:=Own.reads β;(injection Þ with ß ć à);subst ß à;have Φ:=AA Ξ;replace O:=AA O;have Ψ:Hid ((v.alloc (.cells #[.slice (some ⟨gt,0,none⟩) 65 ct] 27)).ownsRow Q.heap.size 27 1 (.slice σ j τ) j θ):=(aK (aK Ú f) (Below.aJ v _));have Ω:Hid (ax (v.alloc (.cells #[.slice (some ⟨gt,0,none⟩) 65 ct] 27)) 1 (some ⟨v.heap.size,0,none⟩) 1 [.slice (some ⟨gt,0,none⟩) 65 ct]):=aL.reads (aL.new v 27 #[.slice (some ⟨gt,0,none⟩) 65 ct]) 0 _ rfl (λj u á=>by rw[Nat.zero_add];simpa using á);(have À:Hid (Q.heap.size<=(v.alloc (.cells #[.slice (some ⟨gt,0,none⟩) 65 ct] 27)).heap.size):=by have:=f.size;have:=È.out;show _<=_;simp;omega);clear Γ β Ý Δ Ξ ω;refine jJ 5 trivial ?_;refine aU 6 ?_;refine jK (.tmp 84) (.tmp 89) Ao ð ñ ò ó Ψ Ω (λe=>by cases e) (gm rfl) ù ú À ?_;intro Ĉ â i;obtain⟨ã,ä,rfl,-⟩:=Own.reads i.own;replace i:=AA i;refine aV trivial ?_;refine aH 7 trivial ?_;refine bT ?_;have γ:Hid (au (λq=>some q=(Value.slice σ j τ).ownBlock) c â):=⟨i.grow.os.trans f.os,i.grow.tape.trans f.tape,i.grow.output.trans f.output,(by have D:=i.grow.size;have ζ:=f.size;simp at D;omega),λp å æ=>(i.grow.block p (by have:=f.size;simp;omega) æ).trans ((Below.heap_alloc _ _ _ (aC f.size)).trans (f.block p å))⟩;(have Á:=AA<|M.kept γ (λe=>û e));(have δ:=AA<|ψ.kept γ (λe=>í e));clear Ω À Ψ
        go_wp2_with (first
         |(rw[aF 92];refine aM Á I.size AB ?_)
         |(rw[aF 93];refine aM δ ρ.size AB ?_)
         |(go_at_call 254;refine(Ø _).mono ?_;rintro e ĉ ⟨rfl,C⟩;have Â:=bf C δ;replace C:=AA C)
         |(rw[bA 23 20];refine lF Â Z.size Ù Z.one ?_;intro É Ã Ä;have ç:Hid (Oc Q É (w.heap.size+1+1) (iy s (k,[]) ((sides a d).zip A) (j+1)) (.slice ã (j+1) ä) (θ++[.slice (some ⟨gt,0,none⟩) 65 ct])):=(by show Oc _ _ _ _ _ _;rw[φ.out];have:=(Oc.step (st':=(z,st.2++[q])) (q:=q) (gt:=gt) (ct:=ct) y ο Î N f (K.out ▸ Φ) Θ (K.out ▸ O) (K.out ▸ i) C Ã Ä rfl);rw[K.out]at this;exact this);clear Ã Ä C Â δ Á i Φ O Θ f γ))
        clear G ι Ì
        go_loopw [18,19] (λV P ý=>∃b o:Nat,V=.int .i64 (b:Int)/\P=.int .i64 (o:Int)/\b<=h/\o<=h/\Hid (bJ a d j b o)/\Hid (jE b o)/\ý=É) (λV _ _=>(intOf V).toNat)
        case atStart=>exact⟨h,h,rfl,rfl,AJ _,AJ _,Ï,ü,rfl⟩
        case round=>
         obtain⟨b,o,rfl,rfl,ċ,Č,Ê,Ë,rfl⟩:=hrel;have č:(b:Int) < 1099511627776:=aC ă;have Ď:(o:Int) < 1099511627776:=aC Ą;have ď:(0:Int)<=(b:Int):=ah;have Đ:(0:Int)<=(o:Int):=ah;by_cases μ:b % 2=1
         ·have G:(b:Int) % 2=1:=ah
          (have ι:(b:Int).tmod 2=1:=by rw[Int.tmod_eq_emod_of_nonneg ah];exact G);(have ï:(b:Int).tdiv 2=((b / 2:Nat):Int):=by rw[Int.tdiv_eq_ediv_of_nonneg ah];omega);(have È:(o:Int).tdiv 2=((o / 2:Nat):Int):=by rw[Int.tdiv_eq_ediv_of_nonneg ah];omega);obtain⟨-,ε⟩:=Ê.odd r μ;replace ε:=AA ε;clear μ Ë;go_wp2_with fail;go_roundw
          case rel=>exact⟨j+1,b / 2,o / 2,_,_,by go_num,Ð,(by first| rfl |(congr 1;omega)),(by first| rfl |(congr 1;omega)),rfl,ε,ç⟩
          case measure=>(have:=Ð.out;simp[intOf];omega)
         ·have G:(b:Int) % 2=0:=ah
          (have ι:(b:Int).tmod 2=0:=by rw[Int.tmod_eq_emod_of_nonneg ah];exact G);(have þ:b=o:=by have:b % 2=1\/b=o:=Ë;omega);subst þ;have ï:(b:Int).tdiv 2=((b / 2:Nat):Int):=by rw[Int.tdiv_eq_ediv_of_nonneg ah];omega
          have ÿ:¬b=0:=λe=>by
           have D:=Ê.out;rw[e]at D;have:=D.done r rfl;have:=î.out;omega
          have Ì:((b:Int)==0)=false:=beq_eq_false_iff_ne.2 ah;(have Ā:((b:Int)!=0)=true:=by rw[bne,Ì];rfl);have đ:¬((b:Int)=0):=ah;(have ā:=AA<|Ê.skip r μ rfl);(have Í:Hid (b / 2 < b):=by show _ < _;omega);clear μ Ë ÿ;go_wp2_with fail;go_roundw
          case rel=>exact⟨b / 2,b / 2,(by first| rfl |(congr 1;omega)),(by first| rfl |(congr 1;omega)),by have:=Í.out;omega,by have:=Í.out;omega,ā,.inr rfl,by first| rfl | trivial⟩
          case measure=>(have:=Í.out;simp[intOf];omega)
       ·have G:(h:Int) % 2=0:=ah
        (have ι:(h:Int).tmod 2=0:=by rw[Int.tmod_eq_emod_of_nonneg ah];exact G);have Ì:((h:Int)==(H:Int))=false:=beq_eq_false_iff_ne.2 ah;have Ā:¬((h:Int)=(H:Int)):=ah;obtain⟨υ,ε⟩:=Ï.right r U κ;replace ε:=AA ε
        have φ:Hid (iy s (k,[]) ((sides a d).zip A) (j+1)=(nP s st.1 g,st.2++[kb 1 :: (st.1++g)])):=by
         show _=_;have Ö:((sides a d).zip A)[j]?=some (true,g):=List.getElem?_zip_eq_some.2 ⟨υ,hd⟩;rw[nG Ö,Ç.out,rf];rfl
        obtain⟨z,X⟩:=aS (nP s st.1 g);obtain⟨q,Y⟩:∃q:aj,Hid (kb 1 :: (st.1++g)=q):=⟨_,AA rfl⟩;(have K:Hid (q.length=65):=by show _=_;rw[<-Y.out];simp[B.out,F.out]);rw[X.out,Y.out]at φ;have Z:=AA (aP (x:=z) (X.out ▸ gY s _ _))
        have Ø:=AA<|λt=>by
         have:=kG st.1 g B F s t Ñ;rw[show dP (bB (kb 1 :: (st.1++g))) (cu s)=z from X.out]at this;exact this
        have Ù:=AA (Z.same st.1 B);clear υ U κ
        go_wp2_with (first
         |(rw[aF 75];refine bS ø I.part AB ?_)
         |(rw[bA 23 23];refine dB (aL.new wr _ _) I.size I.zero I.one ?_;intro c M χ;have N:=AA<|dx χ;have È:=AA<|AZ y.kept.size N.size;have Ú:=AA<|aK Õ N;have ψ:Hid (aL c (w.heap.size+1+1) 23 (ak st.1).toArray):=(N.block _ y.leaf.lt).trans y.leaf;replace M:=AA M;clear χ))
        have ω:Hid (Calls prog 224 #[.int .i64 1,.slice (some ⟨c.heap.size,0,none⟩) 2 2] (tW c (w.heap.size+1+1) wr.heap.size) λe t=>∃m,e=.returned m/\t.ownsRow (tW c (w.heap.size+1+1) wr.heap.size).heap.size 5 1 m 65 (ak q)/\Below (tW c (w.heap.size+1+1) wr.heap.size).heap.size (tW c (w.heap.size+1+1) wr.heap.size) t):=by
         have Û:=jQ (w:=c) ψ M B F;have:=iB [st.1,g] 2 rfl (some ⟨c.heap.size,0,none⟩) 2 1 (tW c (w.heap.size+1+1) wr.heap.size) (by simp[B.out,F.out]) aR Û;rw[show kb 1 :: [st.1,g].flatten=q by rw[<-Y.out];simp,show 1+[st.1,g].flatten.length=65 by simp[B.out,F.out]]at this;exact this
        refine dI (λ_=>True) 8 ?_;refine aH 0 trivial ?_;refine aH 1 trivial ?_;refine aH 2 trivial ?_;refine jJ 3 trivial ?_;change wpAnyH _ _ _ _ _ _ _ _ (tW c (w.heap.size+1+1) wr.heap.size);refine aU 4 ?_;refine cK (R:=λm α=>Below (tW c (w.heap.size+1+1) wr.heap.size).heap.size (tW c (w.heap.size+1+1) wr.heap.size) α/\α.ownsRow (tW c (w.heap.size+1+1) wr.heap.size).heap.size 5 1 m 65 (ak q)) Aw (ω.mono λe α ⟨m,κ,U,Ü⟩=>⟨_,κ,Ü,U⟩) ?_;rintro ą v ⟨Γ,β⟩;obtain⟨gt,ct,rfl,Ý,Δ⟩:=β.form aR;refine aV trivial ?_;(have Θ:Hid (c.heap.size<=gt/\gt < v.heap.size):=by have:=ja c (w.heap.size+1+1) wr.heap.size;exact⟨ah,Δ⟩);(have f:=AA<|(kT c _ _).trans (Γ.mono (by rw[ja];omega)));obtain⟨bJ,Ć,Þ,O,-,-,Ξ,-⟩:=Own.reads β;(injection Þ with ß ć à);subst ß à;have Φ:=AA Ξ;replace O:=AA O;have Ψ:Hid ((v.alloc (.cells #[.slice (some ⟨gt,0,none⟩) 65 ct] 27)).ownsRow Q.heap.size 27 1 (.slice σ j τ) j θ):=(aK (aK Ú f) (Below.aJ v _));have Ω:Hid (ax (v.alloc (.cells #[.slice (some ⟨gt,0,none⟩) 65 ct] 27)) 1 (some ⟨v.heap.size,0,none⟩) 1 [.slice (some ⟨gt,0,none⟩) 65 ct]):=aL.reads (aL.new v 27 #[.slice (some ⟨gt,0,none⟩) 65 ct]) 0 _ rfl (λj u á=>by rw[Nat.zero_add];simpa using á);(have À:Hid (Q.heap.size<=(v.alloc (.cells #[.slice (some ⟨gt,0,none⟩) 65 ct] 27)).heap.size):=by have:=f.size;have:=È.out;show _<=_;simp;omega);clear Γ β Ý Δ Ξ ω;refine jJ 5 trivial ?_;refine aU 6 ?_;refine jK (.tmp 106) (.tmp 111) Ao ð ñ ò ó Ψ Ω (λe=>by cases e) (gm rfl) ù ú À ?_;intro Ĉ â i;obtain⟨ã,ä,rfl,-⟩:=Own.reads i.own;replace i:=AA i;refine aV trivial ?_;refine aH 7 trivial ?_;refine bT ?_;have γ:Hid (au (λq=>some q=(Value.slice σ j τ).ownBlock) c â):=⟨i.grow.os.trans f.os,i.grow.tape.trans f.tape,i.grow.output.trans f.output,(by have D:=i.grow.size;have ζ:=f.size;simp at D;omega),λp å æ=>(i.grow.block p (by have:=f.size;simp;omega) æ).trans ((Below.heap_alloc _ _ _ (aC f.size)).trans (f.block p å))⟩;(have Á:=AA<|M.kept γ (λe=>û e));(have δ:=AA<|ψ.kept γ (λe=>í e));clear Ω À Ψ
        go_wp2_with (first
         |(rw[aF 114];refine aM δ ρ.size AB ?_)
         |(rw[aF 115];refine aM Á I.size AB ?_)
         |(go_at_call 254;refine(Ø _).mono ?_;rintro e ĉ ⟨rfl,C⟩;have Â:=bf C δ;replace C:=AA C)
         |(rw[bA 23 20];refine lF Â Z.size Ù Z.one ?_;intro É Ã Ä;have ç:Hid (Oc Q É (w.heap.size+1+1) (iy s (k,[]) ((sides a d).zip A) (j+1)) (.slice ã (j+1) ä) (θ++[.slice (some ⟨gt,0,none⟩) 65 ct])):=(by show Oc _ _ _ _ _ _;rw[φ.out];have:=(Oc.step (st':=(z,st.2++[q])) (q:=q) (gt:=gt) (ct:=ct) y ο Î N f (K.out ▸ Φ) Θ (K.out ▸ O) (K.out ▸ i) C Ã Ä rfl);rw[K.out]at this;exact this);clear Ã Ä C Â δ Á i Φ O Θ f γ))
        (have ï:(h:Int).tdiv 2=((h / 2:Nat):Int):=by rw[Int.tdiv_eq_ediv_of_nonneg ah];omega);(have a:(H:Int).tdiv 2=((H / 2:Nat):Int):=by rw[Int.tdiv_eq_ediv_of_nonneg ah];omega);clear G ι Ì Ā;go_wp2_with fail;go_roundw
        case rel=>exact⟨j+1,h / 2,H / 2,_,_,by go_num,Ð,(by first| rfl |(congr 1;omega)),(by first| rfl |(congr 1;omega)),rfl,ε,ç⟩
        case measure=>(have:=Ð.out;simp[intOf];omega)
     ·obtain rfl:j=n:=ah
      have Ò:¬((j:Int) < (j:Int)):=ah;(have a:=AA<|Ċ.kept y.kept ah);have b:=AA y.leaf;clear Ô ξ í
      go_wp2_with (first
       |(rw[aF 121];refine aM b ρ.size AB ?_)
       |(rw[bA 23 _];refine fw a ρ.size ρ.zero ρ.one ?_))
      refine bodyPost_ret (jl rfl _ _ (w.heap.size+1) 23 (ak st.1).toArray (0,0) _ rfl (setRow_heap _ _ _ _ _ _ a) AB rfl ρ.size) rfl ?_;have a:=Æ.out;rw[Å.out,Ç.out]at a;subst a;have a:au (·=w.heap.size+1) wr (wr.setRow (w.heap.size+1) (ak st.1).toArray):=au.setRow (S:=λJ=>J=w.heap.size+1) (au.refl _ _) rfl _;refine⟨_,θ,_,w.heap.size+1+1,rfl,cO (lM y.own a (λJ e E=>?_)) (AX _),xJ.weaken (xJ.keep y.Xz a (λJ E=>.inr (.inr ?_))),?_⟩
      ·have D:=(y.own.lt J e).1
       have ζ:=ο.out;omega
      ·have ζ:=ο.out
       show J < Q.heap.size;omega
      ·exact(((au.of_below ì).trans y.kept (λd _ E=>E)).trans (T:=(·=w.heap.size+1)) a (λd r E=>absurd r ah)).mono (λd r E=>absurd r ah) |>.below
   ·have Æ:=ν.out
    rw[if_pos (by rw[ë.out,Å];exact η)]at Æ;subst Æ;have ê:((W:Int)==(n:Int))=false:=beq_eq_false_iff_ne.2 ah;have Ă:¬((W:Int)=(n:Int)):=ah;clear η ξ ö õ é
    go_wp2_with (first
     |(go_at_call 252;refine(Ó _).mono ?_;rintro e t ⟨rfl,rfl⟩)
     |(rw[bA 23 _];refine fw è kL rfl CX ?_))
    refine bodyPost_ret (jl rfl _ _ (w.heap.size+1) 23 bF (0,0) _ rfl (setRow_heap _ _ _ _ _ _ è) AB rfl kL) rfl ?_;exact⟨.slice none 0 0,[],none,0,by rw[mM];rfl,Aa _ _ _ _,(λd q E=>by simp at E),below_setRow ô ah _⟩
theorem Km(a:Int)(l:a < 9223372036854775808)(b c:Int)(d:aj)(m:d.length=32)(g:List aj)(h:Option Addr)(e j:Nat)(n:e < 1099511627776)(f:World)(o:j6 f h e g):
  Calls prog 192 #[.int .i64 a,.int .i64 b,.int .i64 c,.agg (ak d).toArray,.slice h e j] f (uJ f (jO a b c d [] g)):=by
 cases hin:bP b c with
 | false=>
  obtain⟨k,i⟩:∃k,jO a b c d [] g=k:=⟨_,rfl⟩;rw[i];unfold jO at i;rw[if_pos hin]at i;subst i;refine(Kl a b c d h e j f hin).mono ?_;rintro u v ⟨rfl,p⟩;exact⟨_,[],none,0,by rw[mM],Aa _ _ _ _,(λc w q=>by simp at q),p⟩
 | true=>
  obtain⟨x,y,r,z⟩:=y9 hin;obtain⟨s,rfl⟩:=Int.eq_ofNat_of_zero_le (show 0<=b by omega);obtain⟨t,rfl⟩:=Int.eq_ofNat_of_zero_le r;exact MQ a l s t ah ah d m g h e j n f o

theorem aL.GV{b c:World}{a:Nat}{d:TypeId}{e:Array Value}(f:aL b a d e)(g:av b c):aL c a d e:=(g.block a f.lt).trans f
def jW(s:Int)(root ev:aj)(x1 x2:Int)(ds:List aj):Int:=
 if fO x1 x2 ds=none\/ev.length < 1\/65536 < ev.length\/iZ s ds=false then 170
 else if(jO s x1 x2 (qR s ev) [] ds).1=root then 0 else 171
theorem Gs{s a b:Int}{leaf:aj}{d:List aj}{f:aj}(c:fO a b d=some f):(jO s a b leaf [] d).2.1=0:=by
 unfold fO at c
 split at c
 ·rename_i e
  unfold jO;rw[if_neg (by rw[show bP a b=true from e.1];decide),if_neg (λg=>g e.2)]
 ·cases c
theorem Q6{c d:Int}{e:List aj}{b:aj}(a:fO c d e=some b):0 < b.length:=by
 unfold fO at a
 split at a
 ·rw[<-Option.some.inj a];simp[jo]
 ·cases a
theorem zq{s:Int}{root ev:aj}{x1 x2:Int}{ds:List aj}(a:fO x1 x2 ds=none):jW s root ev x1 x2 ds=170:=if_pos (.inl a)
theorem xH{s:Int}{root ev:aj}{x1 x2:Int}{ds:List aj}(a:ev.length < 1):jW s root ev x1 x2 ds=170:=if_pos (.inr (.inl a))
theorem zu{s:Int}{root ev:aj}{x1 x2:Int}{ds:List aj}(a:65536 < ev.length):jW s root ev x1 x2 ds=170:=if_pos (.inr (.inr (.inl a)))
theorem zo{s:Int}{root ev:aj}{x1 x2:Int}{ds:List aj}(a:iZ s ds=false):jW s root ev x1 x2 ds=170:=if_pos (.inr (.inr (.inr a)))
theorem FP{s:Int}{root ev:aj}{b c:Int}{a:List aj}{d:aj}(e:fO b c a=some d)(f:¬ev.length < 1)(g:¬65536 < ev.length)(h:iZ s a=true):jW s root ev b c a=if(jO s b c (qR s ev) [] a).1=root then 0 else 171:=by
 unfold jW;rw[if_neg];rintro(a | a | a | a)
 ·rw[e]at a;cases a
 ·exact f a
 ·exact g a
 ·rw[h]at a;cases a
theorem Lv(s:Int)(root:aj)(E:root.length=32)(ev:aj)(e:Nat)(F:ev.length=e)(L:e < 140737488355328)(d:Option Addr)(l:Nat)(M:e<=l)(N:d=none->e=0/\l=0)(x1 x2:Int)(ds:List aj)(k:Option Addr)(g c2:Nat)(X:g < 140737488355328)(a:World)(n:bn a)(O:ax a 1 d e (ak ev))(r:j6 a k g ds):
  bq 69 #[.int .i64 s,.agg (ak root).toArray,.slice d e l,.agg (eP x1 x2 k g c2)] a (.int .i64 (jW s root ev x1 x2 ds)):=by
 unfold eP
 obtain⟨t,o⟩:=bG ((a.alloc (.cells (ak root).toArray 23)).alloc (.cells #[Value.int .i64 x1,Value.int .i64 x2,Value.slice k g c2] 48))
 have P:Hid (av a t):=o.out ▸ ((Below.refl _ a).alloc (AJ _) _).alloc aZ _
 have Y:Hid (aL t a.heap.size 23 (ak root).toArray):=o.out ▸ heap_alloc2_old a _ _
 have Z:Hid (aL t (a.heap.size+1) 48 #[Value.int .i64 x1,Value.int .i64 x2,Value.slice k g c2]):=o.out ▸ heap_alloc2_new a _ _
 have Q:=AA (aP (x:=root) E)
 obtain⟨⟨x,S,c⟩,y⟩:∃b,jO s x1 x2 (qR s ev) [] ds=b:=⟨_,rfl⟩
 have p:=x9 s x1 x2 (qR s ev) [] ds (tY s ev)
 have z:=AA (λh (f:fO x1 x2 ds=some h)=>Gs (s:=s) (leaf:=qR s ev) f)
 rw[y]at p z
 dsimp only at p z
 have m:=AA (aP (x:=x) p)
 have D:=AA (λa=>I5 x root p E a)
 obtain⟨v,q⟩:=aS (qR s ev)
 have w:Hid (v.length=32):=q.out ▸ tY s ev
 have α:=AA<|λc (b:av a c)=>El s ds g ah k c2 c (r.below b)
 have T:Hid (∀c,av a c->bq 137 #[.int .i64 s,.slice d e l] c (.agg (ak v).toArray)):=λc b=>by
  have:=Sy ev e F d l s c (n.below b n.1) L (O.below b) M N;rw[<-q.out];exact this
 have l:=AA (λh (f:fO x1 x2 ds=some h) d A B=>FP (s:=s) (root:=root) (ev:=ev) f d A B)
 rw[y]at l
 dsimp only at l
 have G:Hid (∀c,av a c->bq 136 #[.int .i64 s,.int .i64 x1,.int .i64 x2,.agg (ak v).toArray,.slice k g c2] c (.tuple #[.agg (ak x).toArray,.int .i64 S])):=λc b=>by
  have:=KV s x1 x2 v w ds k g c2 ah c (n.below b n.1) (r.below b);rw[<-q.out]at this;rw[y]at this;rw[<-q.out];exact this
 have U:Hid (∀c,av a c->Calls prog 87 #[.agg #[Value.int .i64 x1,Value.int .i64 x2,Value.slice k g c2]] c λq d=>∃H V h A,q=.returned (.tuple #[.slice H h.length V,.int .i64 A])/\ax d 1 H h.length (ak h)/\((fO x1 x2 ds=some h/\A=0)\/(fO x1 x2 ds=none/\h=[]/\A=170))/\av c d):=λc b=>K9 x1 x2 ds k g c2 c (r.below b)
 have I:=AA (λf=>zq (s:=s) (root:=root) (ev:=ev) (x1:=x1) (x2:=x2) (ds:=ds) f)
 have B:=AA (λf=>xH (s:=s) (root:=root) (ev:=ev) (x1:=x1) (x2:=x2) (ds:=ds) f)
 have C:=AA (λf=>zu (s:=s) (root:=root) (ev:=ev) (x1:=x1) (x2:=x2) (ds:=ds) f)
 have J:=AA (λf=>zo (s:=s) (root:=root) (ev:=ev) (x1:=x1) (x2:=x2) (ds:=ds) f)
 obtain⟨W,w⟩:=aS (jW s root ev x1 x2 ds)
 rw[w.out]at l I B C J ⊢
 have f:=AA F
 rw[f.out]at l B C
 clear E F L M N X O r y p n
 go_enter func69,ntmps69
 go_wp2_with fail
 change Calls _ _ _ ((a.alloc (.cells (ak root).toArray 23)).alloc (.cells #[Value.int .i64 x1,Value.int .i64 x2,Value.slice k g c2] 48)) _
 rw[<-o.out]
 clear o
 refine(U t P).mono ?_
 rintro q E ⟨H,V,h,A,rfl,-,n,f⟩
 have y:=aQ P f
 have A:=AA<|aL.GV Y f
 have o:=AA<|aL.GV Z f
 clear f U
 rcases n with⟨t,rfl⟩ |⟨t,rfl,rfl⟩
 ·by_cases n:e < 1
  ·obtain rfl:=B n
   have r:(e:Int) < 1:=ah;clear w t;go_wp2_with fail;go_ret;exact⟨rfl,y⟩
  ·by_cases p:65536 < e
   ·obtain rfl:=C p
    have r:¬((e:Int) < 1):=ah;have F:(65536:Int) < (e:Int):=ah;clear w t n;go_wp2_with fail;go_ret;exact⟨rfl,y⟩
   ·have r:¬((e:Int) < 1):=ah
    have F:¬((65536:Int) < (e:Int)):=ah;have e:=AA (α E y);have r:=AA (l h t n p);obtain rfl:S=0:=z h t;clear B C I t n p z l;have h:E.cell? ⟨a.heap.size+1,2,none⟩=some (.slice k g c2):=o.cell 2;cases hwi:iZ s ds with
    | false=>
     obtain rfl:=J hwi;rw[hwi]at e;clear hwi r w;go_wp2_with (go_at_call 134;refine e.mono ?_;rintro q g ⟨rfl,f⟩;have l:=aQ y f;have H:=AA<|aL.GV A f;have h:=AA<|aL.GV o f;clear f);go_ret;exact⟨rfl,l⟩
    | true=>
     have L:=AA (r hwi);rw[hwi]at e;clear hwi r J w;go_wp2_with (go_at_call 134;refine e.mono ?_;rintro q g ⟨rfl,f⟩;have l:=aQ y f;have H:=AA<|aL.GV A f;have h:=AA<|aL.GV o f;clear f)
     go_cut [11,12]from 37 to 50 (λn u wr=>∃F:Nat,n=.pointer (some ⟨F,0,none⟩)/\u=.int .i64 0/\Hid (aL wr F 23 (ak x).toArray)/\Hid (av g wr))
     case first=>
      have aD:Hid (av g g.drew):=(Below.refl _ _).drew;refine dI (λc=>av g c) 17 ?_;refine aH 0 aD ?_;refine aH 1 aD ?_;refine eG 2 aD (λc e=>(aL.GV h e).cell 0) ?_;refine aH 3 aD ?_;refine eG 4 aD (λc e=>(aL.GV h e).cell 1) ?_;refine aH 5 aD ?_;refine aH 6 aD ?_;refine aH 8 aD ?_;refine eG 9 aD (λc e=>(aL.GV h e).cell 2) ?_;refine iP (i:=7) (j:=14) rfl rfl bH (by rfl) (by rfl) (λK o=>?_) (λK o=>?_)
      ·refine cK (R:=λn d=>n=.agg (ak v).toArray/\av g d/\Below (g.drew).heap.size (g.drew) d) func137 ((T _ (l.trans ((aD).mono l.size))).mono λq d ⟨r,b⟩=>⟨_,r,rfl,aD.trans (b.mono aD.size),b⟩) ?_
       rintro E z ⟨rfl,h,c⟩;replace h:=AA h;replace c:=AA c;clear c;go_simp;refine o _ _ h ?_;clear o K;refine iP (i:=10) (j:=14) rfl rfl bH (by rfl) (by rfl) (λK o=>?_) (λK o=>?_)
       ·refine cK (R:=λn d=>n=.tuple #[.agg (ak x).toArray,.int .i64 0]/\av g d/\Below (z).heap.size (z) d) func136 ((G _ (l.trans ((h).mono l.size))).mono λq d ⟨r,b⟩=>⟨_,r,rfl,h.trans (b.mono h.size),b⟩) ?_
        rintro E A ⟨rfl,e,c⟩;replace e:=AA e;replace c:=AA c;clear c;go_simp;refine o _ _ e ?_;clear o K;refine aH 11 e ?_;refine aH 12 e ?_;refine aH 13 e ?_;refine aU 14 ?_;have f:=AA (e.alloc e.size (.cells bF 23));have k:Hid (aL (A.alloc (.cells bF 23)) A.heap.size 23 bF):=aL.new _ _ _;refine aV f ?_;refine aU 15 ?_;refine fM (k) m.size m.zero m.one ?_;intro J B C;(have p:=AA<|f.trans (au.aW C (e.size) f.size));refine aV p ?_;refine aH 16 p ?_;refine bT ?_;go_wp2_with fail;go_meet
        case rel=>exact⟨_,rfl,rfl,B,p⟩
       ·have e:=AA (h.alloc h.size (.cells bF 23))
        have k:Hid (aL (z.alloc (.cells bF 23)) z.heap.size 23 bF):=aL.new _ _ _;go_simp;refine o _ _ e ?_;clear o K;refine aU 10 ?_;refine cK (R:=λn d=>n=.tuple #[.agg (ak x).toArray,.int .i64 0]/\av g d/\Below ((z.alloc (.cells bF 23))).heap.size ((z.alloc (.cells bF 23))) d) func136 ((G _ (l.trans ((e).mono l.size))).mono λq d ⟨r,b⟩=>⟨_,r,rfl,e.trans (b.mono e.size),b⟩) ?_;rintro E z ⟨rfl,f,c⟩;replace f:=AA f;replace c:=AA c;replace k:=AA ((c.block _ (aL.lt k)).trans k);clear c;refine aV f ?_;refine aH 11 f ?_;refine aH 12 f ?_;refine aH 13 f ?_;refine aU 15 ?_;refine fM (k) m.size m.zero m.one ?_;intro J B C;(have p:=AA<|f.trans (au.aW C (h.size) f.size));refine aV p ?_;refine aH 16 p ?_;refine bT ?_;go_wp2_with fail;go_meet
        case rel=>exact⟨_,rfl,rfl,B,p⟩
      ·have h:=AA (aD.alloc aD.size (.cells bF 23))
       have k:Hid (aL (g.drew.alloc (.cells bF 23)) g.heap.size 23 bF):=aL.new _ _ _;go_simp;refine o _ _ h ?_;clear o K;refine aU 7 ?_;refine cK (R:=λn d=>n=.agg (ak v).toArray/\av g d/\Below ((g.drew.alloc (.cells bF 23))).heap.size ((g.drew.alloc (.cells bF 23))) d) func137 ((T _ (l.trans ((h).mono l.size))).mono λq d ⟨r,b⟩=>⟨_,r,rfl,h.trans (b.mono h.size),b⟩) ?_;rintro E A ⟨rfl,e,c⟩;replace e:=AA e;replace c:=AA c;replace k:=AA ((c.block _ (aL.lt k)).trans k);clear c;refine aV e ?_;refine aU 10 ?_;refine cK (R:=λn d=>n=.tuple #[.agg (ak x).toArray,.int .i64 0]/\av g d/\Below (A).heap.size (A) d) func136 ((G _ (l.trans ((e).mono l.size))).mono λq d ⟨r,b⟩=>⟨_,r,rfl,e.trans (b.mono e.size),b⟩) ?_;rintro E z ⟨rfl,f,c⟩;replace f:=AA f;replace c:=AA c;replace k:=AA ((c.block _ (aL.lt k)).trans k);clear c;refine aV f ?_;refine aH 11 f ?_;refine aH 12 f ?_;refine aH 13 f ?_;refine aU 15 ?_;refine fM (k) m.size m.zero m.one ?_;intro J B C;(have p:=AA<|f.trans (au.aW C (aD.size) f.size));refine aV p ?_;refine aH 16 p ?_;refine bT ?_;go_wp2_with fail;go_meet
       case rel=>exact⟨_,rfl,rfl,B,p⟩
     case rest=>
      obtain⟨F,rfl,rfl,e,b⟩:=hcut;have f:=aQ l b;(have g:=AA<|aL.GV H b);clear b;by_cases b:x=root
      ·have c:Hid (∀a,(Op.equalIn 10000 23 (.agg (ak x).toArray) (.agg (ak root).toArray)).run prog a=.ok true a):=λa=>by rw[D.out a,decide_eq_true b]
       have h:=c.out;(have d:W=0:=by rw[L.out,if_pos b]);clear D c b
       go_wp2_with (first
        |(rw[aF 54];refine aM e m.size AB ?_)
        |(rw[aF 55];refine aM g Q.size AB ?_))
       go_ret;exact⟨by rw[d];rfl,f⟩
      ·have c:Hid (∀a,(Op.equalIn 10000 23 (.agg (ak x).toArray) (.agg (ak root).toArray)).run prog a=.ok false a):=λa=>by rw[D.out a,decide_eq_false b]
       have h:=c.out;(have d:W=171:=by rw[L.out,if_neg b]);clear D c b
       go_wp2_with (first
        |(rw[aF 54];refine aM e m.size AB ?_)
        |(rw[aF 55];refine aM g Q.size AB ?_))
       go_ret;exact⟨by rw[d];rfl,f⟩
 ·obtain rfl:=I t
  clear w t;go_wp2_with fail;go_ret;exact⟨rfl,y⟩
theorem Kq(s:Int)(root:aj)(D:root.length=32)(ev:aj)(d:Nat)(H:ev.length=d)(J:d < 140737488355328)(c:Option Addr)(l:Nat)(L:d<=l)(Q:c=none->d=0/\l=0)(x1 x2:Int)(ds:List aj)(k:Option Addr)(h c2:Nat)(U:h < 1099511627776)(a:World)(q:s < 9223372036854775808)(V:ax a 1 c d (ak ev))(v:j6 a k h ds):
  bq 119 #[.int .i64 s,.agg (ak root).toArray,.slice c d l,.agg (eP x1 x2 k h c2)] a (.int .i64 (jW s root ev x1 x2 ds)):=by
 unfold eP
 obtain⟨w,o⟩:=bG ((a.alloc (.cells (ak root).toArray 23)).alloc (.cells #[Value.int .i64 x1,Value.int .i64 x2,Value.slice k h c2] 48))
 have W:Hid (av a w):=o.out ▸ ((Below.refl _ a).alloc (AJ _) _).alloc aZ _
 have γ:Hid (aL w a.heap.size 23 (ak root).toArray):=o.out ▸ heap_alloc2_old a _ _
 have δ:Hid (aL w (a.heap.size+1) 48 #[Value.int .i64 x1,Value.int .i64 x2,Value.slice k h c2]):=o.out ▸ heap_alloc2_new a _ _
 have X:=AA (aP (x:=root) D)
 obtain⟨⟨x,Y,C⟩,y⟩:∃b,jO s x1 x2 (qR s ev) [] ds=b:=⟨_,rfl⟩
 have p:=x9 s x1 x2 (qR s ev) [] ds (tY s ev)
 have z:=AA (λf (g:fO x1 x2 ds=some f)=>Gs (s:=s) (leaf:=qR s ev) g)
 rw[y]at p z
 dsimp only at p z
 have r:=AA (aP (x:=x) p)
 have M:=AA (λa=>I5 x root p D a)
 obtain⟨A,B⟩:=aS (qR s ev)
 have E:Hid (A.length=32):=B.out ▸ tY s ev
 have ε:=AA<|λb (e:av a b)=>xh s q ds h ah k c2 b (v.below e)
 have Z:Hid (∀b,av a b->bq 164 #[.int .i64 s,.slice c d l] b (.agg (ak A).toArray)):=λb e=>by
  have:=Kk ev d H c l s b q J (V.below e) L Q;rw[<-B.out];exact this
 have n:=AA (λf (g:fO x1 x2 ds=some f) c l m=>FP (s:=s) (root:=root) (ev:=ev) g c l m)
 rw[y]at n
 dsimp only at n
 have S:Hid (∀b,av a b->Calls prog 192 #[.int .i64 s,.int .i64 x1,.int .i64 x2,.agg (ak A).toArray,.slice k h c2] b λt c=>∃m F N O,t=.returned (.tuple #[.agg (ak x).toArray,m,.int .i64 Y])/\c.ownsRow 0 27 1 m C.length F/\xJ (λ_=>False) c O N F C/\av b c):=λb e=>by
  have:=Km s q x1 x2 A E ds k h c2 U b (v.below e);rw[<-B.out,y]at this;rw[<-B.out];exact this
 have α:Hid (∀b,av a b->Calls prog 37 #[.agg #[Value.int .i64 x1,Value.int .i64 x2,Value.slice k h c2]] b λt c=>∃l B f,t=.returned (.slice l f.length B)/\ax c 1 l f.length (ak f)/\(l=none->f.length=0/\B=0)/\f.length<=B/\(fO x1 x2 ds=some f\/(fO x1 x2 ds=none/\l=none/\f=[]))/\av b c):=λb e=>Ga x1 x2 ds k h c2 b (v.below e)
 have T:=AA (λg=>zq (s:=s) (root:=root) (ev:=ev) (x1:=x1) (x2:=x2) (ds:=ds) g)
 have E:=AA (λg=>xH (s:=s) (root:=root) (ev:=ev) (x1:=x1) (x2:=x2) (ds:=ds) g)
 have G:=AA (λg=>zu (s:=s) (root:=root) (ev:=ev) (x1:=x1) (x2:=x2) (ds:=ds) g)
 have I:=AA (λg=>zo (s:=s) (root:=root) (ev:=ev) (x1:=x1) (x2:=x2) (ds:=ds) g)
 obtain⟨β,C⟩:=aS (jW s root ev x1 x2 ds)
 rw[C.out]at n T E G I ⊢
 have g:=AA H
 rw[g.out]at n E G
 clear D H J L Q U V v y p q
 go_enter func119,ntmps119
 go_wp2_with fail
 change Calls _ _ _ ((a.alloc (.cells (ak root).toArray 23)).alloc (.cells #[Value.int .i64 x1,Value.int .i64 x2,Value.slice k h c2] 48)) _
 rw[<-o.out]
 clear o
 refine(α w W).mono ?_
 rintro t q ⟨l,B,f,rfl,-,U,-,p,g⟩
 have D:=aQ W g
 have w:=AA<|aL.GV γ g
 have o:=AA<|aL.GV δ g
 clear g α
 rcases p with y |⟨y,rfl,rfl⟩
 ·have v:=Q6 y
  obtain⟨H,rfl⟩:∃p,l=some p:=by
   cases l with
   | none=>have:=(U rfl).1;omega
   | some p=>exact⟨p,rfl⟩
  (have W:=λb=>Lib.run_eql_slice_nil (P:=prog) b 27 5 (some H) f.length B 0 0 AR);clear U v;by_cases l:d < 1
  ·obtain rfl:=E l
   have v:(d:Int) < 1:=ah;clear C y;go_wp2_with fail;go_ret;exact⟨rfl,D⟩
  ·by_cases p:65536 < d
   ·obtain rfl:=G p
    have v:¬((d:Int) < 1):=ah;have H:(65536:Int) < (d:Int):=ah;clear C y l;go_wp2_with fail;go_ret;exact⟨rfl,D⟩
   ·have v:¬((d:Int) < 1):=ah
    have H:¬((65536:Int) < (d:Int)):=ah;have d:=AA (ε q D);have v:=AA (n f y l p);obtain rfl:Y=0:=z f y;clear E G T y l p z n;have f:q.cell? ⟨a.heap.size+1,2,none⟩=some (.slice k h c2):=o.cell 2;cases hwi:iZ s ds with
    | false=>
     obtain rfl:=I hwi;rw[hwi]at d;clear hwi v C;go_wp2_with (go_at_call 190;refine d.mono ?_;rintro t l ⟨rfl,g⟩;have q:=aQ D g;have Y:=AA<|aL.GV w g;have f:=AA<|aL.GV o g;clear g);go_ret;exact⟨rfl,q⟩
    | true=>
     have α:=AA (v hwi);rw[hwi]at d;clear hwi v I C;go_wp2_with (go_at_call 190;refine d.mono ?_;rintro t l ⟨rfl,g⟩;have q:=aQ D g;have Y:=AA<|aL.GV w g;have f:=AA<|aL.GV o g;clear g);clear W
     go_cut [9,10,11]from 32 to 46 (λm d u wr=>∃(V:Nat) (h:Option Addr) (v k:Nat),m=.pointer (some ⟨V,0,none⟩)/\d=.slice h v k/\u=.int .i64 0/\Hid (aL wr V 23 (ak x).toArray)/\Hid (av l wr))
     case first=>
      have aD:Hid (av l l.drew):=(Below.refl _ _).drew;refine dI (λb=>av l b) 19 ?_;refine aH 0 aD ?_;refine aH 1 aD ?_;refine eG 2 aD (λb d=>(aL.GV f d).cell 0) ?_;refine aH 3 aD ?_;refine eG 4 aD (λb d=>(aL.GV f d).cell 1) ?_;refine aH 5 aD ?_;refine aH 6 aD ?_;refine aH 8 aD ?_;refine eG 9 aD (λb d=>(aL.GV f d).cell 2) ?_;refine iP (i:=7) (j:=15) rfl rfl bH (by rfl) (by rfl) (λK w=>?_) (λK w=>?_)
      ·refine cK (R:=λm c=>m=.agg (ak A).toArray/\av l c/\Below (l.drew).heap.size (l.drew) c) func164 ((Z _ (q.trans ((aD).mono q.size))).mono λt c ⟨z,e⟩=>⟨_,z,rfl,aD.trans (e.mono aD.size),e⟩) ?_
       rintro Q E ⟨rfl,n,f⟩;replace n:=AA n;replace f:=AA f;clear f;go_simp;refine w _ _ n ?_;clear w K;refine iP (i:=10) (j:=15) rfl rfl bH (by rfl) (by rfl) (λK w=>?_) (λK w=>?_)
       ·refine cK (R:=λm c=>∃h v k,m=.tuple #[.agg (ak x).toArray,.slice h v k,.int .i64 0]/\av l c/\Below (E).heap.size (E) c) BK ((S _ (q.trans ((n).mono q.size))).mono λt c ⟨γ,F,N,O,z,G,_,e⟩=>by obtain⟨h,k,H,-⟩:=Own.reads G;subst H;exact⟨_,z,h,_,k,rfl,n.trans (e.mono n.size),e⟩) ?_
        rintro Q I ⟨h,v,k,rfl,g,f⟩;replace g:=AA g;replace f:=AA f;clear f;go_simp;refine w _ _ g ?_;clear w K;refine aH 11 g ?_;refine aH 12 g ?_;refine aH 13 g ?_;refine aH 14 g ?_;refine aU 15 ?_;have d:=AA (g.alloc g.size (.cells bF 23));have o:Hid (aL (I.alloc (.cells bF 23)) I.heap.size 23 bF):=aL.new _ _ _;refine aV d ?_;refine aU 16 ?_;refine fM (o) r.size r.zero r.one ?_;intro δ J L;(have p:=AA<|d.trans (au.aW L (g.size) d.size));refine aV p ?_;refine aH 17 p ?_;refine aH 18 p ?_;refine bT ?_;go_wp2_with fail;go_meet
        case rel=>exact⟨_,_,_,_,rfl,rfl,rfl,J,p⟩
       ·have g:=AA (n.alloc n.size (.cells bF 23))
        have o:Hid (aL (E.alloc (.cells bF 23)) E.heap.size 23 bF):=aL.new _ _ _;go_simp;refine w _ _ g ?_;clear w K;refine aU 10 ?_;refine cK (R:=λm c=>∃h v k,m=.tuple #[.agg (ak x).toArray,.slice h v k,.int .i64 0]/\av l c/\Below ((E.alloc (.cells bF 23))).heap.size ((E.alloc (.cells bF 23))) c) BK ((S _ (q.trans ((g).mono q.size))).mono λt c ⟨γ,F,N,O,z,G,_,e⟩=>by obtain⟨h,k,H,-⟩:=Own.reads G;subst H;exact⟨_,z,h,_,k,rfl,g.trans (e.mono g.size),e⟩) ?_;rintro Q E ⟨h,v,k,rfl,d,f⟩;replace d:=AA d;replace f:=AA f;replace o:=AA ((f.block _ (aL.lt o)).trans o);clear f;refine aV d ?_;refine aH 11 d ?_;refine aH 12 d ?_;refine aH 13 d ?_;refine aH 14 d ?_;refine aU 16 ?_;refine fM (o) r.size r.zero r.one ?_;intro δ J L;(have p:=AA<|d.trans (au.aW L (n.size) d.size));refine aV p ?_;refine aH 17 p ?_;refine aH 18 p ?_;refine bT ?_;go_wp2_with fail;go_meet
        case rel=>exact⟨_,_,_,_,rfl,rfl,rfl,J,p⟩
      ·have n:=AA (aD.alloc aD.size (.cells bF 23))
       have o:Hid (aL (l.drew.alloc (.cells bF 23)) l.heap.size 23 bF):=aL.new _ _ _;go_simp;refine w _ _ n ?_;clear w K;refine aU 7 ?_;refine cK (R:=λm c=>m=.agg (ak A).toArray/\av l c/\Below ((l.drew.alloc (.cells bF 23))).heap.size ((l.drew.alloc (.cells bF 23))) c) func164 ((Z _ (q.trans ((n).mono q.size))).mono λt c ⟨z,e⟩=>⟨_,z,rfl,n.trans (e.mono n.size),e⟩) ?_;rintro Q I ⟨rfl,g,f⟩;replace g:=AA g;replace f:=AA f;replace o:=AA ((f.block _ (aL.lt o)).trans o);clear f;refine aV g ?_;refine aU 10 ?_;refine cK (R:=λm c=>∃h v k,m=.tuple #[.agg (ak x).toArray,.slice h v k,.int .i64 0]/\av l c/\Below (I).heap.size (I) c) BK ((S _ (q.trans ((g).mono q.size))).mono λt c ⟨γ,F,N,O,z,G,_,e⟩=>by obtain⟨h,k,H,-⟩:=Own.reads G;subst H;exact⟨_,z,h,_,k,rfl,g.trans (e.mono g.size),e⟩) ?_;rintro Q E ⟨h,v,k,rfl,d,f⟩;replace d:=AA d;replace f:=AA f;replace o:=AA ((f.block _ (aL.lt o)).trans o);clear f;refine aV d ?_;refine aH 11 d ?_;refine aH 12 d ?_;refine aH 13 d ?_;refine aH 14 d ?_;refine aU 16 ?_;refine fM (o) r.size r.zero r.one ?_;intro δ J L;(have p:=AA<|d.trans (au.aW L (aD.size) d.size));refine aV p ?_;refine aH 17 p ?_;refine aH 18 p ?_;refine bT ?_;go_wp2_with fail;go_meet
       case rel=>exact⟨_,_,_,_,rfl,rfl,rfl,J,p⟩
     case rest=>
      obtain⟨V,h,v,k,rfl,rfl,rfl,f,c⟩:=hcut;have g:=aQ q c;(have h:=AA<|aL.GV Y c);clear c;by_cases c:x=root
      ·have d:Hid (∀a,(Op.equalIn 10000 23 (.agg (ak x).toArray) (.agg (ak root).toArray)).run prog a=.ok true a):=λa=>by rw[M.out a,decide_eq_true c]
       have k:=d.out;(have e:β=0:=by rw[α.out,if_pos c]);clear M d c
       go_wp2_with (first
        |(rw[aF 50];refine aM f r.size AB ?_)
        |(rw[aF 51];refine aM h X.size AB ?_))
       go_ret;exact⟨by rw[e];rfl,g⟩
      ·have d:Hid (∀a,(Op.equalIn 10000 23 (.agg (ak x).toArray) (.agg (ak root).toArray)).run prog a=.ok false a):=λa=>by rw[M.out a,decide_eq_false c]
       have k:=d.out;(have e:β=171:=by rw[α.out,if_neg c]);clear M d c
       go_wp2_with (first
        |(rw[aF 50];refine aM f r.size AB ?_)
        |(rw[aF 51];refine aM h X.size AB ?_))
       go_ret;exact⟨by rw[e];rfl,g⟩
 ·have W:=λb=>Lib.run_eql_slice_nil (P:=prog) b 27 5 none 0 B 0 0 AR
  obtain rfl:=T y;clear C y U;go_wp2_with fail;go_ret;exact⟨rfl,D⟩
theorem yP:prog.eqGuardType prog.depth 57=false:=by kernel_rfl
theorem II:prog.eqGuardType prog.depth 36=false:=by kernel_rfl
theorem l7:(prog.info? 57).map (·.size)=some 64:=by kernel_rfl
theorem Cx(g:List aj)(d:Nat)(b:d<=2199023255552)(f i:Option Addr)(j k:Nat)(c:World)(e:kD c f d g)(h:kD c i d g):
  Calls prog 80 #[.slice f d j,.slice i d k] c λl a=>l=.returned (.bool true)/\∃f,a=c.drewN f:=by
 replace e:=AA e
 replace h:=AA h
 have j:=AA b
 clear b
 go_enter func80,ntmps80
 go_wp2_with fail
 go_loopw [5] (λi wr=>∃b f:Nat,i=.int .i64 (b:Int)/\Hid (b<=d)/\Hid (wr=c.drewN f)) (λi _=>d - (intOf i).toNat)
 case atStart=>exact⟨0,0,rfl,AX _,rfl⟩
 case round=>
  obtain⟨b,f,rfl,c,i⟩:=hrel;have k:(b:Int)<=2199023255552:=dn c j;by_cases j:b < d
  ·have t:(b:Int) < (d:Int):=ah
   have c:(0:Int)<=(b:Int):=ah;have m:=AA j;obtain⟨c,hx⟩:∃c,Hid (g[b]?=some c):=⟨_,AV (by rw[e.out.len];exact j)⟩;have k:=AA (e.all c (Ab hx));obtain⟨n,o,rfl,-,p⟩:=e.at_ hx;obtain⟨q,r,rfl,-,s⟩:=h.at_ hx;(have v:Hid (∀a,(∃h,a=wr.drewN h)->∀e u,(ak c)[e]?=some u->a.cell? ⟨n,o+b*64+e,none⟩=some u):=λa g e u l=>by obtain⟨h,rfl⟩:=g;rw[i.out];exact p e u l);(have w:Hid (∀a,(∃h,a=wr.drewN h)->∀e u,(ak c)[e]?=some u->a.cell? ⟨q,r+b*64+e,none⟩=some u):=λa g e u l=>by obtain⟨h,rfl⟩:=g;rw[i.out];exact s e u l);(have e:Hid ((prog.info? 57).map (·.size)=some (ak c).length):=by show _=_;rw[aB,k.out];exact l7);(have h:Hid (∀a,(binOp .neq 57 (.agg (ak c).toArray) (.agg (ak c).toArray)).run prog a=.ok (.bool false) a):=λa=>by rw[KJ c c k.out k.out];simp);clear p s j;go_upto_region 6 with fail;refine cB (λa=>∃f,a=wr.drewN f) (⟨1,rfl⟩) ?_;(iterate 3 refine aG ?_);refine dh n ((o+b*64)) (ak c) (λa g=>v a g) e Af ?_;(iterate 3 refine aG ?_);refine dh q ((r+b*64)) (ak c) (λa g=>w a g) e Af ?_;refine jr (λa g=>iN rfl rfl rfl yP (h a)) ?_;refine bR ?_;intro c a;obtain⟨c,rfl⟩:=a;go_wp2_with fail;go_roundw
   case rel=>exact⟨b+1,f+c,by go_num,m,by show _=_;rw[i.out,World.drewN_drewN]⟩
   case measure=>(have:=m.out;simp[intOf];omega)
  ·have t:¬((b:Int) < (d:Int)):=ah
   clear j;go_wp2_with fail;go_ret;exact⟨rfl,f,i⟩
theorem J7(c:bE)(f:c.Ok)(g:List aj)(a:Nat)(q:a<=2199023255552)(d h:Option Addr)(i j:Nat)(b:World)(o:kD b d a g)(p:kD b h a g):
  bq 32 #[.agg (aN c (.slice d a i)).toArray,.agg (aN c (.slice h a j)).toArray] b (.bool true):=by
 obtain⟨e,k⟩:∃e,(b.alloc (.cells (aN c (.slice d a i)).toArray 39)).alloc (.cells (aN c (.slice h a j)).toArray 39)=e:=⟨_,rfl⟩
 have l:(b.alloc (.cells (aN c (.slice d a i)).toArray 39)).heap.size=b.heap.size+1:=by simp
 have m:Hid (fC e b.heap.size c d a i g):=k ▸ (fC.new o).below (Below.aJ _ _)
 have n:Hid (fC e (b.heap.size+1) c h a j g):=by show fC _ _ _ _ _ _ _;rw[<-k,<-l];exact fC.new (p.below (Below.aJ b _))
 have r:Hid (av b e):=k ▸ (Below.aJ b _).alloc (by rw[l];omega) _
 have b:Hid ((prog.info? 36).map (·.size)=some (aI c).length):=by show _=_;rw[bQ f];exact iT
 have k:=AA<|Tt c f
 have c:=m.row f
 have c:=n.row f
 clear o p f l
 go_enter func32,ntmps32
 go_wp2_with (first
  |((rw[aF 6];refine bS m.head b AQ ?_))
  |((rw[aF 8];refine bS n.head b AQ ?_))
  |(rw[aF 9];refine iw (k _) II ?_)
  |(go_at_call 80;refine(Cx g a q d h i j e m.rA n.rA).mono ?_;rintro b c ⟨rfl,a,rfl⟩))
 go_ret
 exact⟨rfl,fI r a⟩
def Nb(x:UInt8):Bool:=decide (97<=x.toNat/\x.toNat<=122\/48<=x.toNat/\x.toNat<=57\/x.toNat=45)
def qQ(l:List UInt8):Bool:=decide (0 < l.length/\l.length<=64)&&l.all Nb
def kr(l:List UInt8):Bool:=decide (l.length<=64)&&l.all Nb
theorem Fb{a:List UInt8}{b:Nat}(c:b < a.length)(d:(a.take b).all Nb=true)(e:Nb a[b]=true):(a.take (b+1)).all Nb=true:=by
 rw[List.take_succ_eq_append_getElem c,List.all_append,d];simp[e]
theorem Fa{a:List UInt8}{k:Nat}(b:k < a.length)(c:Nb a[k]=false):a.all Nb=false:=by
 rw[List.all_eq_false];exact⟨a[k],CQ b,by rw[c];decide⟩
theorem Qp(a:ByteArray)(hs:a.size<=140737488355328)(b:World):
  Calls prog 273 #[.string a,.int .i64 64] b λc d=>c=.returned (.bool (qQ a.data.toList))/\b=d:=by
 have d:Hid (a.data.toList.length=a.size):=by show _=_;simp
 by_cases h0:a.size=0
 ·have hF:Hid (qQ a.data.toList=false):=by show _=_;unfold qQ;rw[d.out,h0];simp
  (have c:((a.size:Int)==0)=true:=by simp[h0]);clear h0 hs d;(go_enter func273,ntmps273);go_wp2_with fail;go_ret;exact⟨by show Ending.returned (.bool false)=_;rw[hF.out],rfl⟩
 ·by_cases b:64 < a.size
  ·have hF:Hid (qQ a.data.toList=false):=by show _=_;unfold qQ;rw[d.out,decide_eq_false ah];rfl
   have c:((a.size:Int)==0)=false:=beq_eq_false_iff_ne.2 ah;have e:(64:Int) < (a.size:Int):=ah;clear h0 hs d b;(go_enter func273,ntmps273);go_wp2_with fail;go_ret;exact⟨by show Ending.returned (.bool false)=_;rw[hF.out],rfl⟩
  ·have c:((a.size:Int)==0)=false:=beq_eq_false_iff_ne.2 ah
   have e:decide ((64:Int) < (a.size:Int))=false:=AP ah;have p:Hid (decide (0 < a.data.toList.length/\a.data.toList.length<=64)=true):=d.out ▸ AY ah;have f:(a.size:Int)<=64:=ah;clear h0 hs b;(go_enter func273,ntmps273);go_wp2_with fail;clear c e
   go_loop [18] (λb=>∃k:Nat,b=.int .i64 (k:Int)/\k<=a.size/\Hid ((a.data.toList.take k).all Nb=true)) (λb=>a.size - (intOf b).toNat)
   case atStart=>exact⟨0,rfl,AX _,by show _=_;simp⟩
   case round=>
    obtain⟨k,rfl,b,i⟩:=hrel;by_cases m:k < a.size
    ·have j:Hid (a.data.toList[k]'(d.out ▸ m)=a[k]):=rfl
     by_cases f:Nb a[k]=true
     ·have n:=AA<|Fb (d.out ▸ m) i (j.out ▸ f)
      (have o:(97<=a[k].toNat/\a[k].toNat<=122)\/(48<=a[k].toNat/\a[k].toNat<=57)\/a[k].toNat=45:=by simpa[Nb]using f);clear f j i
      rcases o with⟨b,g⟩ |⟨b,g⟩ | b
      ·have c:decide ((a[k].toNat:Int) < 97)=false:=AP ah
       have e:decide ((122:Int) < (a[k].toNat:Int))=false:=AP ah;clear b g;go_wp2_with fail
       go_round
       case rel=>exact⟨k+1,by go_num,ah,n⟩
       case measure=>simp[intOf];omega
      ·have c:decide ((a[k].toNat:Int) < 97)=true:=AY ah
       have e:decide ((a[k].toNat:Int) < 48)=false:=AP ah;have h:decide ((57:Int) < (a[k].toNat:Int))=false:=AP ah;clear b g;go_wp2_with fail
       go_round
       case rel=>exact⟨k+1,by go_num,ah,n⟩
       case measure=>simp[intOf];omega
      ·have c:decide ((a[k].toNat:Int) < 97)=true:=AY ah
       have e:decide ((a[k].toNat:Int) < 48)=true:=AY ah;have h:((a[k].toNat:Int)!=45)=false:=bne_eq_false_iff_eq.2 ah;have l:((a[k].toNat:Int)==45)=true:=beq_iff_eq.2 ah;clear b;go_wp2_with fail
       go_round
       case rel=>exact⟨k+1,by go_num,ah,n⟩
       case measure=>simp[intOf];omega
     ·replace f:Nb a[k]=false:=by simpa using f
      have hF:Hid (qQ a.data.toList=false):=by show _=_;unfold qQ;rw[Fa (k:=k) (d.out ▸ m) (j.out ▸ f),Bool.and_false]
      have o:a[k].toNat < 45\/(45 < a[k].toNat/\a[k].toNat < 48)\/(57 < a[k].toNat/\a[k].toNat < 97)\/122 < a[k].toNat:=by
       have:=of_decide_eq_false f;omega
      clear f j i
      rcases o with b |⟨b,g⟩ |⟨b,g⟩ | b
      ·have c:decide ((a[k].toNat:Int) < 97)=true:=AY ah
       have e:decide ((a[k].toNat:Int) < 48)=true:=AY ah;have h:((a[k].toNat:Int)!=45)=true:=bne_iff_ne.2 ah;have l:((a[k].toNat:Int)==45)=false:=beq_eq_false_iff_ne.2 ah;clear b;go_wp2_with fail;go_ret;exact⟨by show Ending.returned (.bool false)=_;rw[hF.out],rfl⟩
      ·have c:decide ((a[k].toNat:Int) < 97)=true:=AY ah
       have e:decide ((a[k].toNat:Int) < 48)=true:=AY ah;have h:((a[k].toNat:Int)!=45)=true:=bne_iff_ne.2 ah;have l:((a[k].toNat:Int)==45)=false:=beq_eq_false_iff_ne.2 ah;clear b g;go_wp2_with fail;go_ret;exact⟨by show Ending.returned (.bool false)=_;rw[hF.out],rfl⟩
      ·have c:decide ((a[k].toNat:Int) < 97)=true:=AY ah
       have e:decide ((a[k].toNat:Int) < 48)=false:=AP ah;have h:((a[k].toNat:Int)!=45)=true:=bne_iff_ne.2 ah;have l:((a[k].toNat:Int)==45)=false:=beq_eq_false_iff_ne.2 ah;have f:decide ((57:Int) < (a[k].toNat:Int))=true:=AY ah;clear b g;go_wp2_with fail;go_ret;exact⟨by show Ending.returned (.bool false)=_;rw[hF.out],rfl⟩
      ·have c:decide ((a[k].toNat:Int) < 97)=false:=AP ah
       have e:decide ((a[k].toNat:Int) < 48)=false:=AP ah;have h:((a[k].toNat:Int)!=45)=true:=bne_iff_ne.2 ah;have l:((a[k].toNat:Int)==45)=false:=beq_eq_false_iff_ne.2 ah;have f:decide ((57:Int) < (a[k].toNat:Int))=true:=AY ah;have c:decide ((122:Int) < (a[k].toNat:Int))=true:=AY ah;clear b;go_wp2_with fail;go_ret;exact⟨by show Ending.returned (.bool false)=_;rw[hF.out],rfl⟩
    ·have hF:Hid (qQ a.data.toList=true):=by
      have:=i.out;rw[List.take_of_length_le (by rw[d.out];omega)]at this;show _=_;unfold qQ;rw[p.out,this];rfl
     have b:(a.size:Int)<=(k:Int):=ah;go_wp2_with fail;go_ret;exact⟨by show Ending.returned (.bool true)=_;rw[hF.out],rfl⟩
theorem KN(d:ByteArray):∀(b a:Nat) (c:List UInt8),d.size - a=b->(ByteArray.toList.loop d a c).length=c.length+b
 | 0,a,c,e=>by
  unfold ByteArray.toList.loop;rw[if_neg ah];simp
 | b+1,a,c,e=>by
  unfold ByteArray.toList.loop;rw[if_pos ah,KN d b (a+1) _ ah];simp;omega
theorem y8(a:ByteArray):a.toList.isEmpty=decide (a.size=0):=by
 have b:a.toList.length=a.size:=by
  unfold ByteArray.toList;rw[KN a a.size 0 [] rfl];simp
 rw[<-b];cases a.toList<;>simp
theorem qo(a:ByteArray)(hs:a.size<=140737488355328)(b:World):
  Calls prog 231 #[.string a] b λc d=>c=.returned (.bool (kr a.data.toList))/\b=d:=by
 have b:a.data.toList.length=a.size:=by simp
 by_cases h0:a.size=0
 ·have hF:Hid (kr a.data.toList=true):=by
   show _=_;rw[h0]at b;rw[List.eq_nil_of_length_eq_zero b];rfl
  (have d:a.toList.isEmpty=true:=by rw[y8];exact AY h0);clear hs b h0;(go_enter BM,ntmps231);go_wp2_with fail;go_ret;exact⟨by show Ending.returned (.bool true)=_;rw[hF.out],rfl⟩
 ·have hF:Hid (qQ a.data.toList=kr a.data.toList):=by
   show _=_;unfold qQ kr;congr 1;rw[decide_eq_decide];omega
  (have d:a.toList.isEmpty=false:=by rw[y8];exact AP h0);replace hs:=AA hs;clear h0 b;(go_enter BM,ntmps231);go_wp2_with (go_at_call 273;refine(Qp a hs _).mono ?_;rw[hF.out];rintro c a ⟨rfl,rfl⟩);go_ret;exact⟨rfl,rfl⟩
def fF(d:aj):Nat:=(d.map λb=>Lib.onesCount b.toNat).sum
theorem rR(a:aj)(b:Nat)(c:BitVec 8)(d:a[b]?=some c):fF (a.take (b+1))=fF (a.take b)+Lib.onesCount c.toNat:=by
 unfold fF;rw[List.take_add_one,d];simp
theorem qa(a:BitVec 8):Lib.onesCount a.toNat<=8:=Lib.onesCount_le8 ⟨a.toNat,a.isLt⟩
theorem oG:∀a:aj,fF a<=8*a.length
 | []=>by simp[fF]
 | b :: a=>by
  have c:=oG a;have a:=qa b;unfold fF at c ⊢;simp only[List.map_cons,List.sum_cons,List.length_cons];omega
theorem EX(b:aj)(hd:b.length=32)(d:World):
  bq 178 #[.agg (ak b).toArray] d (.int .i64 (fF b:Nat)):=by
 have i:=AA<|Below.aJ d (.cells (ak b).toArray 23)
 have e:=AA<|aL.new d 23 (ak b).toArray
 have f:Hid ((prog.info? 23).map (·.size)=some (ak b).toArray.size):=by show _=_;rw[List.size_toArray,aB,hd];exact kM
 replace hd:=AA hd
 obtain⟨g,h⟩:=aS ((ak b).toArray)
 rw[h.out]at e i f ⊢
 have j:Hid (∀(a:Nat) (c:BitVec 8),b[a]?=some c->a < 32->∀d,(Instr.index 23 (.agg g) (.int .i64 (a:Int))).run prog d=.ok (.int .u8 (b8 c)) d):=λa c l k d=>
  oZ g .i64 (a:Int) (.int .u8 (b8 c)) AB (λ_=>rfl) (lq underlying5) ah ah (by rw[<-h.out,List.getElem?_toArray];show(ak b)[a]?=_;unfold ak;rw[List.getElem?_map,l];rfl) d
 go_enter func178,ntmps178
 go_wp2_with (rw[aF 6];refine aM e f AB ?_)
 go_loop [3,7] (λg d=>∃a:Nat,d=.int .i64 (a:Int)/\g=.int .i64 (fF (b.take a):Nat)/\a<=32) (λ_ d=>32 - (intOf d).toNat)
 case atStart=>exact⟨0,rfl,rfl,ah⟩
 case round=>
  obtain⟨a,rfl,rfl,k⟩:=hrel;by_cases d:a < 32
  ·obtain⟨c,hx⟩:∃c,Hid (b[a]?=some c):=⟨_,AV (hd.out ▸ d)⟩
   have g:=j a c hx d;have g:=AA (rR b a c hx);have h:=oG (b.take a);have l:=qa c;rw[List.length_take,hd.out]at h;obtain⟨n,m⟩:=aS (fF (b.take a));rw[m.out]at h g;rw[m.out];have m:(n:Int)<=256:=ah;have o:=kz c;have m:=j3 c;(have p:Hid ((b8 c).toNat=c.toNat):=by show _=_;unfold b8;simp);obtain⟨n,m⟩:=aS (Lib.onesCount c.toNat);rw[m.out]at l g;have q:(n:Int)<=8:=ah;have n:(a:Int) < 32:=ah;have n:(0:Int)<=(a:Int):=ah;(have n:Hid (a+1<=32):=by show _<=_;omega);clear k d j l e f h;go_wp2_with (go_at_call 243;refine(Tryz.bits_OnesCount8 (b8 c) _ o ah).mono ?_;rw[p.out,m.out];rintro c d ⟨rfl,rfl⟩)
   go_round
   case rel=>exact⟨a+1,by go_num,by rw[g.out];go_num,n⟩
   case measure=>(have:=n.out;simp[intOf];omega)
  ·have c:Hid (fF (b.take a)=fF b):=by show _=_;rw[List.take_of_length_le (by rw[hd.out];omega)]
   have b:(32:Int)<=(a:Int):=ah;rw[c.out];go_wp2_with fail;go_ret;exact⟨rfl,i⟩
theorem lQ(a:ByteArray)(b:World):Calls prog 85 #[.string a] b λc d=>c=.returned (.bool (kr a.data.toList))/\b=d:=by
 (have e:Hid (a.data.toList.length=a.size):=by show _=_;simp);by_cases b:64 < a.size
 ·have hF:Hid (kr a.data.toList=false):=by show _=_;unfold kr;rw[e.out,decide_eq_false ah];rfl
  have c:(64:Int) < (a.size:Int):=ah;clear e b;(go_enter BG,ntmps85);go_wp2_with fail;go_ret;exact⟨by show Ending.returned (.bool false)=_;rw[hF.out],rfl⟩
 ·have c:decide ((64:Int) < (a.size:Int))=false:=AP ah
  have q:Hid (decide (a.data.toList.length<=64)=true):=e.out ▸ AY ah;have d:(a.size:Int)<=64:=ah;clear b;(go_enter BG,ntmps85);go_wp2_with fail;clear c
  go_loop [3] (λb=>∃k:Nat,b=.int .i64 (k:Int)/\k<=a.size/\Hid ((a.data.toList.take k).all Nb=true)) (λb=>a.size - (intOf b).toNat)
  case atStart=>exact⟨0,rfl,AX _,by show _=_;simp⟩
  case round=>
   obtain⟨k,rfl,b,h⟩:=hrel;by_cases m:k < a.size
   ·have i:Hid (a.data.toList[k]'(e.out ▸ m)=a[k]):=rfl
    by_cases d:Nb a[k]=true
    ·have n:=AA<|Fb (e.out ▸ m) h (i.out ▸ d)
     (have o:(97<=a[k].toNat/\a[k].toNat<=122)\/(48<=a[k].toNat/\a[k].toNat<=57)\/a[k].toNat=45:=by simpa[Nb]using d);clear d i h
     rcases o with⟨b,f⟩ |⟨b,f⟩ | b
     ·have g:decide ((97:Int)<=(a[k].toNat:Int))=true:=AY ah
      have c:decide ((a[k].toNat:Int)<=122)=true:=AY ah;clear b f;go_wp2_with fail
      go_round
      case rel=>exact⟨k+1,by go_num,ah,n⟩
      case measure=>simp[intOf];omega
     ·have g:decide ((97:Int)<=(a[k].toNat:Int))=false:=AP ah
      have c:decide ((48:Int)<=(a[k].toNat:Int))=true:=AY ah;have p:decide ((a[k].toNat:Int)<=57)=true:=AY ah;clear b f;go_wp2_with fail
      go_round
      case rel=>exact⟨k+1,by go_num,ah,n⟩
      case measure=>simp[intOf];omega
     ·have g:decide ((97:Int)<=(a[k].toNat:Int))=false:=AP ah
      have c:decide ((48:Int)<=(a[k].toNat:Int))=false:=AP ah;have j:((a[k].toNat:Int)==45)=true:=beq_iff_eq.2 ah;have l:((a[k].toNat:Int)!=45)=false:=bne_eq_false_iff_eq.2 ah;clear b;go_wp2_with fail
      go_round
      case rel=>exact⟨k+1,by go_num,ah,n⟩
      case measure=>simp[intOf];omega
    ·replace d:Nb a[k]=false:=by simpa using d
     have hF:Hid (kr a.data.toList=false):=by show _=_;unfold kr;rw[Fa (k:=k) (e.out ▸ m) (i.out ▸ d),Bool.and_false]
     have o:a[k].toNat < 45\/(45 < a[k].toNat/\a[k].toNat < 48)\/(57 < a[k].toNat/\a[k].toNat < 97)\/122 < a[k].toNat:=by
      have:=of_decide_eq_false d;omega
     clear d i h
     rcases o with b |⟨b,f⟩ |⟨b,f⟩ | b
     ·have g:decide ((97:Int)<=(a[k].toNat:Int))=false:=AP ah
      have c:decide ((48:Int)<=(a[k].toNat:Int))=false:=AP ah;have j:((a[k].toNat:Int)==45)=false:=beq_eq_false_iff_ne.2 ah;have l:((a[k].toNat:Int)!=45)=true:=bne_iff_ne.2 ah;clear b;go_wp2_with fail;go_ret;exact⟨by show Ending.returned (.bool false)=_;rw[hF.out],rfl⟩
     ·have g:decide ((97:Int)<=(a[k].toNat:Int))=false:=AP ah
      have c:decide ((48:Int)<=(a[k].toNat:Int))=false:=AP ah;have j:((a[k].toNat:Int)==45)=false:=beq_eq_false_iff_ne.2 ah;have l:((a[k].toNat:Int)!=45)=true:=bne_iff_ne.2 ah;clear b f;go_wp2_with fail;go_ret;exact⟨by show Ending.returned (.bool false)=_;rw[hF.out],rfl⟩
     ·have g:decide ((97:Int)<=(a[k].toNat:Int))=false:=AP ah
      have c:decide ((48:Int)<=(a[k].toNat:Int))=true:=AY ah;have p:decide ((a[k].toNat:Int)<=57)=false:=AP ah;have j:((a[k].toNat:Int)==45)=false:=beq_eq_false_iff_ne.2 ah;have l:((a[k].toNat:Int)!=45)=true:=bne_iff_ne.2 ah;clear b f;go_wp2_with fail;go_ret;exact⟨by show Ending.returned (.bool false)=_;rw[hF.out],rfl⟩
     ·have g:decide ((97:Int)<=(a[k].toNat:Int))=true:=AY ah
      have c:decide ((a[k].toNat:Int)<=122)=false:=AP ah;have p:decide ((48:Int)<=(a[k].toNat:Int))=true:=AY ah;have c:decide ((a[k].toNat:Int)<=57)=false:=AP ah;have j:((a[k].toNat:Int)==45)=false:=beq_eq_false_iff_ne.2 ah;have l:((a[k].toNat:Int)!=45)=true:=bne_iff_ne.2 ah;clear b;go_wp2_with fail;go_ret;exact⟨by show Ending.returned (.bool false)=_;rw[hF.out],rfl⟩
   ·have hF:Hid (kr a.data.toList=true):=by
     have:=h.out;rw[List.take_of_length_le (by rw[e.out];omega)]at this;show _=_;unfold kr;rw[q.out,this];rfl
    have b:(a.size:Int)<=(k:Int):=ah;go_wp2_with fail;go_ret;exact⟨by show Ending.returned (.bool true)=_;rw[hF.out],rfl⟩
theorem Qf:Lib.onesCount 0=0:=by decide+kernel
theorem Na:∀a:Fin 256,Lib.onesCount a.val=a.val % 2+Lib.onesCount (a.val / 2):=by decide+kernel
theorem Qg(a:Nat)(b:a < 256):Lib.onesCount a=a % 2+Lib.onesCount (a / 2):=Na ⟨a,b⟩
theorem oH(c:aj)(hd:c.length=32)(d:World):
  bq 86 #[.agg (ak c).toArray] d (.int .i64 (fF c:Nat)):=by
 have p:=AA<|Below.aJ d (.cells (ak c).toArray 23)
 have e:=AA<|aL.new d 23 (ak c).toArray
 have l:Hid (∀(b:Nat) (a:BitVec 8),c[b]?=some a->(d.alloc (.cells (ak c).toArray 23)).cell? ⟨d.heap.size,b,none⟩=some (.int .u8 (b8 a))):=λb a hx=>(e.cell b).trans (by rw[List.getElem?_toArray];unfold ak;rw[List.getElem?_map,hx];rfl)
 obtain⟨d,f⟩:∃d,(ak c).toArray=d:=⟨_,rfl⟩
 rw[f]at e p l ⊢
 clear f e
 replace hd:=AA hd
 go_enter BO,ntmps86
 go_wp2_with fail
 go_loop [3,4] (λm e=>∃b:Nat,e=.int .i64 (b:Int)/\m=.int .i64 (fF (c.take b):Nat)/\Hid (b<=32)) (λ_ e=>32 - (intOf e).toNat)
 case atStart=>exact⟨0,rfl,rfl,by show _<=_;omega⟩
 case round=>
  obtain⟨b,rfl,rfl,d⟩:=hrel;by_cases f:b < 32
  ·obtain⟨a,hx⟩:∃a,Hid (c[b]?=some a):=⟨_,AV (hd.out ▸ f)⟩
   have n:=AA (rR c b a hx);have d:=oG (c.take b);have q:=qa a;rw[List.length_take,hd.out]at d;obtain⟨g,h⟩:=aS (fF (c.take b));rw[h.out]at d n;rw[h.out];have v:=l b a hx;have w:=kz a;have x:=j3 a;have r:Hid (b8 a=((a.toNat:Nat):Int)):=rfl;obtain⟨i,j⟩:=aS (Lib.onesCount a.toNat);rw[j.out]at q n;(have s:Hid (g<=256/\i<=8):=by show _/\_;omega);have h:(b:Int) < 32:=ah;have h:(0:Int)<=(b:Int):=ah;(have t:Hid (b+1<=32):=by show _<=_;omega);obtain⟨k,u⟩:∃k:Nat,Hid (a.toNat=k):=⟨_,AA rfl⟩;(have y:Hid (k<=255):=by have:=a.isLt;have:=u.out;show _<=_;omega);obtain⟨h,o⟩:=aS (Lib.onesCount);have z:Hid (h 0=0):=o.out ▸ Qf;(have A:Hid (∀a,a < 256->h a=a % 2+h (a / 2)):=λa d=>by rw[<-o.out];exact Qg a d);rw[u.out]at r j;rw[o.out]at j;rw[r.out]at v w x;clear f q d l;go_wp2_with fail
   go_loop [3,5] (λm e=>∃d a:Nat,m=.int .i64 (d:Int)/\e=.int .i64 (a:Int)/\Hid (d+h a=g+i)/\Hid (a<=255)) (λ_ e=>(intOf e).toNat)
   case atStart=>exact⟨g,k,rfl,by first| rfl |(congr 1;omega),by show _=_;rw[j.out],y⟩
   case round=>
    obtain⟨d,a,rfl,rfl,e,j⟩:=hrel;by_cases h0:a=0
    ·have k:Hid (d=g+i):=by have:=e.out;rw[h0,z.out]at this;exact this
     have l:¬((0:Int) < (a:Int)):=ah;have m:(d:Int)<=264:=dn k s;clear h0 e;go_wp2_with fail
     go_round
     case rel=>exact⟨b+1,by go_num,by rw[n.out,k.out],t⟩
     case measure=>(have:=t.out;simp[intOf];omega)
    ·have l:(0:Int) < (a:Int):=ah
     have k:=AA (A a (aC j));have m:(d:Int)<=264:=dn e s;have l:(a:Int)<=255:=aC j;(have m:(a:Int).tmod 2=((a % 2:Nat):Int):=by rw[Int.tmod_eq_emod_of_nonneg ah];omega);(have n:(a:Int).tdiv 2=((a / 2:Nat):Int):=by rw[Int.tdiv_eq_ediv_of_nonneg ah];omega);(have f:Hid (a / 2 < a/\a / 2<=255):=by have:=j.out;show _/\_;omega);(have j:Hid (d+a % 2+h (a / 2)=g+i):=by have:=e.out;have:=k.out;show _=_;omega);obtain⟨g,i⟩:∃g,a % 2=g:=⟨_,rfl⟩;obtain⟨h,l⟩:∃h,a / 2=h:=⟨_,rfl⟩;have a:(g:Int)<=1:=ah;have a:(h:Int)<=255:=ah;rw[i]at m j;rw[l]at n j f;clear h0 e k i l;go_wp2_with fail
     go_round
     case rel=>exact⟨d+g,h,by go_num,by go_num,j,f.2⟩
     case measure=>(have:=f.out;simp[intOf];omega)
  ·have a:Hid (fF (c.take b)=fF c):=by show _=_;rw[List.take_of_length_le (by rw[hd.out];omega)]
   have c:(32:Int)<=(b:Int):=ah;rw[a.out];go_wp2_with fail;go_ret;exact⟨rfl,p⟩
def aX(s:ByteArray):aj:=s.data.toList.map λb=>b.toBitVec
theorem qO(a:ByteArray):(aX a).length=a.size:=by simp[aX]
theorem mq{b:World}{g C:Nat}{T:TypeId}{fz:Nat×Nat}{a:ByteArray}(c:b.heap[g]?=some (.cells (bytesRow a C) T fz)):ax b 1 (some ⟨g,0,none⟩) (aX a).length (ak (aX a)):=by
 refine⟨by rw[aB,Nat.mul_one],λ_=>⟨g,0,rfl,(Ay.1 c).1,λb u d=>?_⟩⟩
 have e:b < a.size:=by
  have:=(AU.1 d).1;rwa[aB,qO]at this
 rw[Nat.zero_add,cell_of_row _ _ _ _ _ _ c,<-d];unfold bytesRow ak aX;have hd:b < a.data.size:=e;rw[Array.getElem?_append_left (by simpa using hd)];simp;have b:(λa:UInt8=>Value.int .u8 (a.toNat:Int))=(iF∘λa:UInt8=>a.toBitVec):=rfl;rw[b]
section
variable {w0 w:World} {g:Nat} {r:Option Nat} {l:aj}
theorem UZ(b:ByteArray)(c:Nat)(e:Nat×Nat){a k:World}(f h:TypeId)(v:((a.alloc (.cells (bytesRow b c) f e)).alloc (.cells #[.slice (some ⟨a.heap.size,0,none⟩) b.size c] h)).drew=k)(D:l.length+b.size<=140737488355328)(o:aO w0 g r l a):
  Calls prog 232 #[.pointer (some ⟨g,0,none⟩),.slice (some ⟨a.heap.size+1,0,none⟩) 1 1] k λd p=>d=.returned (.tuple #[])/\aO w0 g r (l++aX b) p:=by
 subst v
 have E:aO w0 g r l (((a.alloc (.cells (bytesRow b c) f e)).alloc (.cells #[.slice (some ⟨a.heap.size,0,none⟩) b.size c] h)).drew):=((o.alloc _).alloc _).drew
 obtain⟨m,h0,x,y⟩:=o
 have F:=h0.lt
 have q:∀i,m=some i->i < a.heap.size:=by
  obtain⟨G,_,_,_,n⟩:=h0;exact λi d=>(n i d).2
 have s:(a.alloc (.cells (bytesRow b c) f e)).heap.size=a.heap.size+1:=by simp
 have z:(((a.alloc (.cells (bytesRow b c) f e)).alloc (.cells #[.slice (some ⟨a.heap.size,0,none⟩) b.size c] h)).drew).heap[a.heap.size]?=some (.cells (bytesRow b c) f e):=by
  show((a.alloc (.cells (bytesRow b c) f e)).alloc _).heap[a.heap.size]?=_;rw[Below.heap_alloc _ _ _ (by rw[s];omega)];exact heap_alloc_new a _
 have t:aL (((a.alloc (.cells (bytesRow b c) f e)).alloc (.cells #[.slice (some ⟨a.heap.size,0,none⟩) b.size c] h)).drew) (a.heap.size+1) h #[.slice (some ⟨a.heap.size,0,none⟩) b.size c]:=by
  have:=aL.new (a.alloc (.cells (bytesRow b c) f e)) h #[.slice (some ⟨a.heap.size,0,none⟩) b.size c];rw[s]at this;exact this.drew
 have A:kX (((a.alloc (.cells (bytesRow b c) f e)).alloc (.cells #[.slice (some ⟨a.heap.size,0,none⟩) b.size c] h)).drew) g m l:=((h0.alloc _).alloc _).drew
 have B:au (λi=>i=g\/some i=r) w0 (((a.alloc (.cells (bytesRow b c) f e)).alloc (.cells #[.slice (some ⟨a.heap.size,0,none⟩) b.size c] h)).drew):=((x.alloc _).alloc _).drew
 generalize(((a.alloc (.cells (bytesRow b c) f e)).alloc (.cells #[.slice (some ⟨a.heap.size,0,none⟩) b.size c] h)).drew)=k at*
 refine(uD g m l [aX b] 1 rfl (some ⟨a.heap.size+1,0,none⟩) 1 k (by simp[qO];omega) ah A (λ_=>⟨a.heap.size+1,0,rfl,t.lt,ah,(λd=>by have:=q _ d.symm;omega),λu H j=>?_⟩)).mono λd p ⟨C,hx⟩=>⟨C,?_⟩
 ·match u,j with
  | 0,j=>
   obtain rfl:=AL j;refine⟨some ⟨a.heap.size,0,none⟩,c,(t.cell 0).trans (by rw[qO];rfl),mq z,(λn=>by cases n),λ_ I d=>?_⟩;obtain rfl:=AL d;exact⟨λd=>by simp at d;omega,λd=>by have:=q _ d.symm;simp at this⟩
  | u+1,j=>simp at j
 ·have:=aO.xM B y hx
  simpa using this
theorem G9(a:ByteArray)(hs:a.size<=64)(b:l.length+1+a.size<=140737488355328)(c:aO w0 g r l w):
  Calls prog 154 #[.pointer (some ⟨g,0,none⟩),.string a] w λd e=>d=.returned (.tuple #[])/\aO w0 g r (l++[kb a.size]++aX a) e:=by
 have f:(a.size:Int)<=64:=ah
 have f:(a.size:Int) % 256=(a.size:Int):=ah
 have f:Hid (b8 (kb a.size)=(a.size:Int)):=by
  show _=_;unfold b8 kb;rw[BitVec.toNat_ofInt];omega
 have h:=λe=>run_bytes_of_string e _ _ _ a underlying9 underlying27 underlying5
 replace c:=AA c
 replace b:=AA b
 replace hs:=AA hs
 go_enter func154,ntmps154
 go_wp2_with (first
  |(go_at_call 131;refine(ko (a.size:Int) (kb a.size) f (aC b) c).mono ?_;rintro d f ⟨rfl,e⟩;replace e:=AA e;clear c)
  |(go_at_call 232;generalize f:grownCap _ a.size 0 5=h;generalize c:World.drew _=i;refine(UZ a h _ _ _ c (by have:=b.out;simp;omega) e).mono ?_;rintro d b ⟨rfl,a⟩;replace a:=AA a;clear c f))
 go_end0
 exact⟨rfl,a⟩
end
section
variable {w0 w:World} {g:Nat} {r:Option Nat} {l:aj}
theorem Hu(a:Bool)(c:l.length+1<=140737488355328)(b:aO w0 g r l w):
  Calls prog 155 #[.pointer (some ⟨g,0,none⟩),.bool a] w λd e=>d=.returned (.tuple #[])/\aO w0 g r (l++[if a then 1 else 0]) e:=by
 replace b:=AA b
 replace c:=AA c
 cases a
 ·go_enter func155,ntmps155
  go_wp2_with (go_at_call 131;refine(ko 0 0 rfl c b).mono ?_;rintro d e ⟨rfl,a⟩;replace a:=AA a;clear b)
  go_end0
  exact⟨rfl,a⟩
 ·go_enter func155,ntmps155
  go_wp2_with (go_at_call 131;refine(ko 1 1 rfl c b).mono ?_;rintro d e ⟨rfl,a⟩;replace a:=AA a;clear b)
  go_end0
  exact⟨rfl,a⟩
end
theorem jC{g:Program}{h:Oper}{i:Act}{a:World}{K:Act->World->Prop}{p:Exit->Act->World->Prop}(b:TypeId)(l:Operand)(q:h.op=.load b l)
  (j k:Nat)(hx:i.eval l=.pointer (some ⟨j,k,none⟩))(e:List Value)(d:TypeDesc)(r:∀m o,e[m]?=some o->a.cell? ⟨j,k+m,none⟩=some o)
  (l:g.underlying b=some d)(hd:(match d with | .struct _ | .array _ _=>true | _=>false)=true)(m:(g.info? b).map (·.size)=some e.length)
  (o:K (i.put h.dst (.agg e.toArray)) a):h.wp g i a K p:=by
 unfold Oper.wp execOp
 simp only[q,hx,Instr.loadAt,Instr.sureAddr,Sem.run_bind,Sem.run_pure,Result.andThen_ok,l8 a j k b e d r l hd m]
 exact o
theorem iR{a:Program}{h:Array Oper}{rest:List Oper}{o:Oper}{b:Act}{i:World}{m:Exit->Act->World->Prop}(r:Region.wanted o (yielded h b.tmps)=true)(e:TypeId)(j:Operand)(t:o.op=.load e j)
  (k l:Nat)(hx:b.eval j=.pointer (some ⟨k,l,none⟩))(g:List Value)(d:TypeDesc)(u:∀p q,g[p]?=some q->i.cell? ⟨k,l+p,none⟩=some q)
  (p:a.underlying e=some d)(hd:(match d with | .struct _ | .array _ _=>true | _=>false)=true)(q:(a.info? e).map (·.size)=some g.length)
  (v:wpList a h m rest (b.put o.dst (.agg g.toArray)) i):wpList a h m (o :: rest) b i:=
 wpList_step λK a=>by
  rw[if_pos r];exact jC e j t k l hx g d u p hd q (a _ _ v)
def dH(s:ByteArray)(f:Bool)(ent:List Value)(d:aj)(A:Option Addr)(n c:Nat):List Value:=[.string s,.bool f]++ent++ak d++[.slice A n c]
def iD:List Value:=.int .i64 0 :: ak (List.replicate 32 0)
theorem XT(a:World):(binOp .neq 50 (.agg iD.toArray) (.agg Jk)).run prog a=.ok (.bool false) a:=by kernel_rfl
section
variable {s:ByteArray} {f:Bool} {ent:List Value} {d:aj} {A:Option Addr} {n c:Nat}
theorem pJ:(dH s f ent d A n c)[0]?=some (.string s):=rfl
theorem nC:(dH s f ent d A n c)[1]?=some (.bool f):=rfl
theorem rU(a:Nat)(b:Value)(e:ent[a]?=some b):(dH s f ent d A n c)[2+a]?=some b:=by
 have a:=(AU.1 e).1;unfold dH;rw[List.append_assoc,List.append_assoc,List.getElem?_append_right aZ,List.getElem?_append_left (by simp;omega)];simpa using e
theorem lU(a:ent.length=33)(b:Nat)(e:Value)(g:(ak d)[b]?=some e):(dH s f ent d A n c)[35+b]?=some e:=by
 have b:=(AU.1 g).1;unfold dH;rw[List.append_assoc,List.getElem?_append_right (by simp[a]),List.getElem?_append_left (by simp[a];omega)];simpa[a]using g
theorem qc(a:ent.length=33)(hd:d.length=32):(dH s f ent d A n c)[67]?=some (.slice A n c):=by
 unfold dH;rw[List.getElem?_append_right (by simp[a,aB,hd])];simp[a,aB,hd]
theorem qd(a:ent.length=33)(hd:d.length=32):(dH s f ent d A n c).length=68:=by simp[dH,a,aB,hd]
end
theorem Nw(s:ByteArray)(hs:s.size<=140737488355328)(d:aj)(hd:d.length=32)(A:Option Addr)(n c:Nat)(x l:Bool)(p:kr s.data.toList=x)(y:((fF d:Int)==(n:Int))=l)(h:World):
  Calls prog 153 #[.agg (dH s false iD d A n c).toArray] h λq b=>q=.returned (.bool (x&&l))/\Below h.heap.size h b:=by
 obtain⟨i,k⟩:∃i:Array Value,(dH s false iD d A n c).toArray=i:=⟨_,rfl⟩
 have r:i[0]?=some (.string s):=by rw[<-k,List.getElem?_toArray];exact pJ
 have z:i[1]?=some (.bool false):=by rw[<-k,List.getElem?_toArray];exact nC
 have H:Hid (∀g v,iD[g]?=some v->i[2+g]?=some v):=λg v j=>by rw[<-k,List.getElem?_toArray];exact rU g v j
 have I:Hid (∀g v,(ak d)[g]?=some v->i[35+g]?=some v):=λg v j=>by rw[<-k,List.getElem?_toArray];exact lU rfl g v j
 have J:Hid (i[67]?=some (.slice A n c)):=by show _=_;rw[<-k,List.getElem?_toArray];exact qc rfl hd
 rw[k]
 clear k
 have t:=AA<|aL.new h 52 i
 have u:=AA<|Below.aJ h (.cells i 52)
 have P:=(t.out.cell 1).trans z
 have L:=XT
 have M:Hid ((prog.info? 50).map (·.size)=some iD.length):=by show _=_;kernel_rfl
 have N:=AA<|sM kM (by rw[aB,hd])
 replace hs:=AA hs
 replace hd:=AA hd
 replace p:=AA p
 replace y:=AA y
 replace r:=AA r
 replace z:=AA z
 obtain⟨E,F⟩:∃E,Hid (iD.toArray=E):=⟨_,AA rfl⟩
 rw[F.out]at L
 go_enter BU,ntmps153
 go_wp2_with (rw[bY 23];refine iR (o:=⟨some 23,_,_,_,_,_⟩) (by rfl) 50 (.tmp 22) rfl h.heap.size 2 rfl iD _ (λg v j=>(t.cell (2+g)).trans (H g v j)) Al rfl M ?_;rw[F.out])
 have w:=AA<|λb (e:aA (h.alloc (.cells i 52)) b) g v (j:i[g]?=some v)=>((show aL b h.heap.size 52 i from(e.below.block _ t.out.lt).trans t.out).cell g).trans j
 cases x
 ·refine cB (aA (h.alloc (.cells i 52))) (aA.jD ((Below.refl _ _).drew)) ?_
  refine bD (v:=.pointer (some ⟨h.heap.size,0,none⟩)) rfl (λb e=>by go_simp) ?_;(intro K a;go_simp;refine a _ ?_;clear a K);refine bD (v:=.string s) rfl (λb e=>by have B:=w.out b e 0 _ r.out;go_simp) ?_;(intro K a;go_simp;refine a _ ?_;clear a K);refine MV (v:=.bool false) (args:=#[.string s]) rfl _ _ rfl rfl BM bH bH (λb e=>(qo s hs.out b).mono (λq G ⟨m,C⟩=>⟨by rw[m,p.out],by rw[<-C];exact e⟩)) ?_;(intro K a;go_simp;refine a _ ?_;clear a K);refine xU rfl (.tmp 30) rfl ?_;(intro K a;go_simp;refine a _ ?_;clear a K);refine eX rfl ?_;(intro K a;go_simp;refine a _ ?_;clear a K);refine eX rfl ?_;(intro K a;go_simp;refine a _ ?_;clear a K);refine eX rfl ?_;(intro K a;go_simp;refine a _ ?_;clear a K);refine eX rfl ?_;(intro K a;go_simp;refine a _ ?_;clear a K);refine eX rfl ?_;(intro K a;go_simp;refine a _ ?_;clear a K);refine eX rfl ?_;(intro K a;go_simp;refine a _ ?_;clear a K);refine eX rfl ?_;(intro K a;go_simp;refine a _ ?_;clear a K);refine bD (v:=.bool false) rfl (λb e=>by go_simp) ?_;(intro K a;go_simp;refine a _ ?_;clear a K);refine bD (v:=.bool false) rfl (λb e=>by go_simp) ?_;(intro K a;go_simp;refine a _ ?_;clear a K);refine bR ?_;intro b e;(have D:=AA<|u.out.trans (e.below.mono u.out.size));go_wp2_with fail;go_ret;exact⟨rfl,D.out⟩
 ·refine cB (aA (h.alloc (.cells i 52))) (aA.jD ((Below.refl _ _).drew)) ?_
  refine bD (v:=.pointer (some ⟨h.heap.size,0,none⟩)) rfl (λb e=>by go_simp) ?_;(intro K a;go_simp;refine a _ ?_;clear a K);refine bD (v:=.string s) rfl (λb e=>by have B:=w.out b e 0 _ r.out;go_simp) ?_;(intro K a;go_simp;refine a _ ?_;clear a K);refine MV (v:=.bool true) (args:=#[.string s]) rfl _ _ rfl rfl BM bH bH (λb e=>(qo s hs.out b).mono (λq G ⟨m,C⟩=>⟨by rw[m,p.out],by rw[<-C];exact e⟩)) ?_;(intro K a;go_simp;refine a _ ?_;clear a K);refine xU rfl (.tmp 30) rfl ?_;(intro K a;go_simp;refine a _ ?_;clear a K);refine bD (v:=.pointer (some ⟨h.heap.size,35,none⟩)) rfl (λb e=>by go_simp) ?_;(intro K a;go_simp;refine a _ ?_;clear a K);refine zT rfl 23 (.tmp 32) rfl h.heap.size 35 rfl (ak d) _ (λb e g v j=>w.out b e (35+g) v (I.out g v j)) AB rfl N.out ?_;(intro K a;go_simp;refine a _ ?_;clear a K);refine MV (v:=.int .i64 (fF d:Nat)) (args:=#[.agg (ak d).toArray]) rfl _ _ rfl rfl func178 bH bH (λb e=>(EX d hd.out b).mono (λq G ⟨m,O⟩=>⟨m,e.next O⟩)) ?_;(intro K a;go_simp;refine a _ ?_;clear a K);refine bD (v:=.pointer (some ⟨h.heap.size,67,none⟩)) rfl (λb e=>by go_simp) ?_;(intro K a;go_simp;refine a _ ?_;clear a K);refine bD (v:=.slice A n c) rfl (λb e=>by have B:=w.out b e 67 _ J.out;go_simp) ?_;(intro K a;go_simp;refine a _ ?_;clear a K);refine bD (v:=.int .i64 (n:Int)) rfl (λb e=>by go_simp) ?_;(intro K a;go_simp;refine a _ ?_;clear a K);refine bD (v:=.bool l) rfl (λb e=>by have B:=y.out;go_simp) ?_;(intro K a;go_simp;refine a _ ?_;clear a K);refine bD (v:=.bool l) rfl (λb e=>by go_simp) ?_;(intro K a;go_simp;refine a _ ?_;clear a K);refine bD (v:=.bool l) rfl (λb e=>by go_simp) ?_;(intro K a;go_simp;refine a _ ?_;clear a K);refine bR ?_;intro b e;(have D:=AA<|u.out.trans (e.below.mono u.out.size));go_wp2_with fail;go_ret;exact⟨rfl,D.out⟩
def qW(s:ByteArray)(d:aj)(ds:List aj):aj:=[50]++[kb s.size]++aX s++[0]++d++ds.flatten
theorem Cm(c:ByteArray)(hs:c.size<=64)(s:kr c.data.toList=true)(a:aj)(hd:a.length=32)(k:List aj)(g:Nat)(u:k.length=g)(v:∀a∈k,a.length=32)(p:fF a=g)(m:Option Addr)(q:Nat)(d:World)(r:ax d 32 m g (k.flatMap ak)):
  Calls prog 89 #[.agg (dH c false iD a m g q).toArray] d λf e=>∃b,f=.returned (.tuple #[b,.int .i64 0])/\av d e/\e.ownsRow d.heap.size 5 1 b (35+c.size+32*g) (ak (qW c a k)):=by
 have t:=AA (λe=>Nw c ah a hd m g q true true s (by rw[p];simp) e)
 obtain⟨i,l⟩:∃i:Array Value,(dH c false iD a m g q).toArray=i:=⟨_,rfl⟩
 have K:Hid (i[0]?=some (.string c)):=by show _=_;rw[<-l,List.getElem?_toArray];exact pJ
 have A:Hid (i[1]?=some (.bool false)):=by show _=_;rw[<-l,List.getElem?_toArray];exact nC
 have L:Hid (∀h b,(ak a)[h]?=some b->i[35+h]?=some b):=λh b j=>by rw[<-l,List.getElem?_toArray];exact lU rfl h b j
 have M:Hid (i[67]?=some (.slice m g q)):=by show _=_;rw[<-l,List.getElem?_toArray];exact qc rfl hd
 have G:Hid ((prog.info? 52).map (·.size)=some i.size):=by show _=_;rw[<-l,List.size_toArray,qd rfl hd];kernel_rfl
 rw[l]at t ⊢
 clear l
 have w:g<=256:=by rw[<-p];have:=oG a;omega
 have y:=AA<|aL.new d 52 i
 have C:=AA<|Below.aJ d (.cells i 52)
 have D:Hid ((d.alloc (.cells i 52)).heap.size=d.heap.size+1):=by show _=_;simp
 have J:=AA<|λe (z:av d e)=>r.below z
 have N:Hid (∀n,d.heap.size<=n->0 < g->∀l,m=some l->l.block≠n/\some l.block≠none):=λn E x l f=>by
  obtain⟨l,o,n,z,_⟩:=r.2 ah;rw[f]at n;(injection n with n);subst n;exact⟨by simp;omega,by simp⟩
 have O:=AA<|sM kM (by rw[aB,hd])
 have P:Hid (∀b∈[ak a],b.length=32):=by intro b j;simp only[List.mem_singleton]at j;rw[j,aB,hd]
 have Q:Hid (∀l∈[a],l.length=32):=by intro b j;simp only[List.mem_singleton]at j;rw[j,hd]
 obtain⟨R,E⟩:=bG (([ak a].flatten).toArray)
 have S:Hid (([]:aj)++[50]++[kb c.size]++aX c++[if false=true then 1 else 0]++[a].flatten++k.flatten=qW c a k):=by show _=_;simp[qW]
 have F:Hid ((qW c a k).length=35+c.size+32*g):=by show _=_;simp only[qW,List.length_append,List.length_cons,List.length_nil,qO,hd,qY k v,u];omega
 have z:=AA (qO c)
 replace hs:=AA hs
 replace u:=AA u
 replace hd:=AA hd
 replace v:=AA v
 replace w:=AA w
 clear r p s
 go_enter func89,ntmps89
 go_wp2_with (first
  |(rw[aF 5];refine aM y G Au ?_)
  |(go_at_call 153;refine(t _).mono ?_;rintro f l ⟨rfl,r⟩;rw[D.out]at r;have G:=(r.block d.heap.size ah).trans y;have s:=C.trans (r.mono ah);have H:=AA (kX.new l).refl;have I:=AA ((J l s).alloc (.cells #[.slice none 0 0] 313));have J:=AA (N l.heap.size s.size);have N:d.heap.size < l.heap.size:=(dn r.size D);have p:Hid (∀e t,aO (l.alloc (.cells #[.slice none 0 0] 313)) l.heap.size none t e->∀h b,i[h]?=some b->e.cell? ⟨d.heap.size,h,none⟩=some b):=(λe t x h b j=>((x.blk (aL.alloc G _) ah aZ).cell h).trans j);have i:Hid (∀e t,aO (l.alloc (.cells #[.slice none 0 0] 313)) l.heap.size none t e->av d e):=(λe t x=>(s.alloc s.size _).trans (x.below (λ_ f=>by cases f) (B:=d.heap.size) ah (by simp;omega)));clear r G s N y C)
  |(go_at_call 130;refine(jy _).mono ?_;rintro f l ⟨rfl,rfl⟩)
  |(go_at_call 131;refine(ko 50 50 rfl aZ H).mono ?_;rintro f e ⟨rfl,d⟩;have n:=p e _ d 0 _ K;replace d:=AA d;clear H)
  |(go_at_call 154;refine(G9 c hs (by have:=hs.out;simp;omega) d).mono ?_;rintro f r ⟨rfl,e⟩;have s:=p r _ e 1 _ A;replace e:=AA e;clear d n)
  |(go_at_call 155;refine(Hu false (by have:=hs.out;have:=z.out;simp;omega) e).mono ?_;rintro f n ⟨rfl,d⟩;have t:=p n _ d 1 _ A;have r:=AA (λh b j=>p n _ d (35+h) b (L h b j));replace d:=AA d;clear e s)
  |(rw[aF 32];refine bS r O AB ?_)
  |(rw[bY 33];refine dL (o:=⟨some 33,_,_,_,_,_⟩) rfl 44 23 1 _ rfl 32 aR [ak a] Ac kM jP rfl aR aR P rfl ?_;rw[<-E.out])
  |(go_at_call 156;have h:=d;rw[show R=(([a].map ak).flatten).toArray from E.out];refine(pM [a] 1 rfl Q (by have:=hs.out;have:=z.out;simp;omega) d).mono ?_;rintro f j ⟨rfl,e⟩;have n:=p j _ e 67 _ M;replace e:=AA e;clear h d t r)
  |(go_at_call 156;refine(vL k g u v m q (by have:=hs.out;have:=z.out;have:=w.out;have:=hd.out;simp;omega) I J e).mono ?_;rintro f h ⟨rfl,d⟩;rw[S.out]at d;have j:=AA (i h _ d);obtain⟨m,g,-,-⟩:=d;replace g:=AA g;clear e n I J p i)
  |(go_at_call 133;refine(uw l.heap.size m (qW c a k) h (by rw[F.out];have:=hs.out;have:=w.out;omega) g).mono ?_;rintro f d ⟨b,rfl,c,a⟩;rw[F.out]at a;obtain⟨b,d,rfl,-⟩:=Own.reads a;have b:=aQ j c;replace a:=AA a;clear c))
 go_ret2
 exact⟨_,rfl,b,cO a j.size⟩
def eB:aj:=List.replicate 32 0
theorem yA:eB.length=32:=rfl
def xq(f:Bool)(cnt:Int)(ch:aj):Bool:=if f then decide (1<=cnt/\cnt<=1099511627776)else decide (cnt=0/\ch=eB)
def og(s:ByteArray)(f:Bool)(cnt:Int)(ch d:aj)(n:Nat):Bool:=xq f cnt ch&&(kr s.data.toList&&((fF d:Int)==(n:Int)))
theorem U3{s:ByteArray}{f:Bool}{cnt:Int}{ch d:aj}{n:Nat}(a:xq f cnt ch=false):og s f cnt ch d n=false:=by unfold og;rw[a];rfl
theorem Sb{s:ByteArray}{f:Bool}{cnt:Int}{ch d:aj}{n:Nat}(a:xq f cnt ch=true):og s f cnt ch d n=(kr s.data.toList&&((fF d:Int)==(n:Int))):=by unfold og;rw[a];rfl
theorem XR(a:Int)(ch:aj)(c:ch.length=32)(b:World):(binOp .neq 50 (.agg (dW a ch).toArray) (.agg #[.int .i64 0,.int .u8 0,.int .u8 0,.int .u8 0,.int .u8 0,.int .u8 0,.int .u8 0,.int .u8 0,.int .u8 0,.int .u8 0,.int .u8 0,.int .u8 0,.int .u8 0,.int .u8 0,.int .u8 0,.int .u8 0,.int .u8 0,.int .u8 0,.int .u8 0,.int .u8 0,.int .u8 0,.int .u8 0,.int .u8 0,.int .u8 0,.int .u8 0,.int .u8 0,.int .u8 0,.int .u8 0,.int .u8 0,.int .u8 0,.int .u8 0,.int .u8 0,.int .u8 0])).run prog b=.ok (.bool (!decide (a=0/\ch=eB))) b:=by
 have:=zZ a 0 ch eB c yA b;rwa[show(dW 0 eB).toArray=Jk by kernel_rfl]at this
theorem C8(s:ByteArray)(hs:s.size<=140737488355328)(f:Bool)(cnt:Int)(ch:aj)(G:ch.length=32)(d:aj)(hd:d.length=32)(K:Option Addr)(n L:Nat)(g:World):
  bq 153 #[.agg (dH s f (dW cnt ch) d K n L).toArray] g (.bool (og s f cnt ch d n)):=by
 obtain⟨i,t⟩:∃i:Array Value,(dH s f (dW cnt ch) d K n L).toArray=i:=⟨_,rfl⟩
 have H:Hid (i[0]?=some (.string s)):=by show _=_;rw[<-t,List.getElem?_toArray];exact pJ
 have M:i[1]?=some (.bool f):=by rw[<-t,List.getElem?_toArray];exact nC
 have x:Hid (∀c e,(dW cnt ch)[c]?=some e->i[2+c]?=some e):=λc e h=>by rw[<-t,List.getElem?_toArray];exact rU c e h
 have P:Hid (∀c e,(ak d)[c]?=some e->i[35+c]?=some e):=λc e h=>by rw[<-t,List.getElem?_toArray];exact lU (dV G) c e h
 have Q:Hid (i[67]?=some (.slice K n L)):=by show _=_;rw[<-t,List.getElem?_toArray];exact qc (dV G) hd
 rw[t]
 clear t
 have j:Hid (aL (g.alloc (.cells i 52)) g.heap.size 52 i):=aL.new g _ _
 have k:Hid (av g (g.alloc (.cells i 52))):=Below.aJ g _
 have W:=(j.cell 1).trans M
 have X:=(j.cell 2).trans (x 0 _ rfl)
 have A:Hid ((prog.info? 50).map (·.size)=some (dW cnt ch).length):=by show _=_;rw[dV G];kernel_rfl
 have R:Hid ((prog.info? 23).map (·.size)=some (ak d).length):=sM kM (by rw[aB,hd])
 have I:=XR cnt ch G
 have p:=AA (λN=>U3 (s:=s) (f:=f) (cnt:=cnt) (ch:=ch) (d:=d) (n:=n) N)
 have q:=AA (λN=>Sb (s:=s) (f:=f) (cnt:=cnt) (ch:=ch) (d:=d) (n:=n) N)
 obtain⟨J,u⟩:∃B,kr s.data.toList=B:=⟨_,rfl⟩
 obtain⟨S,C⟩:∃B,((fF d:Int)==(n:Int))=B:=⟨_,rfl⟩
 rw[u,C]at q
 obtain⟨D,T⟩:∃B,og s f cnt ch d n=B:=⟨_,rfl⟩
 rw[T]at p q ⊢
 replace hs:=AA hs
 replace hd:=AA hd
 replace u:=AA u
 replace C:=AA C
 replace M:=AA M
 obtain⟨Y,y⟩:=aS ((dW cnt ch).toArray)
 rw[y.out]at I
 clear T
 cases f with
 | false=>
  by_cases z:cnt=0/\ch=eB
  ·have l:D=(J&&S):=q (AY z)
   rw[decide_eq_true z]at I;clear z p q;(go_enter BU,ntmps153);go_wp2_with (rw[bY 23];refine iR (o:=⟨some 23,_,_,_,_,_⟩) (by rfl) 50 (.tmp 22) rfl g.heap.size 2 rfl (dW cnt ch) _ (λc e h=>(j.cell (2+c)).trans (x c e h)) Al rfl A ?_;rw[y.out]);(have r:Hid (∀a,aA (g.alloc (.cells i 52)) a->∀c e,i[c]?=some e->a.cell? ⟨g.heap.size,c,none⟩=some e):=λa b c e h=>((show aL a g.heap.size 52 i from(b.below.block _ j.lt).trans j).cell c).trans h);cases J
   ·refine cB (aA (g.alloc (.cells i 52))) (aA.jD ((Below.refl _ _).drew)) ?_
    refine aG ?_;refine bC (λa b=>r a b 0 _ H) ?_;refine cZ BM (λa b=>(qo s hs a).mono (λE F ⟨m,v⟩=>⟨by rw[m,u.out],by rw[<-v];exact b⟩)) ?_;(iterate 10 refine aG ?_);refine bR ?_;intro a b;have w:Hid (av g a):=k.trans (b.below.mono k.size);go_wp2_with fail;go_ret;exact⟨by rw[l];rfl,w⟩
   ·refine cB (aA (g.alloc (.cells i 52))) (aA.jD ((Below.refl _ _).drew)) ?_
    refine aG ?_;refine bC (λa b=>r a b 0 _ H) ?_;refine cZ BM (λa b=>(qo s hs a).mono (λE F ⟨m,v⟩=>⟨by rw[m,u.out],by rw[<-v];exact b⟩)) ?_;(iterate 2 refine aG ?_);refine dh g.heap.size 35 (ak d) (λa b c e h=>r a b (35+c) e (P c e h)) R AB ?_;refine cZ func178 (λa b=>(EX d hd a).mono (λE F ⟨m,O⟩=>⟨m,b.next O⟩)) ?_;refine aG ?_;refine bC (λa b=>r a b 67 _ Q) ?_;refine aG ?_;refine bC (λa b=>C.out) ?_;(iterate 2 refine aG ?_);refine bR ?_;intro a b;have w:Hid (av g a):=k.trans (b.below.mono k.size);go_wp2_with fail;go_ret;exact⟨by rw[l];rfl,w⟩
  ·have l:D=false:=p (AP z)
   rw[decide_eq_false z]at I;clear z p q;(go_enter BU,ntmps153);go_wp2_with (rw[bY 23];refine iR (o:=⟨some 23,_,_,_,_,_⟩) (by rfl) 50 (.tmp 22) rfl g.heap.size 2 rfl (dW cnt ch) _ (λc e h=>(j.cell (2+c)).trans (x c e h)) Al rfl A ?_;rw[y.out]);go_ret;exact⟨by first| rfl |(rw[l];rfl),k⟩
 | true=>
  clear I;by_cases c1:cnt < 1
  ·have l:D=false:=p (AP ah)
   have U:decide (cnt < 1)=true:=AY c1;clear p q;(go_enter BU,ntmps153);go_wp2_with (rw[bY 23];refine iR (o:=⟨some 23,_,_,_,_,_⟩) (by rfl) 50 (.tmp 22) rfl g.heap.size 2 rfl (dW cnt ch) _ (λc e h=>(j.cell (2+c)).trans (x c e h)) Al rfl A ?_;rw[y.out]);go_ret;exact⟨by first| rfl |(rw[l];rfl),k⟩
  ·have U:decide (cnt < 1)=false:=AP c1
   by_cases c2:1099511627776 < cnt
   ·have l:D=false:=p (AP ah)
    have V:decide (1099511627776 < cnt)=true:=AY c2;clear p q;(go_enter BU,ntmps153);go_wp2_with (rw[bY 23];refine iR (o:=⟨some 23,_,_,_,_,_⟩) (by rfl) 50 (.tmp 22) rfl g.heap.size 2 rfl (dW cnt ch) _ (λc e h=>(j.cell (2+c)).trans (x c e h)) Al rfl A ?_;rw[y.out]);go_ret;exact⟨by first| rfl |(rw[l];rfl),k⟩
   ·have l:D=(J&&S):=q (AY ah)
    have V:decide (1099511627776 < cnt)=false:=AP c2;clear p q;(go_enter BU,ntmps153);go_wp2_with (rw[bY 23];refine iR (o:=⟨some 23,_,_,_,_,_⟩) (by rfl) 50 (.tmp 22) rfl g.heap.size 2 rfl (dW cnt ch) _ (λc e h=>(j.cell (2+c)).trans (x c e h)) Al rfl A ?_;rw[y.out]);(have r:Hid (∀a,aA (g.alloc (.cells i 52)) a->∀c e,i[c]?=some e->a.cell? ⟨g.heap.size,c,none⟩=some e):=λa b c e h=>((show aL a g.heap.size 52 i from(b.below.block _ j.lt).trans j).cell c).trans h);cases J
    ·refine cB (aA (g.alloc (.cells i 52))) (aA.jD ((Below.refl _ _).drew)) ?_
     refine aG ?_;refine bC (λa b=>r a b 0 _ H) ?_;refine cZ BM (λa b=>(qo s hs a).mono (λE F ⟨m,v⟩=>⟨by rw[m,u.out],by rw[<-v];exact b⟩)) ?_;(iterate 10 refine aG ?_);refine bR ?_;intro a b;have w:Hid (av g a):=k.trans (b.below.mono k.size);go_wp2_with fail;go_ret;exact⟨by rw[l];rfl,w⟩
    ·refine cB (aA (g.alloc (.cells i 52))) (aA.jD ((Below.refl _ _).drew)) ?_
     refine aG ?_;refine bC (λa b=>r a b 0 _ H) ?_;refine cZ BM (λa b=>(qo s hs a).mono (λE F ⟨m,v⟩=>⟨by rw[m,u.out],by rw[<-v];exact b⟩)) ?_;(iterate 2 refine aG ?_);refine dh g.heap.size 35 (ak d) (λa b c e h=>r a b (35+c) e (P c e h)) R AB ?_;refine cZ func178 (λa b=>(EX d hd a).mono (λE F ⟨m,O⟩=>⟨m,b.next O⟩)) ?_;refine aG ?_;refine bC (λa b=>r a b 67 _ Q) ?_;refine aG ?_;refine bC (λa b=>C.out) ?_;(iterate 2 refine aG ?_);refine bR ?_;intro a b;have w:Hid (av g a):=k.trans (b.below.mono k.size);go_wp2_with fail;go_ret;exact⟨by rw[l];rfl,w⟩
section
variable {w0 wi:World} {g:Nat} {r:Option Nat} {l:aj}
theorem Nh(d:Nat)(i:d < 9223372036854775808)(b:List aj)(c:Nat)(f:b.length=c)(hd:∀a∈b,a.length=32)(j:l.length+8+32*c<=140737488355328)(k:aO w0 g r l wi):
  Calls prog 132 #[.pointer (some ⟨g,0,none⟩),.int .i64 (d:Int),.slice (some ⟨wi.heap.size,0,none⟩) c c] (wi.alloc (.cells ((b.map ak).flatten).toArray 23)) λa h=>a=.returned (.tuple #[])/\aO w0 g r (l++jM d++b.flatten) h:=by
 obtain⟨n,e,m,c1⟩:=k
 have k:ax (wi.alloc (.cells ((b.map ak).flatten).toArray 23)) 32 (some ⟨wi.heap.size,0,none⟩) c (b.flatMap ak):=
  (aL.new wi 23 ((b.map ak).flatten).toArray).reads 0 _ (by rw[(zi b hd).2,f];omega) (λo u n=>by rw[Nat.zero_add,List.getElem?_toArray,<-List.flatMap_def];exact n)
 refine(pG d i b c f hd _ c j k (λ_ n a=>?_) (e.alloc _).refl).mono λa h ⟨b,hx⟩=>⟨b,aO.xM (m.alloc _) c1 hx⟩
 injection a with a
 subst a
 refine⟨λa=>?_,λa=>?_⟩
 ·have:=e.lt;simp at a;omega
 ·obtain⟨c,d,_,_,b⟩:=e
  have:=(b wi.heap.size (by rw[<-a])).2;omega
end
def uL(s:ByteArray)(f:Bool)(cnt:Int)(ch d:aj)(ds:List aj):aj:=[50]++[kb s.size]++aX s++(if f then[1]++jM cnt.toNat++ch else[0])++d++ds.flatten
def wG(s:ByteArray)(f:Bool)(cnt:Int)(ch d:aj)(ds:List aj):Option aj:=if og s f cnt ch d ds.length=true then some (uL s f cnt ch d ds)else none
theorem vE{s:ByteArray}{f:Bool}{cnt:Int}{ch d:aj}{ds:List aj}(a:ch.length=32)(hd:d.length=32)(b:∀d∈ds,d.length=32):(uL s f cnt ch d ds).length=(if f then 75 else 35)+s.size+32*ds.length:=by
 cases f<;>simp only[uL,List.length_append,List.length_cons,List.length_nil,qO,hd,a,qY ds b,iO,Bool.false_eq_true,if_true,if_false]<;>omega
theorem Vr(a:ByteArray)(d:Int)(ch b:aj)(c:List aj):uL a false d ch b c=qW a b c:=rfl
theorem wz{d:ByteArray}{e:Bool}{f:Int}{ch a:aj}{b:Nat}(c:og d e f ch a b=true):fF a=b:=by
 unfold og at c;simp only[Bool.and_eq_true,beq_iff_eq]at c;omega
theorem zX{b:ByteArray}{c:Bool}{d:Int}{ch e:aj}{f:Nat}(a:og b c d ch e f=true):kr b.data.toList=true:=by
 unfold og at a;simp only[Bool.and_eq_true]at a;exact a.2.1
theorem OV{a:ByteArray}{b:Bool}{c:Int}{ch d:aj}{e:Nat}(f:og a b c ch d e=true):a.size<=64:=by
 have:=zX f;unfold kr at this;simp only[Bool.and_eq_true,decide_eq_true_eq]at this;simpa using this.1
theorem DJ(e:ByteArray)(hs:e.size<=64)(i:Nat)(r:i<=1099511627776)(ch:aj)(k:ch.length=32)(d:aj)(hd:d.length=32)(n:List aj)(l:Nat)(x:n.length=l)(y:∀d∈n,d.length=32)(p:og e true (i:Int) ch d l=true)(q:Option Addr)(t:Nat)(f:World)(u:ax f 32 q l (n.flatMap ak)):
  Calls prog 89 #[.agg (dH e true (dW (i:Int) ch) d q l t).toArray] f λg h=>∃a,g=.returned (.tuple #[a,.int .i64 0])/\av f h/\h.ownsRow f.heap.size 5 1 a (75+e.size+32*l) (ak (uL e true (i:Int) ch d n)):=by
 have v:=wz p
 have w:=AA (λh=>by have:=C8 e ah true (i:Int) ch k d hd q l t h;rw[p]at this;exact this)
 obtain⟨j,m⟩:∃j:Array Value,(dH e true (dW (i:Int) ch) d q l t).toArray=j:=⟨_,rfl⟩
 have O:Hid (j[0]?=some (.string e)):=by show _=_;rw[<-m,List.getElem?_toArray];exact pJ
 have E:Hid (j[1]?=some (.bool true)):=by show _=_;rw[<-m,List.getElem?_toArray];exact nC
 have P:Hid (j[2]?=some (.int .i64 (i:Int))):=by show _=_;rw[<-m,List.getElem?_toArray];exact rU 0 _ rfl
 have Q:Hid (∀b a,(ak ch)[b]?=some a->j[3+b]?=some a):=λb a c=>by
  rw[<-m,List.getElem?_toArray,show 3+b=2+(1+b) by omega];exact rU (1+b) a (by rw[Nat.add_comm 1 b];exact c)
 have R:Hid (∀b a,(ak d)[b]?=some a->j[35+b]?=some a):=λb a c=>by rw[<-m,List.getElem?_toArray];exact lU (dV k) b a c
 have S:Hid (j[67]?=some (.slice q l t)):=by show _=_;rw[<-m,List.getElem?_toArray];exact qc (dV k) hd
 have L:Hid ((prog.info? 52).map (·.size)=some j.size):=by show _=_;rw[<-m,List.size_toArray,qd (dV k) hd];kernel_rfl
 rw[m]at w ⊢
 clear m
 have z:l<=256:=by rw[<-v];have:=oG d;omega
 have D:=AA<|aL.new f 52 j
 have F:=AA<|Below.aJ f (.cells j 52)
 have G:Hid ((f.alloc (.cells j 52)).heap.size=f.heap.size+1):=by show _=_;simp
 have N:=AA<|λh (C:av f h)=>u.below C
 have T:Hid (∀s,f.heap.size<=s->0 < l->∀m,q=some m->m.block≠s/\some m.block≠none):=λs H A m g=>by
  obtain⟨m,o,s,C,_⟩:=u.2 ah;rw[g]at s;(injection s with s);subst s;exact⟨by simp;omega,by simp⟩
 have U:=AA<|sM kM (by rw[aB,hd])
 have V:=AA<|sM kM (by rw[aB,k])
 have W:Hid (∀a∈[ak ch],a.length=32):=by intro a c;simp only[List.mem_singleton]at c;rw[c,aB,k]
 have X:Hid (∀m∈[ch],m.length=32):=by intro a c;simp only[List.mem_singleton]at c;rw[c,k]
 obtain⟨Y,H⟩:=bG (([ak ch].flatten).toArray)
 have Z:Hid (∀a∈[ak d],a.length=32):=by intro a c;simp only[List.mem_singleton]at c;rw[c,aB,hd]
 have α:Hid (∀m∈[d],m.length=32):=by intro a c;simp only[List.mem_singleton]at c;rw[c,hd]
 obtain⟨β,I⟩:=bG (([ak d].flatten).toArray)
 have γ:Hid (([]:aj)++[50]++[kb e.size]++aX e++[if true=true then 1 else 0]++jM i++[ch].flatten++[d].flatten++n.flatten=uL e true (i:Int) ch d n):=by show _=_;simp[uL]
 have J:Hid ((uL e true (i:Int) ch d n).length=75+e.size+32*l):=by show _=_;rw[vE k hd y,x];simp
 have C:=AA (qO e)
 replace hs:=AA hs
 replace x:=AA x
 replace hd:=AA hd
 replace y:=AA y
 replace z:=AA z
 replace r:=AA r
 replace k:=AA k
 have K:=AA (iO i)
 clear u v p
 go_enter func89,ntmps89
 go_wp2_with (first
  |(rw[aF 5];refine aM D L Au ?_)
  |(go_at_call 153;refine(w _).mono ?_;rintro g m ⟨rfl,u⟩;rw[G.out]at u;have L:=(u.block f.heap.size ah).trans D;have v:=F.trans (u.mono ah);have r:=AA (kX.new m).refl;have M:=AA ((N m v).alloc (.cells #[.slice none 0 0] 313));have N:=AA (T m.heap.size v.size);have T:f.heap.size < m.heap.size:=(dn u.size G);have p:Hid (∀h w,aO (m.alloc (.cells #[.slice none 0 0] 313)) m.heap.size none w h->∀b a,j[b]?=some a->h.cell? ⟨f.heap.size,b,none⟩=some a):=(λh w A b a c=>((A.blk (aL.alloc L _) ah aZ).cell b).trans c);have G:Hid (∀h w,aO (m.alloc (.cells #[.slice none 0 0] 313)) m.heap.size none w h->av f h):=(λh w A=>(v.alloc v.size _).trans (A.below (λ_ g=>by cases g) (B:=f.heap.size) ah (by simp;omega)));clear u L v T D F)
  |(go_at_call 130;refine(jy _).mono ?_;rintro g m ⟨rfl,rfl⟩)
  |(go_at_call 131;refine(ko 50 50 rfl aZ r).mono ?_;rintro g h ⟨rfl,f⟩;have s:=p h _ f 0 _ O;replace f:=AA f;clear r)
  |(go_at_call 154;refine(G9 e hs (by have:=hs.out;simp;omega) f).mono ?_;rintro g j ⟨rfl,h⟩;have u:=p j _ h 1 _ E;replace h:=AA h;clear f s)
  |(go_at_call 155;refine(Hu true (by have:=hs.out;have:=C.out;simp;omega) h).mono ?_;rintro g j ⟨rfl,f⟩;have v:=p j _ f 1 _ E;have w:=p j _ f 2 _ P;have s:=AA (λb a c=>p j _ f (3+b) a (Q b a c));replace f:=AA f;clear h u)
  |(rw[aF 27];refine bS s V AB ?_)
  |(rw[bY 28];refine dL (o:=⟨some 28,_,_,_,_,_⟩) rfl 44 23 1 _ rfl 32 aR [ak ch] Ac kM jP rfl aR aR W rfl ?_;rw[<-H.out])
  |(go_at_call 132;have j:=f;rw[show Y=(([ch].map ak).flatten).toArray from H.out];refine(Nh i (aC r) [ch] 1 rfl X (by have:=hs.out;have:=C.out;simp;omega) f).mono ?_;rintro g u ⟨rfl,h⟩;have r:=AA (λb a c=>p u _ h (35+b) a (R b a c));replace h:=AA h;clear j f v w s)
  |(rw[aF 32];refine bS r U AB ?_)
  |(rw[bY 33];refine dL (o:=⟨some 33,_,_,_,_,_⟩) rfl 44 23 1 _ rfl 32 aR [ak d] Ac kM jP rfl aR aR Z rfl ?_;rw[<-I.out])
  |(go_at_call 156;have j:=h;rw[show β=(([d].map ak).flatten).toArray from I.out];refine(pM [d] 1 rfl α (by have:=hs.out;have:=C.out;have:=K.out;have:=k.out;simp;omega) h).mono ?_;rintro g c ⟨rfl,b⟩;have s:=p c _ b 67 _ S;replace b:=AA b;clear j h r)
  |(go_at_call 156;refine(vL n l x y q t (by have:=hs.out;have:=C.out;have:=z.out;have:=hd.out;have:=K.out;have:=k.out;simp;omega) M N b).mono ?_;rintro g h ⟨rfl,c⟩;rw[γ.out]at c;have j:=AA (G h _ c);obtain⟨k,f,-,-⟩:=c;replace f:=AA f;clear b s M N p G)
  |(go_at_call 133;refine(uw m.heap.size k (uL e true (i:Int) ch d n) h (by rw[J.out];have:=hs.out;have:=z.out;omega) f).mono ?_;rintro g d ⟨a,rfl,c,b⟩;rw[J.out]at b;obtain⟨a,d,rfl,-⟩:=Own.reads b;have a:=aQ j c;replace b:=AA b;clear c))
 go_ret2
 exact⟨_,rfl,a,cO b j.size⟩
theorem Ck(a:ByteArray)(hs:a.size<=140737488355328)(d:Bool)(e:Int)(ch:aj)(g:ch.length=32)(b:aj)(hd:b.length=32)(h:Option Addr)(f i:Nat)(l:og a d e ch b f=false)(j:World):
  bq 89 #[.agg (dH a d (dW e ch) b h f i).toArray] j (.tuple #[.slice none 0 0,.int .i64 170]):=by
 have m:=AA (λc=>by have:=C8 a hs d e ch g b hd h f i c;rw[l]at this;exact this)
 obtain⟨c,k⟩:∃c:Array Value,(dH a d (dW e ch) b h f i).toArray=c:=⟨_,rfl⟩
 have a:Hid ((prog.info? 52).map (·.size)=some c.size):=by show _=_;rw[<-k,List.size_toArray,qd (dV g) hd];kernel_rfl
 rw[k]at m ⊢
 clear k l hs g hd
 have b:=AA<|aL.new j 52 c
 have d:=AA<|Below.aJ j (.cells c 52)
 go_enter func89,ntmps89
 go_wp2_with (first
  |(rw[aF 5];refine aM b a Au ?_)
  |(go_at_call 153;refine(m _).mono ?_;rintro b c ⟨rfl,a⟩;have b:=aQ d a;clear a))
 go_ret2
 exact⟨rfl,b⟩
theorem FC(a:ByteArray)(hs:a.size<=140737488355328)(d:Bool)(e:Int)(ch:aj)(s:ch.length=32)(b:aj)(hd:b.length=32)(f:List aj)(j:Option Addr)(g q:Nat)(h:World)(c:j6 h j g f):
  Calls prog 89 #[.agg (dH a d (dW e ch) b j g q).toArray] h λr k=>∃i l m t,r=.returned (.tuple #[.slice i m.length l,.int .i64 t])/\ax k 1 i m.length (ak m)/\((wG a d e ch b f=some m/\t=0)\/(wG a d e ch b f=none/\m=[]/\t=170))/\av h k:=by
 have n:wG a d e ch b f=if og a d e ch b g=true then some (uL a d e ch b f)else none:=by unfold wG;rw[c.1]
 cases hok:og a d e ch b g with
 | false=>
  rw[hok]at n;refine(Ck a hs d e ch s b hd j g q hok h).mono ?_;rintro r k ⟨rfl,o⟩;exact⟨none,0,[],170,rfl,ax.oI _ _ _,.inr ⟨n,rfl,rfl⟩,o⟩
 | true=>
  rw[hok]at n;have w:=OV hok;have z:=wz hok
  have x:xq d e ch=true:=by
   unfold og at hok;simp only[Bool.and_eq_true]at hok;exact hok.1
  cases d with
  | false=>
   have h0:=BQ x;obtain⟨rfl,rfl⟩:=h0;have A:=yA;refine(Cm a w (zX hok) b hd f g c.1 c.2.1 z j q h c.2.2).mono ?_;rintro r k ⟨B,rfl,o,p⟩;(have u:(uL a false 0 eB b f).length=35+a.size+32*g:=by rw[vE A hd c.2.1,c.1];rfl);rw[<-Vr a 0 eB b f,<-u]at p;obtain⟨i,l,rfl,-,-,-,v,-⟩:=Own.reads p;exact⟨i,l,_,0,rfl,v,.inl ⟨n,rfl⟩,o⟩
  | true=>
   have h0:=BQ x;obtain⟨y,rfl⟩:=Int.eq_ofNat_of_zero_le (show 0<=e by omega);refine(DJ a w y ah ch s b hd f g c.1 c.2.1 hok j q h c.2.2).mono ?_;rintro r k ⟨B,rfl,o,p⟩;(have u:(uL a true (y:Int) ch b f).length=75+a.size+32*g:=by rw[vE s hd c.2.1,c.1];rfl);rw[<-u]at p;obtain⟨i,l,rfl,-,-,-,v,-⟩:=Own.reads p;exact⟨i,l,_,0,rfl,v,.inl ⟨n,rfl⟩,o⟩
theorem Oq:(prog.info? 50).map (·.size)=some 33:=by kernel_rfl
theorem XM:(dW 0 eB).toArray.all (λa=>a.oneCell')=true:=by kernel_rfl
theorem V6:(prog.info? 50).map (·.size)=some (#[.int .i64 0,.int .u8 0,.int .u8 0,.int .u8 0,.int .u8 0,.int .u8 0,.int .u8 0,.int .u8 0,.int .u8 0,.int .u8 0,.int .u8 0,.int .u8 0,.int .u8 0,.int .u8 0,.int .u8 0,.int .u8 0,.int .u8 0,.int .u8 0,.int .u8 0,.int .u8 0,.int .u8 0,.int .u8 0,.int .u8 0,.int .u8 0,.int .u8 0,.int .u8 0,.int .u8 0,.int .u8 0,.int .u8 0,.int .u8 0,.int .u8 0,.int .u8 0,.int .u8 0]:Array Value).size:=by kernel_rfl
theorem XL:(#[.int .i64 0,.int .u8 0,.int .u8 0,.int .u8 0,.int .u8 0,.int .u8 0,.int .u8 0,.int .u8 0,.int .u8 0,.int .u8 0,.int .u8 0,.int .u8 0,.int .u8 0,.int .u8 0,.int .u8 0,.int .u8 0,.int .u8 0,.int .u8 0,.int .u8 0,.int .u8 0,.int .u8 0,.int .u8 0,.int .u8 0,.int .u8 0,.int .u8 0,.int .u8 0,.int .u8 0,.int .u8 0,.int .u8 0,.int .u8 0,.int .u8 0,.int .u8 0,.int .u8 0]:Array Value).all (λa=>a.oneCell')=true:=by kernel_rfl
theorem qK:prog.eqGuardType prog.depth 50=false:=by kernel_rfl
theorem P7(k:ByteArray)(w:Bool)(j:Int)(ch:aj)(B:ch.length=32)(f:aj)(hd:f.length=32)(P:Option Addr)(s Q:Nat)(x:og k w j ch f s=false)(g:World):
  bq 39 #[.agg (dH k w (dW j ch) f P s Q).toArray] g (.slice none 0 0):=by
 obtain⟨h,t⟩:∃h:Array Value,(dH k w (dW j ch) f P s Q).toArray=h:=⟨_,rfl⟩
 have C:Hid (h[0]?=some (.string k)):=by show _=_;rw[<-t,List.getElem?_toArray];exact pJ
 have D:Hid (h[1]?=some (.bool w)):=by show _=_;rw[<-t,List.getElem?_toArray];exact nC
 have Y:Hid (∀c v,(dW j ch)[c]?=some v->h[2+c]?=some v):=λc v i=>by rw[<-t,List.getElem?_toArray];exact rU c v i
 have R:Hid (h[2]?=some (.int .i64 j)):=Y 0 _ rfl
 have I:Hid (∀c v,(ak f)[c]?=some v->h[35+c]?=some v):=λc v i=>by rw[<-t,List.getElem?_toArray];exact lU (dV B) c v i
 have J:Hid (h[67]?=some (.slice P s Q)):=by show _=_;rw[<-t,List.getElem?_toArray];exact qc (dV B) hd
 rw[t]
 clear t
 have ζ:Hid ((prog.info? 50).map (·.size)=some (dW j ch).length):=by show _=_;rw[dV B];exact Oq
 have L:=AA<|sM kM (by rw[aB,hd])
 have y:=AA (λa=>zZ j 0 ch eB B yA a)
 have Z:=AA<|aL.new g 52 h
 have α:=AA<|Below.aJ g (.cells h 52)
 have M:Hid ((g.alloc (.cells h 52)).heap.size=g.heap.size+1):=by show _=_;simp
 obtain⟨μ,β⟩:=aS ((dW j ch).toArray)
 have N:(dW 0 eB).toArray=#[.int .i64 0,.int .u8 0,.int .u8 0,.int .u8 0,.int .u8 0,.int .u8 0,.int .u8 0,.int .u8 0,.int .u8 0,.int .u8 0,.int .u8 0,.int .u8 0,.int .u8 0,.int .u8 0,.int .u8 0,.int .u8 0,.int .u8 0,.int .u8 0,.int .u8 0,.int .u8 0,.int .u8 0,.int .u8 0,.int .u8 0,.int .u8 0,.int .u8 0,.int .u8 0,.int .u8 0,.int .u8 0,.int .u8 0,.int .u8 0,.int .u8 0,.int .u8 0,.int .u8 0]:=by kernel_rfl
 have S:=XM
 have T:(dW 0 eB).toArray.size=33:=rfl
 obtain⟨U,γ⟩:∃η,(dW 0 eB).toArray=η:=⟨_,rfl⟩
 rw[γ]at y N S T
 rw[β.out]at y
 have θ:Hid ((prog.info? 50).map (·.size)=some U.size):=T ▸ Oq
 have ν:Hid (U.size=U.size):=rfl
 replace S:=AA S
 replace N:=AA N
 have δ:Hid (aL ((g.alloc (.cells h 52)).alloc (.cells #[.int .i64 0,.int .u8 0,.int .u8 0,.int .u8 0,.int .u8 0,.int .u8 0,.int .u8 0,.int .u8 0,.int .u8 0,.int .u8 0,.int .u8 0,.int .u8 0,.int .u8 0,.int .u8 0,.int .u8 0,.int .u8 0,.int .u8 0,.int .u8 0,.int .u8 0,.int .u8 0,.int .u8 0,.int .u8 0,.int .u8 0,.int .u8 0,.int .u8 0,.int .u8 0,.int .u8 0,.int .u8 0,.int .u8 0,.int .u8 0,.int .u8 0,.int .u8 0,.int .u8 0] 50)) (g.heap.size+1) 50 #[.int .i64 0,.int .u8 0,.int .u8 0,.int .u8 0,.int .u8 0,.int .u8 0,.int .u8 0,.int .u8 0,.int .u8 0,.int .u8 0,.int .u8 0,.int .u8 0,.int .u8 0,.int .u8 0,.int .u8 0,.int .u8 0,.int .u8 0,.int .u8 0,.int .u8 0,.int .u8 0,.int .u8 0,.int .u8 0,.int .u8 0,.int .u8 0,.int .u8 0,.int .u8 0,.int .u8 0,.int .u8 0,.int .u8 0,.int .u8 0,.int .u8 0,.int .u8 0,.int .u8 0]):=by
  have:=aL.new (g.alloc (.cells h 52)) 50 #[.int .i64 0,.int .u8 0,.int .u8 0,.int .u8 0,.int .u8 0,.int .u8 0,.int .u8 0,.int .u8 0,.int .u8 0,.int .u8 0,.int .u8 0,.int .u8 0,.int .u8 0,.int .u8 0,.int .u8 0,.int .u8 0,.int .u8 0,.int .u8 0,.int .u8 0,.int .u8 0,.int .u8 0,.int .u8 0,.int .u8 0,.int .u8 0,.int .u8 0,.int .u8 0,.int .u8 0,.int .u8 0,.int .u8 0,.int .u8 0,.int .u8 0,.int .u8 0,.int .u8 0];rw[M.out]at this;exact this
 obtain⟨ι,z⟩:=aS (kr k.data.toList)
 obtain⟨κ,V⟩:=aS (((fF f:Int)==(s:Int)))
 clear γ T B
 replace hd:=AA hd
 replace x:=x
 go_enter func39,ntmps39
 go_wp2_with (rw[bA 50 3];refine dB δ V6 rfl XL ?_;intro A E W;rw[<-N.out]at E ⊢;replace E:=AA E;have ε:=AA<|aL.kept (Z.alloc _) W ah;have l:=AA<|(α.alloc (aC M) _).trans (au.aW W ah (by have:=M.out;simp;omega));clear W)
 have d:=AA<|λa (b:aA A a) c v (i:h[c]?=some v)=>((show aL a g.heap.size 52 h from(b.below.block _ ε.lt).trans ε).cell c).trans i
 clear Z α δ M
 cases ι with
 | false=>
  refine cB (aA A) (aA.jD ((Below.refl _ _).drew)) ?_;refine aG ?_;refine bC (λa b=>(d a b 0 _ C)) ?_;refine cZ BG (λa b=>(lQ k a).mono (λp q ⟨e,m⟩=>⟨by rw[e,z.out],by rw[<-m];exact b⟩)) ?_;refine aG (v:=.bool true) ?_;refine aG (v:=.bool true) ?_;(iterate 7 refine aG ?_);refine aG (v:=.bool true) ?_;refine aG (v:=.bool true) ?_;(iterate 9 refine aG ?_);refine aG (v:=.bool true) ?_;refine aG (v:=.bool true) ?_;(iterate 14 refine aG ?_);refine aG (v:=.bool true) ?_;refine bR ?_;intro O n;(have o:=AA<|l.trans (n.below.mono l.size));go_wp2_with fail;go_ret;exact⟨rfl,o⟩
 | true=>
  cases κ with
  | false=>
   have F:Hid (¬((fF f:Int)=(s:Int))):=beq_eq_false_iff_ne.1 V;refine cB (aA A) (aA.jD ((Below.refl _ _).drew)) ?_;refine aG ?_;refine bC (λa b=>(d a b 0 _ C)) ?_;refine cZ BG (λa b=>(lQ k a).mono (λp q ⟨e,m⟩=>⟨by rw[e,z.out],by rw[<-m];exact b⟩)) ?_;refine aG (v:=.bool false) ?_;refine aG (v:=.bool false) ?_;refine aG ?_;refine dh g.heap.size 35 (ak f) (λa b c v i=>d.out a b (35+c) v (I.out c v i)) L.out AB ?_;refine cZ BO (λa b=>(oH f hd.out a).mono (λp q ⟨e,u⟩=>⟨e,b.next u⟩)) ?_;refine aG (v:=.pointer (some ⟨g.heap.size,67,none⟩)) ?_;refine bC (λa b=>(d.out a b 67 _ J.out)) ?_;refine aG (v:=.int .i64 (s:Int)) ?_;refine bD (v:=.bool true) rfl (λa b=>by have ξ:=F.out;go_simp) ?_;(intro K r;go_simp;refine r _ ?_;clear r K);refine bD (v:=.bool true) rfl (λa b=>by go_simp) ?_;(intro K r;go_simp;refine r _ ?_;clear r K);refine aG (v:=.bool true) ?_;(iterate 9 refine aG ?_);refine aG (v:=.bool true) ?_;refine aG (v:=.bool true) ?_;(iterate 14 refine aG ?_);refine aG (v:=.bool true) ?_;refine bR ?_;intro O n;(have o:=AA<|l.trans (n.below.mono l.size));go_wp2_with fail;go_ret;exact⟨rfl,o⟩
  | true=>
   have F:=AA<|eq_of_beq V
   have G:xq w j ch=false:=by
    have X:=x;unfold og at X;rw[z.out,V.out]at X;simpa using X
   cases w with
   | false=>
    have H:=of_decide_eq_false G;rw[decide_eq_false H]at y;clear x G H;refine cB (aA A) (aA.jD ((Below.refl _ _).drew)) ?_;refine aG ?_;refine bC (λa b=>(d a b 0 _ C)) ?_;refine cZ BG (λa b=>(lQ k a).mono (λp q ⟨e,m⟩=>⟨by rw[e,z.out],by rw[<-m];exact b⟩)) ?_;refine aG (v:=.bool false) ?_;refine aG (v:=.bool false) ?_;refine aG ?_;refine dh g.heap.size 35 (ak f) (λa b c v i=>d a b (35+c) v (I c v i)) L AB ?_;refine cZ BO (λa b=>(oH f hd a).mono (λp q ⟨e,u⟩=>⟨e,b.next u⟩)) ?_;refine aG ?_;refine bC (λa b=>(d a b 67 _ J)) ?_;refine aG ?_;refine bC (λa b=>F.out) ?_;refine aG (v:=.bool false) ?_;refine aG (v:=.bool false) ?_;refine aG ?_;refine bC (λa b=>(d.out a b 1 _ D.out)) ?_;refine aG (v:=.bool true) ?_;refine aG (v:=.bool true) ?_;refine aG ?_;refine zT rfl 50 (.tmp 24) rfl g.heap.size 2 rfl (dW j ch) _ (λa b c v i=>d a b (2+c) v (Y c v i)) Al rfl ζ ?_;(intro K r;go_simp;rw[β.out];refine r _ ?_;clear r K);refine gu (λa b=>(b.below.block _ E.lt).trans E) θ Al ?_;refine jr (λa b=>iN rfl rfl rfl qK (y.out a)) ?_;refine aG (v:=.bool true) ?_;refine aG (v:=.bool true) ?_;refine aG (v:=.bool true) ?_;(iterate 14 refine aG ?_);refine aG (v:=.bool true) ?_;refine bR ?_;intro O n;(have o:=AA<|l.trans (n.below.mono l.size));go_wp2_with fail;go_ret;exact⟨rfl,o⟩
   | true=>
    have H:=of_decide_eq_false G;by_cases c1:j < 1
    ·replace c1:=AA<|AY c1
     clear x G H y;refine cB (aA A) (aA.jD ((Below.refl _ _).drew)) ?_;refine aG ?_;refine bC (λa b=>(d a b 0 _ C)) ?_;refine cZ BG (λa b=>(lQ k a).mono (λp q ⟨e,m⟩=>⟨by rw[e,z.out],by rw[<-m];exact b⟩)) ?_;refine aG (v:=.bool false) ?_;refine aG (v:=.bool false) ?_;refine aG ?_;refine dh g.heap.size 35 (ak f) (λa b c v i=>d a b (35+c) v (I c v i)) L AB ?_;refine cZ BO (λa b=>(oH f hd a).mono (λp q ⟨e,u⟩=>⟨e,b.next u⟩)) ?_;refine aG ?_;refine bC (λa b=>(d a b 67 _ J)) ?_;refine aG ?_;refine bC (λa b=>F.out) ?_;refine aG (v:=.bool false) ?_;refine aG (v:=.bool false) ?_;refine aG ?_;refine bC (λa b=>(d.out a b 1 _ D.out)) ?_;refine aG (v:=.bool false) ?_;refine aG (v:=.bool false) ?_;(iterate 4 refine aG ?_);refine aG (v:=.bool false) ?_;refine aG (v:=.bool false) ?_;refine aG (v:=.bool false) ?_;refine aG ?_;refine bC (λa b=>(d.out a b 1 _ D.out)) ?_;refine aG (v:=.bool true) ?_;(iterate 2 refine aG ?_);refine bC (λa b=>(d a b 2 _ R)) ?_;refine bC (λa b=>c1.out) ?_;refine aG (v:=.bool true) ?_;(iterate 4 refine aG ?_);refine aG (v:=.bool true) ?_;refine aG (v:=.bool true) ?_;refine aG (v:=.bool true) ?_;refine bR ?_;intro O n;(have o:=AA<|l.trans (n.below.mono l.size));go_wp2_with fail;go_ret;exact⟨rfl,o⟩
    ·have c2:Hid (decide (1099511627776 < j)=true):=AY ah
     (replace c1:=AA<|AP c1);clear x G H y;refine cB (aA A) (aA.jD ((Below.refl _ _).drew)) ?_;refine aG ?_;refine bC (λa b=>(d a b 0 _ C)) ?_;refine cZ BG (λa b=>(lQ k a).mono (λp q ⟨e,m⟩=>⟨by rw[e,z.out],by rw[<-m];exact b⟩)) ?_;refine aG (v:=.bool false) ?_;refine aG (v:=.bool false) ?_;refine aG ?_;refine dh g.heap.size 35 (ak f) (λa b c v i=>d a b (35+c) v (I c v i)) L AB ?_;refine cZ BO (λa b=>(oH f hd a).mono (λp q ⟨e,u⟩=>⟨e,b.next u⟩)) ?_;refine aG ?_;refine bC (λa b=>(d a b 67 _ J)) ?_;refine aG ?_;refine bC (λa b=>F.out) ?_;refine aG (v:=.bool false) ?_;refine aG (v:=.bool false) ?_;refine aG ?_;refine bC (λa b=>(d.out a b 1 _ D.out)) ?_;refine aG (v:=.bool false) ?_;refine aG (v:=.bool false) ?_;(iterate 4 refine aG ?_);refine aG (v:=.bool false) ?_;refine aG (v:=.bool false) ?_;refine aG (v:=.bool false) ?_;refine aG ?_;refine bC (λa b=>(d.out a b 1 _ D.out)) ?_;refine aG (v:=.bool true) ?_;(iterate 2 refine aG ?_);refine bC (λa b=>(d a b 2 _ R)) ?_;refine bC (λa b=>c1.out) ?_;refine aG (v:=.bool false) ?_;(iterate 2 refine aG ?_);refine bC (λa b=>(d a b 2 _ R)) ?_;refine bC (λa b=>c2.out) ?_;refine aG (v:=.bool true) ?_;refine aG (v:=.bool true) ?_;refine aG (v:=.bool true) ?_;refine bR ?_;intro O n;(have o:=AA<|l.trans (n.below.mono l.size));go_wp2_with fail;go_ret;exact⟨rfl,o⟩
theorem JV(a:ByteArray):Lib.strCells a=ak (aX a):=by
 unfold Lib.strCells aX ak;rw[List.map_map];rfl
theorem Pd{a:Nat}(b:a<=64):iF (kb (a:Int))=.int .u8 (a:Int):=by
 unfold iF b8 kb;congr 1;rw[BitVec.toNat_ofInt];omega
theorem vF{w d:World}{b a:Nat}{e:Option Addr}{f:Nat}{g:aj}{c:ByteArray}{i:Value}(h:d.ownsRow b 5 1 i (a+c.size) (ak g++Lib.strCells c))(k:w.grownBy d (Value.ownBlock (.slice e a f))){j:World}(l:Below b j w)(m:b<=w.heap.size)(n:w.ownsRow b 5 1 (.slice e a f) a (ak g)):
  ∃e f,i=.slice e (a+c.size) f/\Hid (d.ownsRow b 5 1 (.slice e (a+c.size) f) (a+c.size) (ak (g++aX c)))/\Hid (Below b j d):=by
 rw[JV]at h
 obtain⟨e,f,rfl,-⟩:=Own.reads h
 refine⟨e,f,rfl,?_,l.grown k m (jf n)⟩
 show d.ownsRow _ _ _ _ _ _
 simpa[ak]using h
theorem MR(s:ByteArray)(f:Bool)(cnt:Int)(ch:aj)(S:ch.length=32)(d:aj)(hd:d.length=32)(ds:List aj)(F:Option Addr)(j Y:Nat)(T:og s f cnt ch d j=true)(w:World)(L:j6 w F j ds):
  Calls prog 39 #[.agg (dH s f (dW cnt ch) d F j Y).toArray] w λh b=>∃v,h=.returned v/\b.ownsRow w.heap.size 5 1 v (uL s f cnt ch d ds).length (ak (uL s f cnt ch d ds))/\Below w.heap.size w b:=by
 obtain⟨τ,M,N,O,P⟩:=fT pI
 have Ù:=OV T
 have δ:=wz T
 have Â:=zX T
 have Ă:j<=256:=by
  rw[<-δ];have:=oG d;omega
 have ε:=vE (s:=s) (f:=f) (cnt:=cnt) (ch:=ch) (d:=d) (ds:=ds) S hd L.2.1
 rw[L.1]at ε
 have Ú:=AA S
 have Û:=AA hd
 obtain⟨p,U⟩:∃p:Array Value,(dH s f (dW cnt ch) d F j Y).toArray=p:=⟨_,rfl⟩
 have Z:Hid (p[0]?=some (.string s)):=by show _=_;rw[<-U,List.getElem?_toArray];exact pJ
 have α:Hid (p[1]?=some (.bool f)):=by show _=_;rw[<-U,List.getElem?_toArray];exact nC
 have υ:Hid (∀g v,(dW cnt ch)[g]?=some v->p[2+g]?=some v):=λg v A=>by rw[<-U,List.getElem?_toArray];exact rU g v A
 have Ã:Hid (p[2]?=some (.int .i64 cnt)):=υ.out 0 _ rfl
 have φ:Hid (∀g v,(ak d)[g]?=some v->p[35+g]?=some v):=λg v A=>by rw[<-U,List.getElem?_toArray];exact lU (dV S) g v A
 have χ:Hid (p[67]?=some (.slice F j Y)):=by show _=_;rw[<-U,List.getElem?_toArray];exact qc (dV S) hd
 rw[U]
 clear U
 have è:Hid ((prog.info? 50).map (·.size)=some (dW cnt ch).length):=by show _=_;rw[dV S];exact Oq
 have Ü:=AA<|sM kM (by rw[aB,hd])
 have ζ:=AA (λb=>zZ cnt 0 ch eB S yA b)
 have Ý:=AA<|aL.new w 52 p
 have Þ:=AA<|Below.aJ w (.cells p 52)
 have ψ:Hid ((w.alloc (.cells p 52)).heap.size=w.heap.size+1):=by show _=_;simp
 obtain⟨ă,ß⟩:∃Ä,Hid ((dW cnt ch).toArray=Ä):=⟨_,AA rfl⟩
 have ω:(dW 0 eB).toArray=#[.int .i64 0,.int .u8 0,.int .u8 0,.int .u8 0,.int .u8 0,.int .u8 0,.int .u8 0,.int .u8 0,.int .u8 0,.int .u8 0,.int .u8 0,.int .u8 0,.int .u8 0,.int .u8 0,.int .u8 0,.int .u8 0,.int .u8 0,.int .u8 0,.int .u8 0,.int .u8 0,.int .u8 0,.int .u8 0,.int .u8 0,.int .u8 0,.int .u8 0,.int .u8 0,.int .u8 0,.int .u8 0,.int .u8 0,.int .u8 0,.int .u8 0,.int .u8 0,.int .u8 0]:=by kernel_rfl
 have Å:=XM
 have Æ:(dW 0 eB).toArray.size=33:=rfl
 obtain⟨Γ,à⟩:∃Ä,(dW 0 eB).toArray=Ä:=⟨_,rfl⟩
 rw[à]at ζ ω Å Æ
 rw[ß.out]at ζ
 have é:Hid ((prog.info? 50).map (·.size)=some Γ.size):=Æ ▸ Oq
 have Ą:Hid (Γ.size=Γ.size):=rfl
 replace Å:=AA Å
 replace ω:=AA ω
 have á:Hid (aL ((w.alloc (.cells p 52)).alloc (.cells #[.int .i64 0,.int .u8 0,.int .u8 0,.int .u8 0,.int .u8 0,.int .u8 0,.int .u8 0,.int .u8 0,.int .u8 0,.int .u8 0,.int .u8 0,.int .u8 0,.int .u8 0,.int .u8 0,.int .u8 0,.int .u8 0,.int .u8 0,.int .u8 0,.int .u8 0,.int .u8 0,.int .u8 0,.int .u8 0,.int .u8 0,.int .u8 0,.int .u8 0,.int .u8 0,.int .u8 0,.int .u8 0,.int .u8 0,.int .u8 0,.int .u8 0,.int .u8 0,.int .u8 0] 50)) (w.heap.size+1) 50 #[.int .i64 0,.int .u8 0,.int .u8 0,.int .u8 0,.int .u8 0,.int .u8 0,.int .u8 0,.int .u8 0,.int .u8 0,.int .u8 0,.int .u8 0,.int .u8 0,.int .u8 0,.int .u8 0,.int .u8 0,.int .u8 0,.int .u8 0,.int .u8 0,.int .u8 0,.int .u8 0,.int .u8 0,.int .u8 0,.int .u8 0,.int .u8 0,.int .u8 0,.int .u8 0,.int .u8 0,.int .u8 0,.int .u8 0,.int .u8 0,.int .u8 0,.int .u8 0,.int .u8 0]):=by
  have:=aL.new (w.alloc (.cells p 52)) 50 #[.int .i64 0,.int .u8 0,.int .u8 0,.int .u8 0,.int .u8 0,.int .u8 0,.int .u8 0,.int .u8 0,.int .u8 0,.int .u8 0,.int .u8 0,.int .u8 0,.int .u8 0,.int .u8 0,.int .u8 0,.int .u8 0,.int .u8 0,.int .u8 0,.int .u8 0,.int .u8 0,.int .u8 0,.int .u8 0,.int .u8 0,.int .u8 0,.int .u8 0,.int .u8 0,.int .u8 0,.int .u8 0,.int .u8 0,.int .u8 0,.int .u8 0,.int .u8 0,.int .u8 0];rw[ψ.out]at this;exact this
 obtain⟨ą,Ç⟩:∃B,Hid (kr s.data.toList=B):=⟨_,AA rfl⟩
 obtain⟨ê,ë⟩:∃B,Hid (((fF d:Int)==(j:Int))=B):=⟨_,AA rfl⟩
 clear à Æ S
 replace hd:=AA hd
 replace T:=T
 go_enter func39,ntmps39
 go_wp2_with (rw[iE 50 3];refine fZ (o:=⟨none,_,_,_,_,_⟩) rfl 50 (.tmp 3) (.tmp 5) rfl (w.heap.size+1) ((#[.int .i64 0,.int .u8 0,.int .u8 0,.int .u8 0,.int .u8 0,.int .u8 0,.int .u8 0,.int .u8 0,.int .u8 0,.int .u8 0,.int .u8 0,.int .u8 0,.int .u8 0,.int .u8 0,.int .u8 0,.int .u8 0,.int .u8 0,.int .u8 0,.int .u8 0,.int .u8 0,.int .u8 0,.int .u8 0,.int .u8 0,.int .u8 0,.int .u8 0,.int .u8 0,.int .u8 0,.int .u8 0,.int .u8 0,.int .u8 0,.int .u8 0,.int .u8 0,.int .u8 0]:Array Value)) rfl rfl 50 ((#[.int .i64 0,.int .u8 0,.int .u8 0,.int .u8 0,.int .u8 0,.int .u8 0,.int .u8 0,.int .u8 0,.int .u8 0,.int .u8 0,.int .u8 0,.int .u8 0,.int .u8 0,.int .u8 0,.int .u8 0,.int .u8 0,.int .u8 0,.int .u8 0,.int .u8 0,.int .u8 0,.int .u8 0,.int .u8 0,.int .u8 0,.int .u8 0,.int .u8 0,.int .u8 0,.int .u8 0,.int .u8 0,.int .u8 0,.int .u8 0,.int .u8 0,.int .u8 0,.int .u8 0]:Array Value)) á.out V6 rfl XL ?_;intro È η É;rw[<-ω.out]at η ⊢;replace η:=AA η;have Δ:=AA<|aL.kept (Ý.out.alloc _) É ah;have Θ:=AA<|(Þ.out.alloc (aC ψ) _).trans (au.aW É ah (by have:=ψ.out;simp;omega));clear É)
 have q:=AA<|λb (c:aA È b) g v (A:p[g]?=some v)=>((show aL b w.heap.size 52 p from(c.below.block _ Δ.out.lt).trans Δ.out).cell g).trans A
 clear Ý Þ á ψ
 have Ć:IntKind.u8.wrap (s.size:Int)=(s.size:Int):=by simp[IntKind.wrap,IntKind.signed,IntKind.bits];omega
 have ì:=Ç.out.symm.trans Â
 have í:ê=true:=by rw[<-ë.out,δ];exact beq_self_eq_true _
 subst ì í
 have â:Hid ((fF d:Int)=(j:Int)):=by show _=_;rw[δ]
 have Ξ:xq f cnt ch=true:=by
  have r:=T;unfold og at r;simp only[Bool.and_eq_true]at r;exact r.1
 have î:Hid (∀n:Nat,n<=1099511627776->∀b θ,b.heap.size=θ->Calls prog 82 #[.int .i64 (n:Int)] b λh k=>h=.returned (.slice (some ⟨θ,0,none⟩) 8 8)/\Below b.heap.size b k/\k.ownsRow θ 5 1 (.slice (some ⟨θ,0,none⟩) 8 8) 8 (ak (jM n))):=λn r b θ ï=>by
  subst ï;exact wL n ah b
 replace ε:=AA ε
 replace L:=AA L
 replace δ:=AA δ
 replace Â:=AA Â
 clear T
 cases f with
 | false=>
  have Φ:=BQ Ξ;rw[decide_eq_true Φ]at ζ;clear Ξ Φ;refine cB (aA È) (aA.jD ((Below.refl _ _).drew)) ?_;refine bD (v:=.pointer (some ⟨w.heap.size,0,none⟩)) rfl (λb c=>by go_simp) ?_;(intro K a;go_simp;refine a _ ?_;clear a K);refine bD (v:=.string s) rfl (λb c=>by have Ψ:=(q.out b c 0 _ Z.out);go_simp) ?_;(intro K a;go_simp;refine a _ ?_;clear a K);refine MV (v:=.bool true) (args:=#[.string s]) rfl _ _ rfl rfl BG bH bH (λb c=>(lQ s b).mono (λh k ⟨x,Ê⟩=>⟨by rw[x,Ç.out],by rw[<-Ê];exact c⟩)) ?_;(intro K a;go_simp;refine a _ ?_;clear a K);refine bD (v:=.bool false) rfl (λb c=>by go_simp) ?_;(intro K a;go_simp;refine a _ ?_;clear a K);refine bD (v:=.bool false) rfl (λb c=>by go_simp) ?_;(intro K a;go_simp;refine a _ ?_;clear a K);refine bD (v:=.pointer (some ⟨w.heap.size,35,none⟩)) rfl (λb c=>by go_simp) ?_;(intro K a;go_simp;refine a _ ?_;clear a K);refine zT rfl 23 (.tmp 11) rfl w.heap.size 35 rfl (ak d) _ (λb c g v A=>q.out b c (35+g) v (φ.out g v A)) AB rfl Ü.out ?_;(intro K a;go_simp;refine a _ ?_;clear a K);refine MV (v:=.int .i64 (fF d:Nat)) (args:=#[.agg (ak d).toArray]) rfl _ _ rfl rfl BO bH bH (λb c=>(oH d hd.out b).mono (λh k ⟨x,i⟩=>⟨x,c.next i⟩)) ?_;(intro K a;go_simp;refine a _ ?_;clear a K);refine bD (v:=.pointer (some ⟨w.heap.size,67,none⟩)) rfl (λb c=>by go_simp) ?_;(intro K a;go_simp;refine a _ ?_;clear a K);refine bD (v:=.slice F j Y) rfl (λb c=>by have Ψ:=(q.out b c 67 _ χ.out);go_simp) ?_;(intro K a;go_simp;refine a _ ?_;clear a K);refine bD (v:=.int .i64 (j:Int)) rfl (λb c=>by go_simp) ?_;(intro K a;go_simp;refine a _ ?_;clear a K);refine bD (v:=.bool false) rfl (λb c=>by have Ψ:=â.out;go_simp) ?_;(intro K a;go_simp;refine a _ ?_;clear a K);refine bD (v:=.bool false) rfl (λb c=>by go_simp) ?_;(intro K a;go_simp;refine a _ ?_;clear a K);refine bD (v:=.bool false) rfl (λb c=>by go_simp) ?_;(intro K a;go_simp;refine a _ ?_;clear a K);refine bD (v:=.pointer (some ⟨w.heap.size,1,none⟩)) rfl (λb c=>by go_simp) ?_;(intro K a;go_simp;refine a _ ?_;clear a K);refine bD (v:=.bool false) rfl (λb c=>by have Ψ:=(q.out b c 1 _ α.out);go_simp) ?_;(intro K a;go_simp;refine a _ ?_;clear a K);refine bD (v:=.bool true) rfl (λb c=>by go_simp) ?_;(intro K a;go_simp;refine a _ ?_;clear a K);refine bD (v:=.bool true) rfl (λb c=>by go_simp) ?_;(intro K a;go_simp;refine a _ ?_;clear a K);refine bD (v:=.pointer (some ⟨w.heap.size,2,none⟩)) rfl (λb c=>by go_simp) ?_;(intro K a;go_simp;refine a _ ?_;clear a K);refine zT rfl 50 (.tmp 24) rfl w.heap.size 2 rfl (dW cnt ch) _ (λb c g v A=>q.out b c (2+g) v (υ.out g v A)) Al rfl è.out ?_;(intro K a;go_simp;rw[ß.out];refine a _ ?_;clear a K);refine RJ rfl 50 (.tmp 3) rfl (w.heap.size+1) rfl 50 Γ (0,0) _ (λb c=>(c.below.block _ η.out.lt).trans η.out) Al rfl é.out ?_;(intro K a;go_simp;refine a _ ?_;clear a K);refine bD (v:=.bool false) rfl (λb c=>iN rfl rfl rfl qK (ζ.out b)) ?_;(intro K a;go_simp;refine a _ ?_;clear a K);refine bD (v:=.bool false) rfl (λb c=>by go_simp) ?_;(intro K a;go_simp;refine a _ ?_;clear a K);refine bD (v:=.bool false) rfl (λb c=>by go_simp) ?_;(intro K a;go_simp;refine a _ ?_;clear a K);refine bD (v:=.bool false) rfl (λb c=>by go_simp) ?_;(intro K a;go_simp;refine a _ ?_;clear a K);refine bD (v:=.pointer (some ⟨w.heap.size,1,none⟩)) rfl (λb c=>by go_simp) ?_;(intro K a;go_simp;refine a _ ?_;clear a K);refine bD (v:=.bool false) rfl (λb c=>by have Ψ:=(q.out b c 1 _ α.out);go_simp) ?_;(intro K a;go_simp;refine a _ ?_;clear a K);refine bD (v:=.bool false) rfl (λb c=>by go_simp) ?_;(intro K a;go_simp;refine a _ ?_;clear a K);refine eX rfl ?_;(intro K a;go_simp;refine a _ ?_;clear a K);refine eX rfl ?_;(intro K a;go_simp;refine a _ ?_;clear a K);refine eX rfl ?_;(intro K a;go_simp;refine a _ ?_;clear a K);refine eX rfl ?_;(intro K a;go_simp;refine a _ ?_;clear a K);refine eX rfl ?_;(intro K a;go_simp;refine a _ ?_;clear a K);refine eX rfl ?_;(intro K a;go_simp;refine a _ ?_;clear a K);refine eX rfl ?_;(intro K a;go_simp;refine a _ ?_;clear a K);refine eX rfl ?_;(intro K a;go_simp;refine a _ ?_;clear a K);refine eX rfl ?_;(intro K a;go_simp;refine a _ ?_;clear a K);refine eX rfl ?_;(intro K a;go_simp;refine a _ ?_;clear a K);refine bD (v:=.bool false) rfl (λb c=>by go_simp) ?_;(intro K a;go_simp;refine a _ ?_;clear a K);refine bD (v:=.bool false) rfl (λb c=>by go_simp) ?_;(intro K a;go_simp;refine a _ ?_;clear a K);refine bR ?_;intro e V;(have y:=AA<|Θ.out.trans (V.below.mono Θ.out.size));(have ι:=AA<|Ad Δ.out.lt V.below.size);(have t:=AA<|λb (i:Below e.heap.size e b)=>q.out b (V.next i));have Ë:Hid (∀b,Below e.heap.size e b->ax b 1 (some ⟨w.heap.size,35,none⟩) 32 (ak d)):=λb i=>⟨by rw[aB,Û.out],λ_=>⟨_,_,rfl,Ad ι.out i.size,λg u C=>t.out b i _ _ (φ.out g u C)⟩⟩
  have ã:Hid (∀b,Below e.heap.size e b->ax b 1 (some ⟨w.heap.size,3,none⟩) 32 (ak ch)):=λb i=>⟨by rw[aB,Ú.out],λ_=>⟨_,_,rfl,Ad ι.out i.size,λg u C=>by
   have r:=υ.out (1+g) u (by rw[Nat.add_comm];exact C);rw[show 2+(1+g)=3+g by omega]at r
   exact t.out b i _ _ r⟩⟩
  have Ì:=AA<|λb (i:Below e.heap.size e b)=>L.out.below (y.out.trans (i.mono y.out.size))
  have Í:Hid (0 < j->∀B o,F=some ⟨B,o,none⟩->B < e.heap.size):=λh0 B o h=>by
   obtain⟨ð,ñ,G,ò,-⟩:=L.out.2.2.at_ ah;rw[h]at G;(injection G with G);(injection G with Ω ó);have:=y.out.size;omega
  have Î:=t.out e (Below.refl _ _) 0 _ Z.out;(have H:=AA<|Below.aJ e (.cells #[.int .u8 50,.int .u8 (s.size:Int)] 5));have Ï:=t.out _ H.out 0 _ Z.out
  have κ:Hid ((e.alloc (.cells #[.int .u8 50,.int .u8 (s.size:Int)] 5)).ownsRow e.heap.size 5 1 (.slice (some ⟨e.heap.size,0,none⟩) 2 2) 2 (ak [50,kb s.size])):=by
   have:=l9 e e.heap.size (AJ _) 5 #[.int .u8 50,.int .u8 (s.size:Int)] 2 rfl (by unfold maxLen;omega);(have h:ak [50,kb s.size]=[.int .u8 50,.int .u8 (s.size:Int)]:=by show[iF 50,iF (kb s.size)]=_;rw[Pd Ù];rfl);show World.ownsRow _ _ _ _ _ _ _;rw[h];exact this
  go_wp2_with (first
   |(rw[bY 53];refine Lib.wpList_append_own_string _ (o:=⟨some 53,_,_,_,_,_⟩) rfl (.tmp 50) (.tmp 52) 27 9 rfl e.heap.size 5 τ AR CB M N O P (.slice (some ⟨e.heap.size,0,none⟩) 2 2) 2 (ak [50,kb s.size]) rfl κ.out s rfl (by unfold maxLen;omega) ah H.out.size ?_;intro ô z μ ν _;obtain⟨Ð,Ñ,rfl,ξ,D⟩:=vF μ ν H.out H.out.size κ.out;have Ω:=t.out _ D.out 1 _ α.out;clear μ ν Î Ï)
   |(rw[bY 71];refine dD _ (o:=⟨some 71,_,_,_,_,_⟩) rfl (.tmp 69) (.tmp 70) 27 rfl (e.heap.size) 5 τ (.int .u8 0) 1 1 AR M N O P rfl aR (.slice Ð (2+s.size) Ñ) (2+s.size) (ak ([50,kb s.size]++aX s)) rfl (dz ξ.out (Below.aJ z _)) (some ⟨z.heap.size,0,none⟩) 1 1 (ak [0]) rfl (aL.reads (aL.new z _ _) 0 _ rfl (λg u C=>by rw[Nat.zero_add,List.getElem?_toArray];exact C)) (λh=>by cases h) (aY _) (by unfold maxLen;omega) ah (D.out.alloc D.out.size _).size ?_;intro õ ä l;obtain⟨ö,ø,rfl,Q,E⟩:=dM l (D.out.alloc D.out.size _) (D.out.alloc D.out.size _).size (dz ξ.out (Below.aJ z _)) (([50,kb s.size]++aX s)++[0]) rfl (3+s.size) ah;clear l Ω))
  have m:=AA E.out.drew;refine dI (λb=>av e b) 8 ?_;refine aH 0 m ?_;refine aH 1 m ?_;refine aH 2 m ?_;refine aH 4 m ?_;refine eG 5 m (λb c=>t b c 67 _ χ) ?_;refine aU 3 ?_;refine jK (.tmp 72) (.tmp 74) AR M N O P Q (Ë _ m) (λh=>by cases h) (aY _) (by unfold maxLen;omega) ah E.size ?_;intro ù W l;obtain⟨Ò,Ó,rfl,Ô,I⟩:=dM l m m.size Q ((([50,kb s.size]++aX s)++[0])++d) rfl (3+s.size+32) rfl;clear l;refine aV I ?_;refine aU 6 ?_;refine cK (R:=λv k=>k.ownsRow e.heap.size 5 1 v (3+s.size+32+32*j) (ak ((([50,kb s.size]++aX s)++[0])++d++ds.flatten))/\Below e.heap.size W k) Bf ((o8 e.heap.size ((([50,kb s.size]++aX s)++[0])++d) (3+s.size+32) Ò Ó ds j F Y W I.size Ô (Ì W I) Í ah).mono λh k ⟨v,x,ο,i⟩=>⟨_,x,ο,i⟩) ?_;rintro ú û ⟨J,ρ⟩;obtain⟨Õ,Ö,rfl,-⟩:=iH J;(have X:=AA<|I.trans ρ);replace J:=AA J;clear ρ;refine aV X ?_;refine aH 7 X ?_;refine bT ?_;go_wp2_with fail;go_ret;refine⟨.slice Õ (3+s.size+32+32*j) Ö,rfl,?_,y.trans (X.mono y.size)⟩;have σ:=ε.out;simp only[Bool.false_eq_true,if_false]at σ;rw[σ];have r:=cO J y.size;rw[show 35+s.size+32*j=3+s.size+32+32*j by omega];(have h:uL s false cnt ch d ds=(([50,kb s.size]++aX s)++[0])++d++ds.flatten:=by simp[uL]);rw[h];exact r
 | true=>
  have Φ:=BQ Ξ;have c1:Hid (decide (cnt < 1)=false):=AP ah;have c2:Hid (decide (1099511627776 < cnt)=false):=AP ah;obtain⟨n,ü⟩:=Int.eq_ofNat_of_zero_le (show 0<=cnt by omega);(have ý:Hid (n<=1099511627776):=by show _<=_;omega);subst ü;clear Ξ Φ ζ;refine cB (aA È) (aA.jD ((Below.refl _ _).drew)) ?_;refine aG ?_;refine bC (λb c=>(q b c 0 _ Z)) ?_;refine cZ BG (λb c=>(lQ s b).mono (λh k ⟨x,Ê⟩=>⟨by rw[x,Ç.out],by rw[<-Ê];exact c⟩)) ?_;refine aG (v:=.bool false) ?_;refine aG (v:=.bool false) ?_;refine aG ?_;refine dh w.heap.size 35 (ak d) (λb c g v A=>q b c (35+g) v (φ g v A)) Ü AB ?_;refine cZ BO (λb c=>(oH d hd b).mono (λh k ⟨x,i⟩=>⟨x,c.next i⟩)) ?_;refine aG ?_;refine bC (λb c=>(q b c 67 _ χ)) ?_;refine aG ?_;refine bC (λb c=>â.out) ?_;refine aG (v:=.bool false) ?_;refine aG (v:=.bool false) ?_;refine aG ?_;refine bC (λb c=>(q.out b c 1 _ α.out)) ?_;refine aG (v:=.bool false) ?_;refine aG (v:=.bool false) ?_;(iterate 4 refine aG ?_);refine aG (v:=.bool false) ?_;refine aG (v:=.bool false) ?_;refine aG (v:=.bool false) ?_;refine aG ?_;refine bC (λb c=>(q.out b c 1 _ α.out)) ?_;refine aG (v:=.bool true) ?_;(iterate 2 refine aG ?_);refine bC (λb c=>(q b c 2 _ Ã)) ?_;refine bC (λb c=>c1.out) ?_;refine aG (v:=.bool false) ?_;(iterate 2 refine aG ?_);refine bC (λb c=>(q b c 2 _ Ã)) ?_;refine bC (λb c=>c2.out) ?_;refine aG (v:=.bool false) ?_;refine aG (v:=.bool false) ?_;refine aG (v:=.bool false) ?_;refine bR ?_;intro e V;(have y:=AA<|Θ.trans (V.below.mono Θ.size));(have ι:=AA<|Ad Δ.lt V.below.size);(have t:=AA<|λb (i:av e b)=>q b (V.next i));have Ë:Hid (∀b,av e b->ax b 1 (some ⟨w.heap.size,35,none⟩) 32 (ak d)):=λb i=>⟨by rw[aB,Û.out],λ_=>⟨_,_,rfl,Ad ι i.size,λg u C=>t b i _ _ (φ g u C)⟩⟩
  have ã:Hid (∀b,av e b->ax b 1 (some ⟨w.heap.size,3,none⟩) 32 (ak ch)):=λb i=>⟨by rw[aB,Ú.out],λ_=>⟨_,_,rfl,Ad ι i.size,λg u C=>by
   have r:=υ (1+g) u (by rw[Nat.add_comm];exact C);rw[show 2+(1+g)=3+g by omega]at r
   exact t b i _ _ r⟩⟩
  have Ì:=AA<|λb (i:av e b)=>L.below (y.trans (i.mono y.size))
  have Í:Hid (0 < j->∀B o,F=some ⟨B,o,none⟩->B < e.heap.size):=λh0 B o h=>by
   obtain⟨ð,ñ,G,ò,-⟩:=L.2.2.at_ ah;rw[h]at G;(injection G with G);(injection G with Ω ó);have:=y.size;omega
  have Î:=t e (Below.refl _ _) 0 _ Z;(have H:=AA<|Below.aJ e (.cells #[.int .u8 50,.int .u8 (s.size:Int)] 5));have Ï:=t _ H 0 _ Z
  have κ:Hid ((e.alloc (.cells #[.int .u8 50,.int .u8 (s.size:Int)] 5)).ownsRow e.heap.size 5 1 (.slice (some ⟨e.heap.size,0,none⟩) 2 2) 2 (ak [50,kb s.size])):=by
   have:=l9 e e.heap.size (AJ _) 5 #[.int .u8 50,.int .u8 (s.size:Int)] 2 rfl (by unfold maxLen;omega);(have h:ak [50,kb s.size]=[.int .u8 50,.int .u8 (s.size:Int)]:=by show[iF 50,iF (kb s.size)]=_;rw[Pd Ù];rfl);show World.ownsRow _ _ _ _ _ _ _;rw[h];exact this
  go_wp2_with (rw[bY 53];refine Lib.wpList_append_own_string _ (o:=⟨some 53,_,_,_,_,_⟩) rfl (.tmp 50) (.tmp 52) 27 9 rfl e.heap.size 5 τ AR CB M N O P (.slice (some ⟨e.heap.size,0,none⟩) 2 2) 2 (ak [50,kb s.size]) rfl κ s rfl (by unfold maxLen;omega) ah H.size ?_;intro ô z μ ν _;obtain⟨Ð,Ñ,rfl,ξ,D⟩:=vF μ ν H H.size κ;have Ω:=t _ D 1 _ α;clear μ ν Î Ï);have aD:=AA D.drew;have À:Hid (av e (z.drew.alloc (.cells #[.int .u8 1] 5))):=aD.alloc aD.size _;refine dI (λb=>av e b) 9 ?_;refine aH 0 aD ?_;refine aH 3 aD ?_;refine aH 4 aD ?_;refine eG 5 aD (λb c=>t b c 2 _ Ã) ?_;refine jJ 1 À ?_;refine aU 2 ?_;refine gW _ (.tmp 56) (.tmp 57) 27 rfl e.heap.size 5 τ (.int .u8 0) 1 1 AR M N O P rfl aR (.slice Ð (2+s.size) Ñ) (2+s.size) (ak ([50,kb s.size]++aX s)) rfl (dz (w:=z.drew) ξ (Below.aJ z.drew _)) (some ⟨z.heap.size,0,none⟩) 1 1 (ak [1]) rfl (aL.reads (aL.new z.drew _ _) 0 _ rfl (λg u C=>by rw[Nat.zero_add,List.getElem?_toArray];exact C)) (λh=>by cases h) (aY _) (by unfold maxLen;omega) ah À.size ?_;intro ć β l;obtain⟨Ĉ,ĉ,rfl,þ,å⟩:=dM l À À.size (dz (w:=z.drew) ξ (Below.aJ z.drew _)) (([50,kb s.size]++aX s)++[1]) rfl (3+s.size) ah;clear l;refine aV å ?_;refine aU 6 ?_;refine cK (R:=λv k=>v=.slice (some ⟨β.heap.size,0,none⟩) 8 8/\av β k/\k.ownsRow β.heap.size 5 1 (.slice (some ⟨β.heap.size,0,none⟩) 8 8) 8 (ak (jM n))) Bd ((î n ý β β.heap.size rfl).mono λh k ⟨x,i,ο⟩=>⟨_,x,rfl,i,ο⟩) ?_;rintro Ċ ä ⟨rfl,Ø,æ⟩;have E:=aQ å Ø;have Q:=AA (dz þ Ø);obtain⟨ċ,cl,ÿ,-,-,Á,-⟩:=iH æ;(injection ÿ with Ā Č ā);subst Ā ā;replace Á:=AA Á;clear æ Ø;refine aV E ?_;refine aU 7 ?_;refine jK (.tmp 58) (.tmp 62) AR M N O P Q Á (λh=>by cases h) (aY _) (by unfold maxLen;omega) ah E.size ?_;intro č Ď l;obtain⟨ď,Đ,rfl,ç,γ⟩:=dM l E E.size Q (([50,kb s.size]++aX s)++[1]++jM n) rfl (11+s.size) ah;clear l Á;refine aV γ ?_;refine aH 8 γ ?_;refine bT ?_;go_wp2_with (rw[bY 68];refine iL (.tmp 64) (.tmp 67) AR M N O P ç (ã _ γ) (λh=>by cases h) (aY _) (by unfold maxLen;omega) ah γ.size ?_;intro õ ä l;obtain⟨ö,ø,rfl,Q,E⟩:=dM l γ γ.size ç (([50,kb s.size]++aX s)++[1]++jM n++ch) rfl (43+s.size) ah;clear l);have m:=AA E.drew;refine dI (λb=>av e b) 8 ?_;refine aH 0 m ?_;refine aH 1 m ?_;refine aH 2 m ?_;refine aH 4 m ?_;refine eG 5 m (λb c=>t b c 67 _ χ) ?_;refine aU 3 ?_;refine jK (.tmp 72) (.tmp 74) AR M N O P Q (Ë _ m) (λh=>by cases h) (aY _) (by unfold maxLen;omega) ah E.size ?_;intro ù W l;obtain⟨Ò,Ó,rfl,Ô,I⟩:=dM l m m.size Q ((([50,kb s.size]++aX s)++[1]++jM n++ch)++d) rfl (43+s.size+32) rfl;clear l;refine aV I ?_;refine aU 6 ?_;refine cK (R:=λv k=>k.ownsRow e.heap.size 5 1 v (43+s.size+32+32*j) (ak ((([50,kb s.size]++aX s)++[1]++jM n++ch)++d++ds.flatten))/\Below e.heap.size W k) Bf ((o8 e.heap.size ((([50,kb s.size]++aX s)++[1]++jM n++ch)++d) (43+s.size+32) Ò Ó ds j F Y W I.size Ô (Ì W I) Í ah).mono λh k ⟨v,x,ο,i⟩=>⟨_,x,ο,i⟩) ?_;rintro ú û ⟨J,ρ⟩;obtain⟨Õ,Ö,rfl,-⟩:=iH J;(have X:=AA<|I.trans ρ);replace J:=AA J;clear ρ;refine aV X ?_;refine aH 7 X ?_;refine bT ?_;go_wp2_with fail;go_ret;refine⟨.slice Õ (43+s.size+32+32*j) Ö,rfl,?_,y.trans (X.mono y.size)⟩;have σ:=ε.out;simp only[if_true]at σ;rw[σ];have r:=cO J y.size;rw[show 75+s.size+32*j=43+s.size+32+32*j by omega];(have h:uL s true (n:Int) ch d ds=(([50,kb s.size]++aX s)++[1]++jM n++ch)++d++ds.flatten:=by simp[uL]);rw[h];exact r
def dA(s:Int)(q:aj):aj:=dP (bB q) (cu s)
theorem lg(a:Int)(b:aj):(dA a b).length=32:=eT _ _ (eU _) (fD a).2
def FX(s:Int)(a b:List aj):Prop:=∃(i:Nat) (p q:aj),a[i]?=some p/\b[i]?=some q/\p≠q/\dA s p=dA s q
def r9(s:Int)(l:List aj):Prop:=∃p q,p∈l/\q∈l/\p≠q/\dA s p=dA s q
theorem FX.met{a:Int}{b c:List aj}(d:FX a b c):r9 a (b++c):=by
 obtain⟨h,a,b,c,e,f,g⟩:=d;exact⟨a,b,List.mem_append_left _ (Ab c),List.mem_append_right _ (Ab e),f,g⟩
theorem FX.more{a:Int}{b c d e:List aj}(f:FX a b c):FX a (b++d) (c++e):=by
 obtain⟨c,d,e,a,b,g,h⟩:=f;exact⟨c,d,e,by rw[List.getElem?_append_left (List.getElem?_eq_some_iff.1 a).1];exact a,by rw[List.getElem?_append_left (List.getElem?_eq_some_iff.1 b).1];exact b,g,h⟩
theorem FX.last{c:Int}{d e:List aj}{a b:aj}(f:d.length=e.length)(g:a≠b)(h:dA c a=dA c b):FX c (d++[a]) (e++[b]):=
 ⟨d.length,a,b,by simp,by rw[f];simp,g,h⟩
theorem r9.mono{s:Int}{b c:List aj}(d:r9 s b)(hs:∀a∈b,a∈c):r9 s c:=by
 obtain⟨a,b,c,e,f,g⟩:=d;exact⟨a,b,hs a c,hs b e,f,g⟩
def X7(s:Int)(a b:aj):aj:=dA s (kb 4 :: (a++b))
theorem TL(a:Int)(b c:aj):(X7 a b c).length=32:=lg _ _
def bU(s:Int):Nat->aj
 | 0=>dA s [kb 5]
 | h+1=>X7 s (bU s h) (bU s h)
theorem jL(s:Int):∀a,(bU s a).length=32
 | 0=>lg _ _
 | _+1=>TL _ _ _
def kF(s:Int)(n:Nat):List aj:=(List.range n).map (bU s)
theorem nX(a:Int)(n:Nat):(kF a n).length=n:=by simp[kF]
theorem Hw(a:Int)(b:Nat):kF a (b+1)=kF a b++[bU a b]:=by unfold kF;rw[List.range_succ,List.map_append];rfl
theorem wK(b:Int){c a:Nat}(d:a < c):(kF b c)[a]?=some (bU b a):=by unfold kF;rw[List.getElem?_map,List.getElem?_range d];rfl
theorem tH(a:Int)(n:Nat):jk (kF a n):=λb hd=>by
 unfold kF at hd;obtain⟨b,-,rfl⟩:=Aq.1 hd;exact jL a b
def dQ(d:aj)(h:Nat):Bool:=(d.getD (h / 8) 0).toNat / 2 ^ (h % 8) % 2==1
def Ff(k:aj)(i:Nat):Nat:=(k.getD (i / 8) 0).toNat / 2 ^ (7 - i % 8) % 2
def bg(d:aj):Nat->Nat
 | 0=>0
 | h+1=>bg d h+(if dQ d h then 1 else 0)
theorem vw(b:aj):∀a,bg b a<=a
 | 0=>AJ _
 | a+1=>by
  have:=vw b a;show bg b a+_<=a+1
  split<;>omega
theorem Nk(c:aj){b a:Nat}(d:b<=a):bg c b<=bg c a:=by
 induction a with
 | zero=>rw[Nat.le_zero.1 d];exact AJ _
 | succ a c=>
  rcases Nat.lt_or_ge b (a+1)with d | d
  ·exact AZ (c ah) (Nat.le_add_right _ _)
  ·have:b=a+1:=ah
   rw[this];exact AJ _
theorem yV(a:aj){b c:Nat}(d:dQ a b=true)(e:b < c):bg a b < bg a c:=by
 have:=Nk a (show b+1<=c from e);(have c:bg a (b+1)=bg a b+1:=by show bg a b+_=_;rw[d];rfl);omega
def YB(b:Fin 256):Nat:=(b.val / 2 ^ 0 % 2)+(b.val / 2 ^ 1 % 2)+(b.val / 2 ^ 2 % 2)+(b.val / 2 ^ 3 % 2)+(b.val / 2 ^ 4 % 2)+(b.val / 2 ^ 5 % 2)+(b.val / 2 ^ 6 % 2)+(b.val / 2 ^ 7 % 2)
theorem TT:∀a:Fin 256,Lib.onesCount a.val=YB a:=by decide+kernel
theorem X8(a:Nat):(if(a % 2==1)=true then 1 else 0)=a % 2:=by
 rcases Nat.mod_two_eq_zero_or_one a with b | b<;>rw[b]<;>rfl
theorem Nj(c:aj)(b a:Nat)(d:a < 8):bg c (8*b+a+1)=bg c (8*b+a)+(c.getD b 0).toNat / 2 ^ a % 2:=by
 show bg c (8*b+a)+(if dQ c (8*b+a)=true then 1 else 0)=_;unfold dQ;rw[show(8*b+a) / 8=b by omega,show(8*b+a) % 8=a by omega,X8]
theorem KL(a:Nat->Nat)(b:Nat)(c:Nat->Nat)(d:∀e,e < 8->a (b+e+1)=a (b+e)+c e):a (b+8)=a b+(c 0+c 1+c 2+c 3+c 4+c 5+c 6+c 7):=by
 have e:a (b+1)=a b+c 0:=d 0 (by omega);have e:a (b+2)=a (b+1)+c 1:=d 1 (by omega);have e:a (b+3)=a (b+2)+c 2:=d 2 (by omega);have e:a (b+4)=a (b+3)+c 3:=d 3 (by omega);have e:a (b+5)=a (b+4)+c 4:=d 4 (by omega);have e:a (b+6)=a (b+5)+c 5:=d 5 (by omega);have e:a (b+7)=a (b+6)+c 6:=d 6 (by omega);have e:a (b+8)=a (b+7)+c 7:=d 7 (by omega);omega
theorem Nl(b:aj)(a:Nat):bg b (8*(a+1))=bg b (8*a)+Lib.onesCount (b.getD a 0).toNat:=by
 have c:=TT ⟨(b.getD a 0).toNat,(b.getD a 0).isLt⟩;have d:=KL (bg b) (8*a) (λe=>(b.getD a 0).toNat / 2 ^ e % 2) (Nj b a);exact(congrArg (bg b) (show 8*(a+1)=8*a+8 by omega)).trans (d.trans (congrArg (bg b (8*a)+·) c.symm))
theorem E5(b:aj):∀a,a<=b.length->bg b (8*a)=fF (b.take a)
 | 0,_=>rfl
 | a+1,c=>by
  (have c:b[a]?=some (b.getD a 0):=by rw[List.getD_eq_getElem?_getD,List.getElem?_eq_getElem (show a < b.length by omega)];rfl);rw[Nl,E5 b a ah,rR b a _ c]
theorem sZ(a:aj)(b:a.length=32):bg a 256=fF a:=by
 have:=E5 a 32 ah;rw[List.take_of_length_le ah]at this;exact this
def Qm(s:Int)(d:aj)(ds:List aj)(h:Nat):Option aj:=
 if dQ d h then(let x:=ds.getD (bg d h) [];if x=bU s h\/dP x (cu s)≠x then none else some x)else some (bU s h)
def mY(s:Int)(d:aj)(ds:List aj):Nat->Option (List aj)
 | 0=>some []
 | h+1=>match mY s d ds h with
  | none=>none
  | some l=>match Qm s d ds h with
   | none=>none
   | some x=>some (l++[x])
theorem vv{d:Int}{e:aj}{f:List aj}:∀{c:Nat} {b:List aj},mY d e f c=some b->b.length=c
 | 0,b,a=>by cases a;rfl
 | c+1,b,a=>by
  unfold mY at a
  split at a
  ·cases a
  ·rename_i h g
   split at a
   ·cases a
   ·cases a
    rw[List.length_append,vv g];rfl
theorem G7{b:Int}{c:aj}{d:List aj}{e:Nat}(f:mY b c d e=none):∀a,mY b c d (e+a)=none
 | 0=>f
 | a+1=>by
  show(match mY b c d (e+a)with | none=>none | some b=>_)=none;rw[G7 f a]
theorem Vb{e:Int}{c:aj}{d:List aj}{b:Nat}{f:aj}(hd:jk d)(g:dQ c b=true->bg c b < d.length)(a:Qm e c d b=some f):f.length=32:=by
 unfold Qm at a
 split at a
 ·rename_i h
  dsimp only at a
  split at a
  ·cases a
  ·cases a
   have:=g h;rw[List.getD_eq_getElem?_getD,List.getElem?_eq_getElem this];exact hd _ (CQ this)
 ·cases a
  exact jL e b
theorem G8{g:Int}{d:aj}{e:List aj}(hd:jk e){m:Nat}(f:bg d m<=e.length):∀{b:Nat} {c:List aj},b<=m->mY g d e b=some c->jk c
 | 0,c,_,a=>by cases a;exact λ_ b=>by cases b
 | b+1,c,k,a=>by
  unfold mY at a
  split at a
  ·cases a
  ·rename_i l h
   split at a
   ·cases a
   ·rename_i n i
    cases a;exact(G8 hd f ah h).append_ (jk.one (Vb hd (λj=>Ad (yV d j (show b < m by omega)) f) i))
def Ma(k:aj)(h:Nat)(x n:aj):aj:=kb 4 :: (if Ff k (255 - h)=0 then x++n else n++x)
def dG(s:Int)(k t0:aj)(l:List aj):Nat->List aj×aj
 | 0=>([t0],dA s t0)
 | h+1=>let p:=dG s k t0 l h;let t:=Ma k h p.2 (l.getD h []);(p.1++[t],dA s t)
theorem yX(b:Int)(c d:aj)(e:List aj):∀a,(dG b c d e a).1.length=a+1
 | 0=>rfl
 | a+1=>by
  show(_++[_]).length=_;rw[List.length_append,yX b c d e a];rfl
theorem yY(a:Int)(b c:aj)(d:List aj):∀e,(dG a b c d e).2.length=32
 | 0=>lg _ _
 | _+1=>lg _ _
def wU(k:aj)(f:Bool)(cnt:Int)(ch:aj):aj:=if f then kb 3 :: (k++(jM cnt.toNat++ch))else[kb 5]
def Ee(s:Int)(root k:aj)(f:Bool)(cnt:Int)(ch d:aj)(ds:List aj):Int:=
 match mY s d ds 256 with
 | none=>170
 | some l=>if(dG s k (wU k f cnt ch) l 256).2=root then 0 else 171
def qU(nm:aj):aj:=bB (kb 6 :: nm)
theorem Hf(nm:aj):(qU nm).length=32:=eU _
theorem Wq(a:aj)(b:a.length=32):dP a (cu 32)=a:=by
 unfold dP splice;rw[show cu 32=32 from rfl,List.take_of_length_le ah,List.drop_of_length_le (by simp;omega)];simp
theorem FJ(b c:aj)(i:b.length=32)(j:c.length=32)(g:Int)(a:World)(h:bn a):
  bq 116 #[.int .i64 g,.agg (ak b).toArray,.agg (ak c).toArray] a (.agg (ak (dP (bB (kb 4 :: (b++c))) (cu g))).toArray):=by
 have f:[b,c].flatten=b++c:=by simp
 rw[<-f]
 obtain⟨e,hx⟩:=bG (dP (bB (kb 4 :: [b,c].flatten)) (cu g))
 have d:e.length=32:=hx.out ▸ eT _ _ (eU _) (fD g).2
 rw[<-hx.out]
 have s:=AA (bI e d)
 have t:Hid ((bF:Array Value).size=(ak e).toArray.size):=by show _=_;simp[aB,d,bF]
 have k:=AA (bO e)
 clear d
 replace h:=AA h
 have u:Hid ([b,c].flatten.length=64):=by show _=_;simp[i,j]
 clear f
 obtain⟨d,f⟩:∃d,Hid (d=((((a.alloc (.cells (ak b).toArray 23)).alloc (.cells (ak c).toArray 23)).alloc (.cells bF 23)).drew.alloc (.cells #[.slice (some ⟨a.heap.size,0,none⟩) 32 32,.slice (some ⟨a.heap.size+1,0,none⟩) 32 32] 27))):=⟨_,rfl⟩
 have m:d.heap[a.heap.size]?=some (.cells (ak b).toArray 23 (0,0)):=f.out ▸ OQ a _ _ _ _
 have n:d.heap[a.heap.size+1]?=some (.cells (ak c).toArray 23 (0,0)):=f.out ▸ OP a _ _ _ _
 have o:Hid (aL d (a.heap.size+2) 23 bF):=f.out ▸ OO a _ _ _ _
 have k:d.heap[a.heap.size+3]?=some (.cells #[.slice (some ⟨a.heap.size,0,none⟩) 32 32,.slice (some ⟨a.heap.size+1,0,none⟩) 32 32] 27 (0,0)):=f.out ▸ OM a _ _ _ _
 have p:Hid (av a d):=f.out ▸ OL a _ _ _ _
 have q:Hid (d.heap.size=a.heap.size+4):=by show _=_;rw[f.out];simp
 have v:Hid (gq d (some ⟨a.heap.size+3,0,none⟩) [b,c]):=λ_=>⟨a.heap.size+3,0,rfl,by have:=q.out;omega,λr l d=>by
  match r with
  | 0=>
   obtain rfl:=AL d;exact⟨some ⟨a.heap.size,0,none⟩,32,by rw[cell_of_row _ _ _ _ _ _ k,i];rfl,ah,kU m,λl=>by cases l⟩
  | 1=>
   obtain rfl:=AL d;exact⟨some ⟨a.heap.size+1,0,none⟩,32,by rw[cell_of_row _ _ _ _ _ _ k,j];rfl,ah,kU n,λl=>by cases l⟩
  | r+2=>simp at d⟩
 have d:Hid ((ak e).length=32):=by show _=_;have:=t.out;simp[bF]at this;omega
 have l:=d.out
 clear m n k i j
 go_enter func116,ntmps116
 go_wp2_with fail
 go_region_law (go_simp;go_at_call 115;change Calls _ _ _ ((((a.alloc (.cells (ak b).toArray 23)).alloc (.cells (ak c).toArray 23)).alloc (.cells bF 23)).drew.alloc (.cells #[.slice (some ⟨a.heap.size,0,none⟩) 32 32,.slice (some ⟨a.heap.size+1,0,none⟩) 32 32] 27)) _;rw[<-f.out];refine(xW [b,c] 2 rfl (some ⟨a.heap.size+3,0,none⟩) 2 g 4 _ (h.below p h.1) (aC u) ah v).mono ?_;rw[<-hx.out];rintro f c ⟨rfl,b⟩;replace b:=AA b;have f:Hid (aL c (a.heap.size+2) 23 bF):=(b.block (a.heap.size+2) o.lt).trans o;have g:=AA<|p.trans (b.mono (aC q));have b:(storeCells ⟨a.heap.size+1+1,0,none⟩ (ak e)).run prog c=.ok () (c.setRow (a.heap.size+2) (ak e).toArray):=je f (by have:=d.out;simp[bF];omega) (aY e))
 go_wp2_with fail
 refine gI (setRow_heap _ _ _ _ _ _ f) s AB ?_
 exact⟨rfl,below_setRow g ah _⟩
theorem Gd(b c:aj)(h:b.length=32)(i:c.length=32)(g:Int)(a:World)(j:g < 9223372036854775808):
  bq 245 #[.int .i64 g,.agg (ak b).toArray,.agg (ak c).toArray] a (.agg (ak (dP (bB (kb 4 :: (b++c))) (cu g))).toArray):=by
 have f:[b,c].flatten=b++c:=by simp
 rw[<-f]
 obtain⟨e,hx⟩:=bG (dP (bB (kb 4 :: [b,c].flatten)) (cu g))
 have d:e.length=32:=hx.out ▸ eT _ _ (eU _) (fD g).2
 rw[<-hx.out]
 have r:=AA (bI e d)
 have s:Hid ((bF:Array Value).size=(ak e).toArray.size):=by show _=_;simp[aB,d,bF]
 have k:=AA (bO e)
 clear d
 replace j:=AA j
 have t:Hid ([b,c].flatten.length=64):=by show _=_;simp[h,i]
 clear f
 obtain⟨d,f⟩:∃d,Hid (d=((((a.alloc (.cells (ak b).toArray 23)).alloc (.cells (ak c).toArray 23)).alloc (.cells bF 23)).drew.alloc (.cells #[.slice (some ⟨a.heap.size,0,none⟩) 32 32,.slice (some ⟨a.heap.size+1,0,none⟩) 32 32] 27))):=⟨_,rfl⟩
 have m:d.heap[a.heap.size]?=some (.cells (ak b).toArray 23 (0,0)):=f.out ▸ OQ a _ _ _ _
 have n:d.heap[a.heap.size+1]?=some (.cells (ak c).toArray 23 (0,0)):=f.out ▸ OP a _ _ _ _
 have o:Hid (aL d (a.heap.size+2) 23 bF):=f.out ▸ OO a _ _ _ _
 have k:d.heap[a.heap.size+3]?=some (.cells #[.slice (some ⟨a.heap.size,0,none⟩) 32 32,.slice (some ⟨a.heap.size+1,0,none⟩) 32 32] 27 (0,0)):=f.out ▸ OM a _ _ _ _
 have u:Hid (av a d):=f.out ▸ OL a _ _ _ _
 have p:Hid (d.heap.size=a.heap.size+4):=by show _=_;rw[f.out];simp
 have v:Hid (gq d (some ⟨a.heap.size+3,0,none⟩) [b,c]):=λ_=>⟨a.heap.size+3,0,rfl,by have:=p.out;omega,λq l d=>by
  match q with
  | 0=>
   obtain rfl:=AL d;exact⟨some ⟨a.heap.size,0,none⟩,32,by rw[cell_of_row _ _ _ _ _ _ k,h];rfl,ah,kU m,λl=>by cases l⟩
  | 1=>
   obtain rfl:=AL d;exact⟨some ⟨a.heap.size+1,0,none⟩,32,by rw[cell_of_row _ _ _ _ _ _ k,i];rfl,ah,kU n,λl=>by cases l⟩
  | q+2=>simp at d⟩
 have d:Hid ((ak e).length=32):=by show _=_;have:=s.out;simp[bF]at this;omega
 have l:=d.out
 clear m n k h i
 go_enter func245,ntmps245
 go_wp2_with fail
 go_region_law (go_simp;go_at_call 182;change Calls _ _ _ ((((a.alloc (.cells (ak b).toArray 23)).alloc (.cells (ak c).toArray 23)).alloc (.cells bF 23)).drew.alloc (.cells #[.slice (some ⟨a.heap.size,0,none⟩) 32 32,.slice (some ⟨a.heap.size+1,0,none⟩) 32 32] 27)) _;rw[<-f.out];refine(ql [b,c] 2 rfl (some ⟨a.heap.size+3,0,none⟩) 2 g 4 j _ (aC t) ah v).mono ?_;rw[<-hx.out];rintro f c ⟨rfl,b⟩;replace b:=AA b;have f:Hid (aL c (a.heap.size+2) 23 bF):=(b.block (a.heap.size+2) o.lt).trans o;have g:=AA<|u.trans (b.mono (aC p));have b:(storeCells ⟨a.heap.size+1+1,0,none⟩ (ak e)).run prog c=.ok () (c.setRow (a.heap.size+2) (ak e).toArray):=je f (by have:=d.out;simp[bF];omega) (aY e))
 go_wp2_with fail
 refine gI (setRow_heap _ _ _ _ _ _ f) r AB ?_
 exact⟨rfl,below_setRow g ah _⟩
theorem NP(b:Int)(a:World)(d:bn a):
  bq 49 #[.int .i64 b,.int .i64 0] a (.agg (ak (bU b 0)).toArray):=by
 have g:bU b 0=dP (bB (kb 5 :: ([]:List aj).flatten)) (cu b):=rfl
 rw[g]
 obtain⟨c,hx⟩:=bG (dP (bB (kb 5 :: ([]:List aj).flatten)) (cu b))
 have f:c.length=32:=hx.out ▸ eT _ _ (eU _) (fD b).2
 rw[<-hx.out]
 have e:=AA (bI c f)
 have h:Hid ((bF:Array Value).size=(ak c).toArray.size):=by show _=_;simp[aB,f,bF]
 have i:=AA (bO c)
 clear f g
 replace d:=AA d
 go_enter Bo,ntmps49
 go_wp2_with (first
  |(go_at_call 115;refine(xW [] 0 rfl none 0 b 5 (a.alloc (.cells bF 23)) (d.below (Below.aJ a (.cells bF 23)) d.1) aZ ah (λf=>absurd f (BJ 0))).mono ?_;rw[<-hx.out];rintro f b ⟨rfl,d⟩;replace d:=AA (show Below (a.heap.size+1) (a.alloc (.cells bF 23)) b by simpa[av]using d);have f:Hid (aL b a.heap.size 23 bF):=(d.block a.heap.size ah).trans (heap_alloc_new a _);have g:=AA<|(Below.aJ a (.cells bF 23)).trans (d.mono ah))
  |(rw[iE 23 5];refine fZ (o:=⟨none,_,_,_,_,_⟩) rfl 23 (.tmp 5) (.tmp 7) rfl b.heap.size ((ak c).toArray) rfl rfl 23 bF (aL.new b _ _) e h i ?_;intro j b c;have k:=AA<|g.trans ((dx c).mono g.size);have d:Hid (aL j a.heap.size 23 bF):=((dx c).block a.heap.size f.lt).trans f;replace b:=AA b;clear c))
 refine wp_loop_rounds 1 ?_
 rw[rounds_succ]
 go_wp2_with (first
  |(rw[aF 18];refine aM b e AB ?_)
  |(rw[bA 23 _];refine fw d e h i ?_))
 refine gI (setRow_heap _ _ _ _ _ _ d) e AB ?_
 exact⟨rfl,below_setRow k (AJ _) _⟩
theorem wZ{b:World}{c C:Nat}{T:TypeId}{fz:Nat×Nat}{a:ByteArray}(d:b.heap[c]?=some (.cells (bytesRow a C) T fz)):ax b 1 (some ⟨c,0,none⟩) (aX a).length (ak (aX a)):=mq d
theorem SF(b:World)(a:ByteArray)(C:Nat)(j:a.size<=C){c:World}(d:(((b.alloc (.cells bF 23)).drew.alloc (.cells (bytesRow a C) 5 ((bytesRow a C).size,(bytesRow a C).size+1))).alloc (.cells #[.slice (some ⟨b.heap.size+1,0,none⟩) a.size C] 27))=c):gq c (some ⟨b.heap.size+2,0,none⟩) [aX a]/\av b c/\aL c b.heap.size 23 bF:=by
 subst d;(have d:(b.alloc (.cells bF 23)).drew.heap.size=b.heap.size+1:=by simp);have h0:aL (b.alloc (.cells bF 23)).drew b.heap.size 23 bF:=(aL.new b _ _).drew;have e:av b (b.alloc (.cells bF 23)).drew:=(Below.aJ b _).drew;generalize(b.alloc (.cells bF 23)).drew=c at*;(have f:c.heap.size < (c.alloc (.cells (bytesRow a C) 5 ((bytesRow a C).size,(bytesRow a C).size+1))).heap.size:=by simp);have g:(c.alloc (.cells (bytesRow a C) 5 ((bytesRow a C).size,(bytesRow a C).size+1))).heap[c.heap.size]?=some (.cells (bytesRow a C) 5 ((bytesRow a C).size,(bytesRow a C).size+1)):=heap_alloc_new c _;(have i:(c.alloc (.cells (bytesRow a C) 5 ((bytesRow a C).size,(bytesRow a C).size+1))).heap.size=b.heap.size+2:=by simp[d]);have k:aL (c.alloc (.cells (bytesRow a C) 5 ((bytesRow a C).size,(bytesRow a C).size+1))) b.heap.size 23 bF:=h0.alloc _;have h:av b (c.alloc (.cells (bytesRow a C) 5 ((bytesRow a C).size,(bytesRow a C).size+1))):=e.alloc e.size _;generalize c.alloc (.cells (bytesRow a C) 5 ((bytesRow a C).size,(bytesRow a C).size+1))=e at*;have c:=aL.new e 27 #[.slice (some ⟨b.heap.size+1,0,none⟩) a.size C];rw[i]at c;refine⟨λ_=>⟨b.heap.size+2,0,rfl,c.lt,λe l i=>?_⟩,h.alloc h.size _,k.alloc _⟩
 match e with
 | 0=>
  obtain rfl:=AL i;rw[d]at g f;refine⟨some ⟨b.heap.size+1,0,none⟩,C,(c.cell 0).trans (by rw[qO];rfl),by rw[qO];exact j,wZ (fz:=((bytesRow a C).size,(bytesRow a C).size+1)) (T:=5) (C:=C) ?_,λa=>by cases a⟩;rw[Below.heap_alloc _ _ _ f];exact g
 | e+1=>simp at i
theorem Vm(a:ByteArray)(hs:a.size < 140737488355328)(b:World)(d:bn b):
  bq 194 #[.string a] b (.agg (ak (qU (aX a))).toArray):=by
 have f:qU (aX a)=dP (bB (kb 6 :: [aX a].flatten)) (cu 32):=by rw[Wq _ (eU _)];simp[qU]
 rw[f]
 obtain⟨c,hx⟩:=bG (dP (bB (kb 6 :: [aX a].flatten)) (cu 32))
 have e:c.length=32:=hx.out ▸ eT _ _ (eU _) (fD 32).2
 rw[<-hx.out]
 have g:=AA (bI c e)
 have k:Hid ((bF:Array Value).size=(ak c).toArray.size):=by show _=_;simp[aB,e,bF]
 have l:=AA (bO c)
 replace hs:=AA hs
 clear e
 replace d:=AA d
 clear f
 have c:=λc=>run_bytes_of_string c _ _ _ a CB AR underlying5
 go_enter func194,ntmps194
 go_wp2_with (first
  |(go_at_call 115;generalize h:grownCap _ a.size 0 5=c;have m:a.size<=c:=(by rw[<-h];exact grownCap_ge _ _ _ _);change Calls _ _ _ (((b.alloc (.cells bF 23)).drew.alloc (.cells (bytesRow a c) 5 ((bytesRow a c).size,(bytesRow a c).size+1))).alloc (.cells #[.slice (some ⟨b.heap.size+1,0,none⟩) a.size c] 27)) _;generalize i:(((b.alloc (.cells bF 23)).drew.alloc (.cells (bytesRow a c) 5 ((bytesRow a c).size,(bytesRow a c).size+1))).alloc (.cells #[.slice (some ⟨b.heap.size+1,0,none⟩) a.size c] 27))=n;obtain⟨j,e,f⟩:=SF b a c m i;clear h i;refine(xW [aX a] 1 rfl (some ⟨b.heap.size+2,0,none⟩) 1 32 6 n (d.below e d.1) (by have:=hs.out;simp[qO];omega) ah j).mono ?_;rw[<-hx.out];rintro c d ⟨rfl,a⟩;have c:Hid (aL d b.heap.size 23 bF):=(a.block b.heap.size f.lt).trans f;have b:=AA<|e.trans (a.mono e.size);clear j e f a)
  |(rw[bA 23 _];refine fw c g k l ?_))
 refine gI (setRow_heap _ _ _ _ _ _ c) g AB ?_
 exact⟨rfl,below_setRow b (AJ _) _⟩
theorem MP(b:ByteArray)(hs:b.size < 140737488355327)(a:World):
  bq 197 #[.string b] a (.agg (ak (qU (aX b))).toArray):=by
 obtain⟨g,h,i,j,k⟩:=fT pI
 have d:qU (aX b)=dP (bB (kb 6 :: [aX b].flatten)) (cu 32):=by rw[Wq _ (eU _)];simp[qU]
 rw[d]
 obtain⟨c,hx⟩:=bG (dP (bB (kb 6 :: [aX b].flatten)) (cu 32))
 have e:c.length=32:=hx.out ▸ eT _ _ (eU _) (fD 32).2
 rw[<-hx.out]
 have f:=AA (bI c e)
 have l:Hid ((bF:Array Value).size=(ak c).toArray.size):=by show _=_;simp[aB,e,bF]
 have m:=AA (bO c)
 replace hs:=AA hs
 clear e
 have n:Hid (bB (kb 6 :: aX b)=c):=by show _=_;rw[hx.out,<-d];rfl
 clear d
 have c:Hid (((a.alloc (.cells bF 23)).alloc (.cells #[.int .u8 6] 5)).ownsRow (a.alloc (.cells bF 23)).heap.size 5 1 (.slice (some ⟨(a.alloc (.cells bF 23)).heap.size,0,none⟩) 1 1) 1 (ak [6])):=ET _ _ _
 have d:Hid (Below (a.alloc (.cells bF 23)).heap.size (a.alloc (.cells bF 23)) ((a.alloc (.cells bF 23)).alloc (.cells #[.int .u8 6] 5))):=Below.aJ _ _
 have p:=AA<|aL.new a 23 bF
 have q:=AA<|Below.aJ a (.cells bF 23)
 have r:Hid ((a.alloc (.cells bF 23)).heap.size=a.heap.size+1):=by show _=_;simp
 have e:Hid (a.heap.size+1<=((a.alloc (.cells bF 23)).alloc (.cells #[.int .u8 6] 5)).heap.size):=by show _<=_;simp
 rw[r.out]at c d
 go_enter func197,ntmps197
 go_wp2_with (first
  |(rw[bY 5];refine Lib.wpList_append_own_string _ (o:=⟨some 5,_,_,_,_,_⟩) rfl (.tmp 3) (.tmp 4) 27 9 rfl (a.heap.size+1) 5 g AR CB h i j k (.slice (some ⟨a.heap.size+1,0,none⟩) 1 1) 1 (ak [6]) rfl c b rfl (by have:=hs.out;unfold maxLen;omega) (aC hs) e ?_;intro j g h i _;obtain⟨r,s,rfl,j,k⟩:=vF h i d e c;have e:Hid (aL g a.heap.size 23 bF):=(k.block a.heap.size ah).trans p;have p:=AA<|q.trans (k.mono ah);obtain⟨k,q,c,t,u,d,-⟩:=iH j;injection c with c _ k;subst c k;replace d:=AA d;clear h i j)
  |(go_at_call 143;refine(oF (kb 6 :: aX b) (1+b.size) (by simp[qO];omega) r s g (aC hs) d).mono ?_;rw[n.out];rintro c d ⟨rfl,b⟩;have c:Hid (aL d a.heap.size 23 bF):=(b.block a.heap.size e.lt).trans e;have a:=aQ p b;clear b)
  |(rw[bA 23 _];refine fw c f l m ?_))
 refine gI (setRow_heap _ _ _ _ _ _ c) f AB ?_
 exact⟨rfl,below_setRow a (AJ _) _⟩
theorem FD(a:Int)(b:Nat):dP (bB (kb 4 :: (bU a b++bU a b))) (cu a)=bU a (b+1):=rfl
theorem La(b:Int)(d:World)(w:bn d):
  Calls prog 280 #[.int .i64 b] d λe l=>∃h W,e=.returned (.slice (some ⟨h,0,none⟩) 257 W)/\l.ownsRow d.heap.size 23 32 (.slice (some ⟨h,0,none⟩) 257 W) 257 ((kF b 257).flatMap ak)/\av d l:=by
 obtain⟨Ψ,X,Y,Z,α⟩:=bV Jc
 obtain⟨m,N⟩:=aS (bU b 0)
 have β:Hid (m.length=32):=N.out ▸ jL b 0
 have γ:Hid (∀c∈[ak m],c.length=32):=by intro c r;simp only[List.mem_singleton]at r;rw[r,aB,β.out]
 have δ:Hid ([ak m].flatten.toArray=(ak m).toArray):=by show _=_;simp
 have ε:Hid ((kF b 1).flatMap ak=ak m):=by show _=_;rw[<-N.out];simp[kF]
 have ζ:Hid (∀l,av d l->bq 49 #[.int .i64 b,.int .i64 0] l (.agg (ak m).toArray)):=λl p=>by rw[<-N.out];exact NP b l (w.below p w.1)
 have η:=AA (λx (hx:x.length=32) l (p:av d l)=>FJ x x hx hx b l (w.below p w.1))
 clear w
 go_enter func280,ntmps280
 go_wp2_with (first
  |(go_at_call 49;refine(ζ d (Below.refl _ _)).mono ?_;rintro e f ⟨rfl,θ⟩;have g:=AA θ;clear θ)
  |(rw[bY 7];refine dL (o:=⟨some 7,_,_,_,_,_⟩) rfl 44 23 1 _ rfl 32 aR [ak m] Ac jN xL rfl aR aR γ rfl ?_;rw[δ.out]))
 have ι:Hid ((f.alloc (.cells (ak m).toArray 23)).ownsRow d.heap.size 23 32 (.slice (some ⟨f.heap.size,0,none⟩) 1 1) 1 ((kF b 1).flatMap ak)):=by
  show World.ownsRow _ _ _ _ _ _ _;rw[ε.out];exact World.ownsRow_lit (base:=d.heap.size) (e:=23) (size:=32) f (ak m).toArray 1 g.size aR (by rw[List.size_toArray,aB,β.out])
 have κ:Hid (av d (f.alloc (.cells (ak m).toArray 23))):=g.alloc g.size _
 go_loopw [3,8] (λω c wr=>∃(j a h F:Nat),ω=.slice (some ⟨h,0,none⟩) a F/\c=.int .i64 (j:Int)/\Hid (a=j+1)/\Hid (j<=256)/\Hid (wr.ownsRow d.heap.size 23 32 (.slice (some ⟨h,0,none⟩) a F) a ((kF b a).flatMap ak))/\Hid (av d wr)) (λ_ c _=>257 - (intOf c).toNat)
 case atStart=>exact⟨0,1,_,_,rfl,rfl,rfl,AX _,ι,κ⟩
 case round=>
  clear ι κ g ζ γ δ ε;obtain⟨j,a,h,F,rfl,rfl,s,μ,O,ν⟩:=hrel;by_cases ξ:j < 256
  ·obtain⟨x,hx⟩:=aS (bU b j)
   have ο:Hid (x.length=32):=hx.out ▸ jL b j;have G:=AA (aP (x:=x) ο);obtain⟨z,H⟩:=aS (bU b (j+1));have P:Hid (z.length=32):=H.out ▸ jL b (j+1);(have ρ:(kF b a)[j]?=some x:=by rw[wK b (by rw[s.out];omega),hx.out]);(have σ:Hid (kF b (a+1)=kF b a++[z]):=by show _=_;rw[Hw,<-H.out,s.out]);have τ:=EU O (tH b a) (nX b a) _ _ rfl
   have I:Hid (∀k c,(ak x)[k]?=some c->wr.cell? ⟨h,j*32+k,none⟩=some c):=λk c r=>by
    obtain⟨Ω,o,e,À,I⟩:=τ.at_ ρ;(injection e with e);(injection e with Γ Δ);subst Γ Δ;have:=I k c r;rwa[Nat.zero_add]at this
   have υ:=AA<|λl p=>by
    have:=η x ο l p;rwa[show dP (bB (kb 4 :: (x++x))) (cu b)=z by rw[<-hx.out,<-H.out];exact FD b j]at this
   (have φ:Hid (∀c∈[ak z],c.length=32):=by intro c r;simp only[List.mem_singleton]at r;rw[r,aB,P.out]);(have χ:Hid ([ak z].flatten.toArray=(ak z).toArray):=by show _=_;simp);(have J:Hid (a<=256):=by have:=s.out;show _<=_;omega);have Á:(j:Int) < (a:Int):=aC s;have Â:(j:Int) < 256:=ah;have Ã:(0:Int)<=(j:Int):=ah;have Ä:(j:Int)+1<=256:=ah;have Å:=AO ((j:Int)+1) ah;(have Æ:IntKind.i64.wrap ((j:Int)+1 - 1)=(j:Int):=by rw[IntWalk.i64_in _ ah];omega);have Ç:=AO ((j:Int)+1+1) ah;have È:=AO (j:Int) ah;have L:=AA ξ;have n:=AA ν.drew;have M:Hid (∀k c,(ak x)[k]?=some c->wr.drew.cell? ⟨h,j*32+k,none⟩=some c):=I;have ψ:Hid (wr.drew.ownsRow d.heap.size 23 32 (.slice (some ⟨h,0,none⟩) a F) a ((kF b a).flatMap ak)):=O;clear ρ ξ H hx τ μ η I;go_wp2_with fail;refine dI (λ_=>True) 14 ?_;refine aH 0 trivial ?_;refine aH 1 trivial ?_;refine aH 2 trivial ?_;refine aH 3 trivial ?_;refine aH 4 trivial ?_;refine aH 6 trivial ?_;refine aH 7 trivial ?_;refine aH 8 trivial ?_;refine iP (i:=5) (j:=9) rfl rfl bH (by rfl) (by rfl) (λK y=>?_) (λK y=>?_)
   ·refine jC 23 (.tmp 15) rfl h (j*32) rfl (ak x) _ M AB rfl G.part ?_
    go_simp;refine y _ _ trivial ?_;clear y K;refine aU 9 ?_;refine jC 23 (.tmp 19) rfl h (j*32) rfl (ak x) _ M AB rfl G.part ?_;refine aV trivial ?_;refine aU 10 ?_;refine cK (R:=λc A=>c=.agg (ak z).toArray/\Below wr.drew.heap.size wr.drew A) func116 ((υ wr.drew n).mono λe A ⟨Q,p⟩=>⟨_,Q,rfl,p⟩) ?_;rintro Θ f ⟨rfl,g⟩;replace g:=AA g;refine aV trivial ?_;have t:=AA (aK (aK ψ g) (Below.aJ f (.cells (ak z).toArray 23)));have q:Hid (av d (f.alloc (.cells (ak z).toArray 23))):=(n.trans (g.mono n.size)).alloc (n.trans (g.mono n.size)).size _;have B:Hid (ax (f.alloc (.cells (ak z).toArray 23)) 32 (some ⟨f.heap.size,0,none⟩) 1 (ak z)):=aL.reads (aL.new f 23 (ak z).toArray) 0 _ (by rw[aB,P.out]) (λk u S=>by rw[Nat.zero_add,List.getElem?_toArray];exact S);(have C:Hid (a+1<=maxLen):=by have:=J.out;show _<=_;unfold maxLen;omega);(have D:Hid ((a+1)*32<=140737488355328):=by have:=J.out;show _<=_;omega);refine aU 11 ?_;refine ig 44 23 1 _ rfl 32 aR [ak z] Ac jN xL rfl aR aR φ rfl ?_;rw[χ.out];refine aV trivial ?_;refine aU 12 ?_;refine jK (.tmp 11) (.tmp 22) Ac X Y Z α t B (λe=>by cases e) (aY z) C D q.size ?_;intro T U v;have E:Hid (U.ownsRow d.heap.size 23 32 T (a+1) ((kF b (a+1)).flatMap ak)):=(by show World.ownsRow _ _ _ _ _ _ _;rw[σ.out,List.flatMap_append,List.flatMap_singleton];exact v.own);(have V:=AA<|v.below q q.size (λk e=>(t.lt k e).1));obtain⟨Ξ,Φ,rfl,-,-⟩:=E.form (Nat.succ_pos _);clear v t q B C D;refine aV trivial ?_;refine aH 13 trivial ?_;refine bT ?_;go_wp2_with fail;go_roundw
    case rel=>exact⟨j+1,a+1,_,_,rfl,by go_num,(show a+1=j+1+1 by have:=s.out;omega),L,E,V⟩
    case measure=>(have:=L.out;simp[intOf];omega)
   ·refine jC 23 (.tmp 19) rfl h (j*32) rfl (ak x) _ M AB rfl G.part ?_
    go_simp;refine y _ _ trivial ?_;clear y K;refine aU 5 ?_;refine jC 23 (.tmp 15) rfl h (j*32) rfl (ak x) _ M AB rfl G.part ?_;refine aV trivial ?_;refine aU 10 ?_;refine cK (R:=λc A=>c=.agg (ak z).toArray/\Below wr.drew.heap.size wr.drew A) func116 ((υ wr.drew n).mono λe A ⟨Q,p⟩=>⟨_,Q,rfl,p⟩) ?_;rintro Θ f ⟨rfl,g⟩;replace g:=AA g;refine aV trivial ?_;have t:=AA (aK (aK ψ g) (Below.aJ f (.cells (ak z).toArray 23)));have q:Hid (av d (f.alloc (.cells (ak z).toArray 23))):=(n.trans (g.mono n.size)).alloc (n.trans (g.mono n.size)).size _;have B:Hid (ax (f.alloc (.cells (ak z).toArray 23)) 32 (some ⟨f.heap.size,0,none⟩) 1 (ak z)):=aL.reads (aL.new f 23 (ak z).toArray) 0 _ (by rw[aB,P.out]) (λk u S=>by rw[Nat.zero_add,List.getElem?_toArray];exact S);(have C:Hid (a+1<=maxLen):=by have:=J.out;show _<=_;unfold maxLen;omega);(have D:Hid ((a+1)*32<=140737488355328):=by have:=J.out;show _<=_;omega);refine aU 11 ?_;refine ig 44 23 1 _ rfl 32 aR [ak z] Ac jN xL rfl aR aR φ rfl ?_;rw[χ.out];refine aV trivial ?_;refine aU 12 ?_;refine jK (.tmp 11) (.tmp 22) Ac X Y Z α t B (λe=>by cases e) (aY z) C D q.size ?_;intro T U v;have E:Hid (U.ownsRow d.heap.size 23 32 T (a+1) ((kF b (a+1)).flatMap ak)):=(by show World.ownsRow _ _ _ _ _ _ _;rw[σ.out,List.flatMap_append,List.flatMap_singleton];exact v.own);(have V:=AA<|v.below q q.size (λk e=>(t.lt k e).1));obtain⟨Ξ,Φ,rfl,-,-⟩:=E.form (Nat.succ_pos _);clear v t q B C D;refine aV trivial ?_;refine aH 13 trivial ?_;refine bT ?_;go_wp2_with fail;go_roundw
    case rel=>exact⟨j+1,a+1,_,_,rfl,by go_num,(show a+1=j+1+1 by have:=s.out;omega),L,E,V⟩
    case measure=>(have:=L.out;simp[intOf];omega)
  ·obtain rfl:j=256:=aC μ
   obtain rfl:a=257:=s;go_wp2_with fail;go_ret;exact⟨_,_,rfl,O,ν⟩
theorem u6(b:Int)(g:World)(M:b < 9223372036854775808):
  Calls prog 183 #[.int .i64 b] g λe l=>∃h W,e=.returned (.slice (some ⟨h,0,none⟩) 257 W)/\l.ownsRow g.heap.size 23 32 (.slice (some ⟨h,0,none⟩) 257 W) 257 ((kF b 257).flatMap ak)/\av g l:=by
 obtain⟨Ω,X,Y,Z,α⟩:=bV Jc
 obtain⟨m,N⟩:=aS (bU b 0)
 have β:Hid (m.length=32):=N.out ▸ jL b 0
 have γ:Hid (∀c∈[ak m],c.length=32):=by intro c q;simp only[List.mem_singleton]at q;rw[q,aB,β.out]
 have δ:Hid ([ak m].flatten.toArray=(ak m).toArray):=by show _=_;simp
 have ε:Hid ((kF b 1).flatMap ak=ak m):=by show _=_;rw[<-N.out];simp[kF]
 have ζ:Hid (∀l,bq 182 #[.int .i64 b,.int .i64 5,.slice none 0 0] l (.agg (ak m).toArray)):=λl=>by rw[<-N.out];exact ql [] 0 rfl none 0 b 5 M l aZ ah (λω=>absurd ω (BJ 0))
 have η:=AA (λx (hx:x.length=32) l (_:av g l)=>Gd x x hx hx b l M)
 clear M
 go_enter func183,ntmps183
 go_wp2_with (first
  |(go_at_call 182;refine(ζ g).mono ?_;rintro e d ⟨rfl,θ⟩;have f:=AA θ;clear θ)
  |(rw[bY 7];refine dL (o:=⟨some 7,_,_,_,_,_⟩) rfl 44 23 1 _ rfl 32 aR [ak m] Ac jN xL rfl aR aR γ rfl ?_;rw[δ.out]))
 have ι:Hid ((d.alloc (.cells (ak m).toArray 23)).ownsRow g.heap.size 23 32 (.slice (some ⟨d.heap.size,0,none⟩) 1 1) 1 ((kF b 1).flatMap ak)):=by
  show World.ownsRow _ _ _ _ _ _ _;rw[ε.out];exact World.ownsRow_lit (base:=g.heap.size) (e:=23) (size:=32) d (ak m).toArray 1 f.size aR (by rw[List.size_toArray,aB,β.out])
 have κ:Hid (av g (d.alloc (.cells (ak m).toArray 23))):=f.alloc f.size _
 go_loopw [3,4] (λΓ c wr=>∃(j a h E:Nat),Γ=.slice (some ⟨h,0,none⟩) a E/\c=.int .i64 ((j:Int)+1)/\Hid (a=j+1)/\Hid (j<=256)/\Hid (wr.ownsRow g.heap.size 23 32 (.slice (some ⟨h,0,none⟩) a E) a ((kF b a).flatMap ak))/\Hid (av g wr)) (λ_ c _=>257 - (intOf c).toNat)
 case atStart=>exact⟨0,1,_,_,rfl,rfl,rfl,AX _,ι,κ⟩
 case round=>
  clear ι κ f ζ γ δ ε;obtain⟨j,a,h,E,rfl,rfl,r,μ,O,ν⟩:=hrel;by_cases ξ:j < 256
  ·obtain⟨x,hx⟩:=aS (bU b j)
   have ο:Hid (x.length=32):=hx.out ▸ jL b j;have F:=AA (aP (x:=x) ο);obtain⟨z,G⟩:=aS (bU b (j+1));have P:Hid (z.length=32):=G.out ▸ jL b (j+1);(have ρ:(kF b a)[j]?=some x:=by rw[wK b (by rw[r.out];omega),hx.out]);(have σ:Hid (kF b (a+1)=kF b a++[z]):=by show _=_;rw[Hw,<-G.out,r.out]);have τ:=EU O (tH b a) (nX b a) _ _ rfl
   have H:Hid (∀k c,(ak x)[k]?=some c->wr.cell? ⟨h,j*32+k,none⟩=some c):=λk c q=>by
    obtain⟨À,o,e,Á,H⟩:=τ.at_ ρ;(injection e with e);(injection e with Δ Θ);subst Δ Θ;have:=H k c q;rwa[Nat.zero_add]at this
   have υ:=AA<|λl v=>by
    have:=η x ο l v;rwa[show dP (bB (kb 4 :: (x++x))) (cu b)=z by rw[<-hx.out,<-G.out];exact FD b j]at this
   (have φ:Hid (∀c∈[ak z],c.length=32):=by intro c q;simp only[List.mem_singleton]at q;rw[q,aB,P.out]);(have χ:Hid ([ak z].flatten.toArray=(ak z).toArray):=by show _=_;simp);(have I:Hid (a<=256):=by have:=r.out;show _<=_;omega);have Â:(j:Int) < (a:Int):=aC r;have Ã:(j:Int) < 256:=ah;have Ä:(0:Int)<=(j:Int):=ah;have Å:(j:Int)+1<=256:=ah;have Æ:=AO ((j:Int)+1) ah;(have Ç:IntKind.i64.wrap ((j:Int)+1 - 1)=(j:Int):=by rw[IntWalk.i64_in _ ah];omega);have È:=AO ((j:Int)+1+1) ah;have É:=AO (j:Int) ah;have J:=AA ξ;have n:=AA ν.drew;have L:Hid (∀k c,(ak x)[k]?=some c->wr.drew.cell? ⟨h,j*32+k,none⟩=some c):=H;have ψ:Hid (wr.drew.ownsRow g.heap.size 23 32 (.slice (some ⟨h,0,none⟩) a E) a ((kF b a).flatMap ak)):=O;clear ρ ξ G hx τ μ η H;go_wp2_with fail;refine dI (λ_=>True) 16 ?_;refine aH 0 trivial ?_;refine aH 1 trivial ?_;refine aH 2 trivial ?_;refine aH 3 trivial ?_;refine aH 4 trivial ?_;refine aH 5 trivial ?_;refine aH 7 trivial ?_;refine aH 8 trivial ?_;refine aH 9 trivial ?_;refine aH 10 trivial ?_;refine iP (i:=6) (j:=11) rfl rfl bH (by rfl) (by rfl) (λK w=>?_) (λK w=>?_)
   ·refine jC 23 (.tmp 17) rfl h (j*32) rfl (ak x) _ L AB rfl F.part ?_
    go_simp;refine w _ _ trivial ?_;clear w K;refine aU 11 ?_;refine jC 23 (.tmp 22) rfl h (j*32) rfl (ak x) _ L AB rfl F.part ?_;refine aV trivial ?_;refine aU 12 ?_;refine cK (R:=λc y=>c=.agg (ak z).toArray/\Below wr.drew.heap.size wr.drew y) func245 ((υ wr.drew n).mono λe y ⟨Q,v⟩=>⟨_,Q,rfl,v⟩) ?_;rintro Ξ d ⟨rfl,f⟩;replace f:=AA f;refine aV trivial ?_;have s:=AA (aK (aK ψ f) (Below.aJ d (.cells (ak z).toArray 23)));have p:Hid (av g (d.alloc (.cells (ak z).toArray 23))):=(n.trans (f.mono n.size)).alloc (n.trans (f.mono n.size)).size _;have A:Hid (ax (d.alloc (.cells (ak z).toArray 23)) 32 (some ⟨d.heap.size,0,none⟩) 1 (ak z)):=aL.reads (aL.new d 23 (ak z).toArray) 0 _ (by rw[aB,P.out]) (λk u S=>by rw[Nat.zero_add,List.getElem?_toArray];exact S);(have B:Hid (a+1<=maxLen):=by have:=I.out;show _<=_;unfold maxLen;omega);(have C:Hid ((a+1)*32<=140737488355328):=by have:=I.out;show _<=_;omega);refine aU 13 ?_;refine ig 44 23 1 _ rfl 32 aR [ak z] Ac jN xL rfl aR aR φ rfl ?_;rw[χ.out];refine aV trivial ?_;refine aU 14 ?_;refine jK (.tmp 12) (.tmp 25) Ac X Y Z α s A (λe=>by cases e) (aY z) B C p.size ?_;intro T U t;have D:Hid (U.ownsRow g.heap.size 23 32 T (a+1) ((kF b (a+1)).flatMap ak)):=(by show World.ownsRow _ _ _ _ _ _ _;rw[σ.out,List.flatMap_append,List.flatMap_singleton];exact t.own);(have V:=AA<|t.below p p.size (λk e=>(s.lt k e).1));obtain⟨Φ,Ψ,rfl,-,-⟩:=D.form (Nat.succ_pos _);clear t s p A B C;refine aV trivial ?_;refine aH 15 trivial ?_;refine bT ?_;go_wp2_with fail;go_roundw
    case rel=>exact⟨j+1,a+1,_,_,rfl,by go_num,(show a+1=j+1+1 by have:=r.out;omega),J,D,V⟩
    case measure=>(have:=J.out;simp[intOf];omega)
   ·refine jC 23 (.tmp 22) rfl h (j*32) rfl (ak x) _ L AB rfl F.part ?_
    go_simp;refine w _ _ trivial ?_;clear w K;refine aU 6 ?_;refine jC 23 (.tmp 17) rfl h (j*32) rfl (ak x) _ L AB rfl F.part ?_;refine aV trivial ?_;refine aU 12 ?_;refine cK (R:=λc y=>c=.agg (ak z).toArray/\Below wr.drew.heap.size wr.drew y) func245 ((υ wr.drew n).mono λe y ⟨Q,v⟩=>⟨_,Q,rfl,v⟩) ?_;rintro Ξ d ⟨rfl,f⟩;replace f:=AA f;refine aV trivial ?_;have s:=AA (aK (aK ψ f) (Below.aJ d (.cells (ak z).toArray 23)));have p:Hid (av g (d.alloc (.cells (ak z).toArray 23))):=(n.trans (f.mono n.size)).alloc (n.trans (f.mono n.size)).size _;have A:Hid (ax (d.alloc (.cells (ak z).toArray 23)) 32 (some ⟨d.heap.size,0,none⟩) 1 (ak z)):=aL.reads (aL.new d 23 (ak z).toArray) 0 _ (by rw[aB,P.out]) (λk u S=>by rw[Nat.zero_add,List.getElem?_toArray];exact S);(have B:Hid (a+1<=maxLen):=by have:=I.out;show _<=_;unfold maxLen;omega);(have C:Hid ((a+1)*32<=140737488355328):=by have:=I.out;show _<=_;omega);refine aU 13 ?_;refine ig 44 23 1 _ rfl 32 aR [ak z] Ac jN xL rfl aR aR φ rfl ?_;rw[χ.out];refine aV trivial ?_;refine aU 14 ?_;refine jK (.tmp 12) (.tmp 25) Ac X Y Z α s A (λe=>by cases e) (aY z) B C p.size ?_;intro T U t;have D:Hid (U.ownsRow g.heap.size 23 32 T (a+1) ((kF b (a+1)).flatMap ak)):=(by show World.ownsRow _ _ _ _ _ _ _;rw[σ.out,List.flatMap_append,List.flatMap_singleton];exact t.own);(have V:=AA<|t.below p p.size (λk e=>(s.lt k e).1));obtain⟨Φ,Ψ,rfl,-,-⟩:=D.form (Nat.succ_pos _);clear t s p A B C;refine aV trivial ?_;refine aH 15 trivial ?_;refine bT ?_;go_wp2_with fail;go_roundw
    case rel=>exact⟨j+1,a+1,_,_,rfl,by go_num,(show a+1=j+1+1 by have:=r.out;omega),J,D,V⟩
    case measure=>(have:=J.out;simp[intOf];omega)
  ·obtain rfl:j=256:=aC μ
   obtain rfl:a=257:=r;go_wp2_with fail;go_ret;exact⟨_,_,rfl,O,ν⟩
theorem NN(b:Int)(d:World)(g:bn d):
  bq 49 #[.int .i64 b,.int .i64 256] d (.agg (ak (bU b 256)).toArray):=by
 obtain⟨c,f⟩:∃c:Nat->aj,Hid (∀a,bU b a=c a):=⟨_,λ_=>rfl⟩
 have i:Hid (∀a,(c a).length=32):=λa=>by rw[<-f.out];exact jL b a
 have h0:Hid (∀e,Below d.heap.size d e->∀h j,bq 115 #[.int .i64 b,.int .i64 5,.slice h 0 j] e (.agg (ak (c 0)).toArray)):=λe k h j=>by
  have:=xW [] 0 rfl h j b 5 e (g.below k g.1) aZ ah (λl=>absurd l (BJ 0));rw[<-f.out];exact this
 have s:Hid (∀a e,Below d.heap.size d e->bq 116 #[.int .i64 b,.agg (ak (c a)).toArray,.agg (ak (c a)).toArray] e (.agg (ak (c (a+1))).toArray)):=λa e k=>by
  have:=FJ (bU b a) (bU b a) (jL b a) (jL b a) b e (g.below k g.1);rw[FD b a]at this;rw[<-f.out,<-f.out];exact this
 obtain⟨j,hx⟩:=aS (c 256)
 rw[f.out,hx.out]
 have h:=AA (λa=>bI (c a) (i a))
 have m:Hid (∀a,(bF:Array Value).size=(ak (c a)).toArray.size):=λa=>by simp[aB,i.out a,bF]
 have t:Hid (∀a b,(ak (c a)).toArray.size=(ak (c b)).toArray.size):=λa b=>by simp[aB,i.out]
 have k:=AA (λa=>bO (c a))
 have l:=AA<|Below.aJ d (.cells bF 23)
 have n:=AA<|aL.new d 23 bF
 clear g f
 go_enter Bo,ntmps49
 go_wp2_with (first
  |(go_at_call 115;refine(h0 _ l none 0).mono ?_;rintro w a ⟨rfl,e⟩;have f:=bf e n;have p:=aQ l e;have q:=AA f.lt;clear e)
  |(rw[iE 23 5];refine fZ (o:=⟨none,_,_,_,_,_⟩) rfl 23 (.tmp 5) (.tmp 7) rfl a.heap.size ((ak (c 0)).toArray) rfl rfl 23 bF (aL.new a _ _) (h 0) (m 0) (k 0) ?_;intro u e g;have r:=AA<|p.trans ((dx g).mono p.size);have p:Hid (aL u d.heap.size 23 bF):=((dx g).block d.heap.size f.lt).trans f;replace e:=AA e;clear g))
 go_loopw [11] (λf wr=>∃b:Nat,f=.int .i64 (b:Int)/\Hid (b<=256)/\Hid (aL wr a.heap.size 23 (ak (c b)).toArray)/\Hid (aL wr d.heap.size 23 bF)/\Hid (Below d.heap.size d wr)) (λf _=>257 - (intOf f).toNat)
 case atStart=>exact⟨0,rfl,AX _,e,p,r⟩
 case round=>
  have u:=q;clear e p r q h0 l n;generalize a.heap.size=y at*;obtain⟨b,rfl,z,f,n,p⟩:=hrel;by_cases q:b < 256
  ·have A:(b:Int) < 256:=ah
   have v:=AA q;obtain⟨j,hx⟩:=aS (c b);have e:=AA (h b);have l:=AA (s b);have a:=f.out;rw[hx.out]at e l a;replace a:=AA a;have g:Hid ((ak j).toArray.size=(ak (c (b+1))).toArray.size):=hx.out ▸ t b (b+1);clear q f
   go_wp2_with (first
  |((rw[aF 14];refine aM a e AB ?_))
  |((rw[aF 15];refine aM a e AB ?_))
  |(go_at_call 116;refine(l _ p).mono ?_;rintro w r ⟨rfl,l⟩;have w:=bf l a;have x:=bf l n;have r:=aQ p l;clear l a)
  |(rw[iE 23 5];refine fZ (o:=⟨none,_,_,_,_,_⟩) rfl 23 (.tmp 5) (.tmp 16) rfl y ((ak (c (b+1))).toArray) rfl rfl 23 (ak j).toArray w (h (b+1)) g (k (b+1)) ?_;intro y l c;have y:=AA<|r.trans (au.aW c (BB u) r.size);have B:=AA<|x.kept c (aC u);have u:=AA l;clear c l w x r))
   go_roundw
   case rel=>exact⟨b+1,by go_num,v,u,B,y⟩
   case measure=>(have:=v.out;simp[intOf];omega)
  ·obtain rfl:b=256:=aC z
   have A:¬(((256:Nat):Int) < 256):=ah;have e:=AA (h 256);have g:=AA (m 256);have b:=AA (k 256);have a:=f.out;rw[hx.out]at e g b a;replace a:=AA a;clear q f h m t k s i hx
   go_wp2_with (first
  |((rw[aF 18];refine aM a e AB ?_))
  |(rw[iE 23 4];refine wpList_store_row (o:=⟨none,_,_,_,_,_⟩) rfl 23 (.tmp 4) (.tmp 18) rfl d.heap.size (ak j).toArray rfl rfl 23 bF n e g b ?_))
   refine gI (setRow_heap _ _ _ _ _ _ n) e AB ?_
   exact⟨rfl,below_setRow p (AJ _) _⟩
theorem Mq:(prog.info? 57).map (·.size)=some 64:=by kernel_rfl

def gP(f:Bool)(ent:List Value)(d:aj)(A:Option Addr)(n c:Nat):List Value:=[.bool f]++ent++ak d++[.slice A n c]
section
variable {f:Bool} {ent:List Value} {d:aj} {A:Option Addr} {n c:Nat}
theorem Rp:(gP f ent d A n c)[0]?=some (.bool f):=rfl
theorem Mj(a:Nat)(b:Value)(e:ent[a]?=some b):(gP f ent d A n c)[1+a]?=some b:=by
 have b:=(AU.1 e).1;unfold gP;rw[List.append_assoc,List.append_assoc,List.getElem?_append_right aZ,show 1+a - [Value.bool f].length=a by simp,List.getElem?_append_left b];exact e
theorem Ut(b:ent.length=33)(a:Nat)(e:Value)(g:(ak d)[a]?=some e):(gP f ent d A n c)[34+a]?=some e:=by
 have e:=(AU.1 g).1;unfold gP;rw[List.append_assoc,List.getElem?_append_right (by simp[b]),show 34+a - ([Value.bool f]++ent).length=a by simp[b],List.getElem?_append_left e];exact g
theorem Us(a:ent.length=33)(hd:d.length=32):(gP f ent d A n c)[66]?=some (.slice A n c):=by
 unfold gP;rw[List.getElem?_append_right (by simp[a,aB,hd])];simp[a,aB,hd]
theorem Mi(a:ent.length=33)(hd:d.length=32):(gP f ent d A n c).length=67:=by simp[gP,a,aB,hd]
end
structure Sp(cs:Array Value)(f:Bool)(cnt:Int)(ch d:aj)(A:Option Addr)(n c:Nat):Prop where
 size:cs.size=67
 found:cs[0]?=some (.bool f)
 count:cs[1]?=some (.int .i64 cnt)
 chain:∀j v,(ak ch)[j]?=some v->cs[2+j]?=some v
 ent:∀j v,(dW cnt ch)[j]?=some v->cs[1+j]?=some v
 bits:∀j v,(ak d)[j]?=some v->cs[34+j]?=some v
 sums:cs[66]?=some (.slice A n c)
theorem Sp.of(f:Bool)(a:Int){ch d:aj}(g:ch.length=32)(hd:d.length=32)(A:Option Addr)(n c:Nat):Sp (gP f (dW a ch) d A n c).toArray f a ch d A n c where
 size:=by rw[List.size_toArray,Mi (dV g) hd]
 found:=by rw[List.getElem?_toArray];exact Rp
 count:=by rw[List.getElem?_toArray];exact Mj 0 _ rfl
 chain:=λa b e=>by
  rw[List.getElem?_toArray,show 2+a=1+(a+1) by omega];exact Mj (a+1) b e
 ent:=λa b e=>by rw[List.getElem?_toArray];exact Mj a b e
 bits:=λa b e=>by rw[List.getElem?_toArray];exact Ut (dV g) a b e
 sums:=by rw[List.getElem?_toArray];exact Us (dV g) hd
theorem zM:(prog.info? 292).map (·.size)=some 67:=by kernel_rfl
theorem DX:(prog.info? 50).map (·.size)=some 33:=by kernel_rfl
theorem Uu:(prog.info? 22).map (·.size)=some 32:=by kernel_rfl
def mE(f:Bool)(cnt:Int)(ch d:aj)(n:Nat):Bool:=decide (fF d=n)&&xq f cnt ch
def Ty(w:World)(xs:List Value)(ts:List aj):Prop:=∀(i:Nat) (q:aj),ts[i]?=some q->0 < q.length/\∃g c,xs[i]?=some (.slice (some ⟨g,0,none⟩) q.length c)/\q.length<=c/\ax w 1 (some ⟨g,0,none⟩) q.length (ak q)
theorem Tx.ty{w:World}{a:List Value}{b:List aj}(c:Tx w a b):Ty w a b:=λa b d=>by
 obtain⟨h,e,f,g⟩:=c a b d;exact⟨ah,e,f,g⟩
theorem Ty.oI(a:World):Ty a [] []:=λb c a=>by cases a
theorem Ty.append{w:World}{b d:List Value}{a e:List aj}(k:Ty w b a)(l:Ty w d e)(c:b.length=a.length):Ty w (b++d) (a++e):=λi j b=>by
 rcases Nat.lt_or_ge i a.length with d | d
 ·rw[List.getElem?_append_left d]at b
  obtain⟨c,a,e,f,g,h⟩:=k i j b;exact⟨c,a,e,by rw[List.getElem?_append_left ah];exact f,g,h⟩
 ·rw[List.getElem?_append_right d]at b
  obtain⟨d,a,e,f,g,h⟩:=l _ j b;exact⟨d,a,e,by rw[List.getElem?_append_right ah,c];exact f,g,h⟩
theorem Ty.below{w a:World}{b:List Value}{c:List aj}(h:Ty w b c)(d:av w a):Ty a b c:=λa b c=>by
 obtain⟨e,f,g,i,j,k⟩:=h a b c;exact⟨e,f,g,i,j,k.below d⟩
theorem Ty.keep{S:Nat->Prop}{b w':World}{c:List Value}{d:List aj}(f:Ty b c d)(g:au S b w')(h:∀a,S a->∃u,b.cell? ⟨a,0,none⟩=some u/\∀e,u≠.int .u8 e):Ty w' c d:=λb d c=>by
 obtain⟨i,a,j,k,l,e⟩:=f b d c;refine⟨i,a,j,k,l,e.kept g (λc f b hs=>?_)⟩;(injection b with b);(injection b with a c);subst a c;obtain⟨b,f,a,-,c⟩:=e.at_ ah;(injection a with a);(injection a with b e);subst b e;obtain⟨u,b,e⟩:=h _ hs;have a:=c 0 _ (eu d 0 ah);rw[Nat.add_zero,b]at a;exact e _ (AL a)
theorem Ty.pieces{d:World}{g:Nat}{e:Value}{f:List Value}{a:List aj}(h:d.ownsRow g 27 1 e a.length f)(hx:Ty d f a):∃b c,e=.slice b a.length c/\a.length<=c/\(b=none->a.length=0/\c=0)/\gq d b a:=by
 obtain⟨b,c,a,d,-,e,f,-⟩:=Own.reads h;refine⟨b,c,a,d,e,λh0=>?_⟩;obtain⟨b,c,d,e,g⟩:=f.at_ ah;refine⟨b,c,d,e,λa f h=>?_⟩;obtain⟨-,b,c,d,e,i⟩:=hx a f h;exact⟨some ⟨b,0,none⟩,c,g a _ d,e,i,λf=>by cases f⟩
theorem Ty.one{w:World}{d b:Nat}{v:Value}{a:List Value}{c:List aj}(e:w.ownsRow d 27 1 v b a)(f:Ty w a c)(g:c.length=b):∀u∈a,u.oneCell'=true:=by
 intro u g;obtain⟨d,h,rfl⟩:=List.mem_iff_getElem.1 g;have g:a.length=b:=aC e.1;obtain⟨-,b,e,a,-⟩:=f d _ (AV (show d < c.length by omega));rw[List.getElem?_eq_getElem h]at a;rw[Option.some.inj a];rfl
structure QV(w0 wr:World)(br:Nat)(st:aj×List aj)(v:Value)(xs:List Value):Prop where
 Xt:aL wr br 23 (ak st.1).toArray
 own:wr.ownsRow w0.heap.size 27 1 v st.2.length xs
 ne:v.ownBlock≠some br
 Xz:xJ (λk=>k < w0.heap.size) wr br v.ownBlock xs st.2
 low:av w0 wr
 le:w0.heap.size<=br
theorem QV.step{d wr f c o p g:World}{b gt ct m:Nat}{h st':aj×List aj}{v i:Value}{j:List Value}{q:aj}(a:QV d wr b h v j)(k:h.2.length=m)
  (e:av wr f)(l:av f c)(s:ax c 1 (some ⟨gt,0,none⟩) q.length (ak q))(t:f.heap.size<=gt/\gt < c.heap.size)(u:q.length<=ct)
  (f:rC (c.alloc (.cells #[.slice (some ⟨gt,0,none⟩) q.length ct] 27)) d.heap.size 27 1 v m 1 j [.slice (some ⟨gt,0,none⟩) q.length ct] i o)
  (m:av o p)(w:aL g b 23 (ak st'.1).toArray)(n:au (·=b) p g)(r:st'.2=h.2++[q]):QV d g b st' i (j++[.slice (some ⟨gt,0,none⟩) q.length ct]):=by
 have c:=a.Xt.lt
 have c:=e.size
 have c:=a.low.size
 have c:=l.size
 obtain⟨h,j,-⟩:=xJ.push (M:=λc=>c < d.heap.size) ah k (xJ.keep (S:=λ_=>False) a.Xz (au.of_below e) (λ_ a=>a.elim)) (k ▸ aK a.own e) l s t ah u f
 have g:i.ownBlock≠some b:=λb=>by
  rcases f.at_ with d | d
  ·rw[d]at b;exact a.ne b
  ·rw[d]at b
   have:=AL b;simp at this;omega
 have d:=a.low.trans (e.mono a.low.size)
 have e:=d.trans (l.mono d.size)
 have d:=e.alloc e.size (.cells #[.slice (some ⟨gt,0,none⟩) q.length ct] 27)
 have e:=f.below d d.size (λc b=>(a.own.lt c b).1)
 have d:=e.trans (m.mono e.size)
 refine⟨w,?_,g,?_,d.trans (au.aW n a.le d.size),a.le⟩
 ·rw[r,List.length_append,k]
  exact lM (aK j m) n (λc b a=>g (by rw[b,a]))
 ·rw[r]
  exact xJ.keep (xJ.keep (S:=λ_=>False) h (au.of_below m) (λ_ a=>a.elim)) n (λc a=>.inl a)
theorem IW{a:World}{b c d e f:Nat}{v:Value}{g:List Value}(h:a.ownsRow b d e v f g)(i:c<=b):a.ownsRow c d e v f g:=
 ⟨h.1,h.2.imp id λ⟨a,b,c,d,e,f⟩=>⟨a,b,c,d,AZ i e,f⟩⟩
theorem QV.start{d a b e:World}{gt ct:Nat}{q z:aj}{g:Obj}(f:av d a)(j:ax a 1 (some ⟨gt,0,none⟩) q.length (ak q))(c:d.heap.size<=gt/\gt < a.heap.size)(k:q.length<=ct)
  (c:Below (a.alloc (.cells #[.slice (some ⟨gt,0,none⟩) q.length ct] 27)).heap.size (a.alloc (.cells #[.slice (some ⟨gt,0,none⟩) q.length ct] 27)) b)(i:aL e b.heap.size 23 (ak z).toArray)(h:au (·=b.heap.size) (b.alloc g) e):
  QV d e b.heap.size (z,[q]) (.slice (some ⟨a.heap.size,0,none⟩) 1 1) [.slice (some ⟨gt,0,none⟩) q.length ct]:=by
 have d:(a.alloc (.cells #[.slice (some ⟨gt,0,none⟩) q.length ct] 27)).heap.size=a.heap.size+1:=by simp
 have d:=dx h
 have g:=f.size
 have e:=c.size
 have e:=d.size
 have l:=ET a 27 (.slice (some ⟨gt,0,none⟩) q.length ct)
 have h:av a (a.alloc (.cells #[.slice (some ⟨gt,0,none⟩) q.length ct] 27)):=Below.aJ _ _
 have e:=f.trans (h.mono g)
 have f:=e.trans (c.mono e.size)
 refine⟨i,aK (aK (IW l g) c) d,λe=>?_,λg l i=>?_,f.trans (d.mono f.size),ah⟩
 ·have:=AL (show some a.heap.size=some b.heap.size from e)
  omega
 ·match g with
  | 0=>
   obtain rfl:=AL i;refine⟨gt,ct,rfl,k,((j.below h).below c).below d,ah,ah,λe=>?_,ah⟩;have:=AL (show some gt=some a.heap.size from e);omega
  | g+1=>cases i
theorem QV.end_{d wr e:World}{i h:Nat}{a:aj×List aj}{v:Value}{f:List Value}(g:QV d wr i a v f)(k:h < d.heap.size)(b:au (·=h) wr e)(j:∀c∈a.2,0 < c.length):e.ownsRow d.heap.size 27 1 v a.2.length f/\Ty e f a.2:=by
 refine⟨lM g.own b (λa e b=>?_),λf c d=>?_⟩
 ·have:=(g.own.lt a e).1
  omega
 ·obtain⟨e,h,i,k,l,-⟩:=xJ.keep g.Xz b (λa b=>.inr (.inr ah)) f c d
  exact⟨j c (Ab d),e,h,i,k,l⟩
theorem V5(a:World){b c:Nat}(f:b < a.heap.size)(g:c < a.heap.size)(d e:aj):LQ (tW a b c) (tW a b c).heap.size (some ⟨a.heap.size,0,none⟩) [d,e]:=by
 have h:aL (tW a b c) a.heap.size 27 #[.slice (some ⟨b,0,none⟩) 32 32,.slice (some ⟨c,0,none⟩) 32 32]:=aL.new a.drew 27 _;have hs:=ja a b c;refine⟨λi d=>?_,λf k j l m d n o e _ i g=>?_⟩
 ·obtain rfl:=AL d
  show a.heap.size < _;omega
 ·injection d with d
  (injection d with a i);subst a i;rw[h.cell]at e
  match f with
  | 0=>
   have a:=AL e;(injection a with a);rw[g]at a;have:=AL a;rw[<-this];show b < _;omega
  | 1=>
   have a:=AL e;(injection a with a);rw[g]at a;have:=AL a;rw[<-this];show c < _;omega
  | f+2=>simp at j
def Ue(w:World)(a b c:Addr):World:=w.drew.alloc (.cells #[.slice (some a) 32 32,.slice (some b) 8 8,.slice (some c) 32 32] 27)
theorem JR(a:World)(b c d:Addr):(Ue a b c d).heap.size=a.heap.size+1:=by unfold Ue;simp
theorem Gw(a:World)(b c d:Addr):av a (Ue a b c d):=((Below.refl _ a).drew).alloc (AJ _) _
theorem Mc{d:World}{a b c:Addr}{e f z:aj}(k:ax d 1 (some a) 32 (ak e))(l:ax d 1 (some b) 8 (ak f))(m:ax d 1 (some c) 32 (ak z))(hx:e.length=32)(h:f.length=8)(i:z.length=32):gq (Ue d a b c) (some ⟨d.heap.size,0,none⟩) [e,f,z]:=λ_=>by
 have e:aL (Ue d a b c) d.heap.size 27 #[.slice (some a) 32 32,.slice (some b) 8 8,.slice (some c) 32 32]:=aL.new d.drew 27 _;have g:=Gw d a b c;refine⟨d.heap.size,0,rfl,e.lt,λj n f=>?_⟩
 match j with
 | 0=>
  obtain rfl:=AL f;exact⟨some a,32,by rw[e.cell,hx];rfl,ah,by rw[hx];exact k.below g,λd=>by cases d⟩
 | 1=>
  obtain rfl:=AL f;exact⟨some b,8,by rw[e.cell,h];rfl,ah,by rw[h];exact l.below g,λd=>by cases d⟩
 | 2=>
  obtain rfl:=AL f;exact⟨some c,32,by rw[e.cell,i];rfl,ah,by rw[i];exact m.below g,λd=>by cases d⟩
 | j+3=>simp at f
theorem WA(d:World){a b c:Addr}(g:a.block < d.heap.size)(h:b.block < d.heap.size)(i:c.block < d.heap.size)(e f z:aj):LQ (Ue d a b c) (Ue d a b c).heap.size (some ⟨d.heap.size,0,none⟩) [e,f,z]:=by
 have i:aL (Ue d a b c) d.heap.size 27 #[.slice (some a) 32 32,.slice (some b) 8 8,.slice (some c) 32 32]:=aL.new d.drew 27 _;have hs:=JR d a b c;refine⟨λj e=>?_,λh l k m n e o p f _ j g=>?_⟩
 ·obtain rfl:=AL e
  show d.heap.size < _;omega
 ·injection e with e
  (injection e with d j);subst d j;rw[i.cell]at f
  match h with
  | 0=>
   have d:=AL f;(injection d with d);rw[g]at d;obtain rfl:=AL d;omega
  | 1=>
   have d:=AL f;(injection d with d);rw[g]at d;obtain rfl:=AL d;omega
  | 2=>
   have d:=AL f;(injection d with d);rw[g]at d;obtain rfl:=AL d;omega
  | h+3=>simp at k
theorem JP{k ch:aj}{f:Bool}{cnt:Int}(a:k.length=32)(b:ch.length=32):(wU k f cnt ch).length=if f then 73 else 1:=by
 unfold wU;cases f
 ·rfl
 ·show(kb 3 :: (k++(jM cnt.toNat++ch))).length=73
  simp[a,b,iO]
theorem Uj{a b c:aj}{d:Nat}:0 < (Ma a d b c).length:=by unfold Ma;simp
theorem Fe{d:Int}{e a:aj}{f:List aj}(h0:0 < a.length):∀c,∀b∈(dG d e a f c).1,0 < b.length
 | 0,b,a=>by
  obtain rfl:=BS.1 a;exact h0
 | c+1,b,a=>by
  rcases Aj.1 a with a | a
  ·exact Fe h0 c b a
  ·obtain rfl:=BS.1 a
   exact Uj
theorem wF(c:Int)(b g:aj)(d:List aj)(a:Nat){e f h:aj}{i:List aj}(j:dG c b g d a=(i,e))(k:d[a]?=some f)(l:Ma b a e f=h):dG c b g d (a+1)=(i++[h],dA c h):=by
 show(let h:=dG c b g d a;let g:=Ma b a h.2 (d.getD a []);(h.1++[g],dA c g))=_;rw[j]
 dsimp only
 rw[List.getD_eq_getElem?_getD,k];show(i++[Ma b a e f],dA c (Ma b a e f))=_;rw[l]
theorem tN{b:Program}{h:Array Oper}{rest:List Oper}{o:Oper}{c:Act}{a:World}{i:Exit->Act->World->Prop}(j:o.guard=none)(d:TypeId)(e:Array (Nat×Operand))(k:o.op=.build d e)
  (f:Array (Nat×Value))(l:(e.map λ(m,n)=>(m,c.eval n))=f)(g:Value)(p:(Instr.build d f).run b a=.ok g a)
  (m:wpList b h i rest (c.put o.dst g) a):wpList b h i (o :: rest) c a:=by
 refine wpList_plain j λK a=>?_
 unfold Oper.wp
 rw[fe d e k f l g p]
 exact a _ _ m
theorem u7(a:bE)(e:a.Ok)(b:aj)(d:Nat)(g:b.length=d)(k:Option Addr)(l:Nat)(c:World)(n:ax c 1 k d (ak b))(G:d<=l)(t:k=none->d=0/\l=0):
  bq 250 #[.agg (aI a).toArray,.slice k d l] c (.tuple #[.agg (ak (iM a b).1).toArray,.int .i64 (iM a b).2]):=by
 have A:Hid (aL ((c.alloc (.cells (aI a).toArray 36)).alloc (.cells gU 57)) c.heap.size 36 (aI a).toArray):=heap_alloc2_old c _ _
 have h:Hid (aL ((c.alloc (.cells (aI a).toArray 36)).alloc (.cells gU 57)) (c.heap.size+1) 57 gU):=heap_alloc2_new c _ _
 have p:Hid (av c ((c.alloc (.cells (aI a).toArray 36)).alloc (.cells gU 57))):=((Below.refl _ c).alloc (AJ _) _).alloc aZ _
 have B:Hid ((prog.info? 36).map (·.size)=some (aI a).toArray.size):=by show _=_;rw[List.size_toArray,bQ e];exact iT
 have H:=AA (jZ e)
 have i:=AA (lm _ tV)
 have u:=AA (jv _ tV)
 have v:=AA (jH qN)
 have C:=AA (lm _ (jw a b))
 have I:=AA (jv _ (jw a b))
 have J:=AA (jH (eF a b))
 replace g:=AA g
 replace n:=AA n
 replace t:=AA t
 have D:=AA e
 clear e
 by_cases f:lT d=true
 ·have q:=AA (yZ f)
  have K:¬((d:Int) < 1):=aC q;have L:¬((64:Int) < (d:Int)):=aC q;by_cases j:gH a=true
  ·have m:Hid (iM a b=(eF a b,0)):=by show _=_;unfold iM;rw[g.out,if_pos f,if_pos j]
   rw[m.out];have w:=AA j;clear f j;go_enter func250,ntmps250
   go_wp2_with (first
    |(rw[aF 18];refine aM A B AQ ?_)
    |(go_at_call 248;refine(pE a D w _).mono ?_;rintro x E ⟨r,rfl,e,F⟩;replace e:=AA e;obtain⟨M,c1,rfl,_,_,y,z,_⟩:=Own.reads F;replace y:=AA y;replace z:=AA z;have r:=bf e h;have s:=aQ p e;clear e F)
    |(go_at_call 110;refine(ny b d g k l E (n.below s) G (aC q) t).mono ?_;rintro x G ⟨rfl,t⟩;have N:=bf t r;have F:=aQ s t;have O:=AA (z.below t);clear t)
    |(go_at_call 277;refine(MO b (dN a) d 113 g H q.2 k M l c1 G ah (n.below F) O y).mono ?_;rintro x n ⟨rfl,k⟩;have l:=bf k N;have q:=aQ F k;clear k)
    |(rw[bY 30];refine tN (o:=⟨some 30,_,_,_,_,_⟩) rfl 57 #[(0,.tmp 26),(1,.tmp 29)] rfl #[(0,.agg (ak (iU b)).toArray),(1,.agg (ak (nR b (dN a))).toArray)] (by simp;exact⟨rfl,rfl⟩) _ (J8 a b n) ?_)
    |(rw[bA 57 _];refine fw l C I J ?_))
   refine bodyPost_ret (di rfl _ _ (c.heap.size+1) 57 (ak (eF a b)).toArray (0,0) _ rfl (setRow_heap _ _ _ _ _ _ l) Af rfl C) rfl ?_;exact⟨rfl,below_setRow q ah _⟩
  ·have m:Hid (iM a b=(qN,1)):=by show _=_;unfold iM;rw[g.out,if_pos f,if_neg j]
   rw[m.out];(have w:Hid (gH a=false):=by show _=_;simpa using j);clear f j;go_enter func250,ntmps250
   go_wp2_with (first
    |(rw[aF 18];refine aM A B AQ ?_)
    |(go_at_call 248;refine(EO a D w _).mono ?_;rintro x E ⟨rfl,e⟩;replace e:=AA e;have r:=bf e h;have s:=aQ p e;clear e)
    |(rw[bA 57 _];refine fw r i u v ?_))
   refine bodyPost_ret (di rfl _ _ (c.heap.size+1) 57 (ak (qN)).toArray (0,0) _ rfl (setRow_heap _ _ _ _ _ _ r) Af rfl i) rfl ?_;exact⟨rfl,below_setRow s ah _⟩
 ·have m:Hid (iM a b=(qN,160)):=by show _=_;unfold iM;rw[g.out,if_neg f]
  rw[m.out];by_cases K:(d:Int) < 1
  ·clear f
   (go_enter func250,ntmps250);go_wp2_with (rw[bA 57 _];refine fw h i u v ?_);refine bodyPost_ret (di rfl _ _ (c.heap.size+1) 57 (ak (qN)).toArray (0,0) _ rfl (setRow_heap _ _ _ _ _ _ h) Af rfl i) rfl ?_;exact⟨rfl,below_setRow p ah _⟩
  ·have L:(64:Int) < (d:Int):=by
    simp[lT]at f;omega
   clear f;(go_enter func250,ntmps250);go_wp2_with (rw[bA 57 _];refine fw h i u v ?_);refine bodyPost_ret (di rfl _ _ (c.heap.size+1) 57 (ak (qN)).toArray (0,0) _ rfl (setRow_heap _ _ _ _ _ _ h) Af rfl i) rfl ?_;exact⟨rfl,below_setRow p ah _⟩
