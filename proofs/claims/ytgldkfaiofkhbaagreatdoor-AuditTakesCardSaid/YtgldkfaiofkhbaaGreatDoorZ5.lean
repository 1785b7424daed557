import Derived.Test.YtgldkfaiofkhbaaGreatDoorZ3
import Derived.Outline
import Derived.WalkLawsBesides
import Derived.Deep.QuietTactic
import Derived.BigQuiet
import Derived.Deep.RegionLaw
import Derived.IntWalk
namespace Go.Proofs.YtgldkfaiofkhbaaGreatDoor
open Go Go.RowKit Go.Proofs.Tryz
set_option maxRecDepth 100000
set_option maxHeartbeats 1000000
def kX(w:World)(g:Nat)(r:Option Nat)(l:aj):Prop:=
 ∃v,aL w g 313 #[v]/\w.ownsRow 0 5 1 v l.length (ak l)/\v.ownBlock=r/\∀k,r=some k->g < k/\k < w.heap.size
def aO(w:World)(g:Nat)(r:Option Nat)(l:aj)(w':World):Prop:=
 ∃r',kX w' g r' l/\au (λk=>k=g\/some k=r) w w'/\(r'=r\/∃k,r'=some k/\w.heap.size<=k)
section
variable {w w' w1 w2:World} {g:Nat} {r r1:Option Nat} {l l1 l2:aj}
theorem kX.lt(a:kX w g r l):g < w.heap.size:=by obtain⟨c,b,_⟩:=a;exact b.lt
theorem kX.refl(a:kX w g r l):aO w g r l w:=⟨r,a,au.refl _ _,.inl rfl⟩
theorem aO.step(a:aO w g r l w1)(c:∀r1,kX w1 g r1 l->aO w1 g r1 l2 w2):aO w g r l2 w2:=by
 obtain⟨r1,d,b,c1⟩:=a;obtain⟨e,f,h,c2⟩:=c r1 d;refine⟨e,f,b.trans h (λc d a=>?_),?_⟩
 ·rcases a with a | a
  ·exact .inl a
  ·rcases c1 with rfl |⟨k,rfl,hk⟩
   ·exact .inr a
   ·injection a with a
    omega
 ·rcases c2 with rfl |⟨k,rfl,hk⟩
  ·exact c1
  ·exact .inr ⟨k,rfl,AZ b.size hk⟩
theorem aO.below(h:aO w g r l w1)(c:∀a,r=some a->g < a){B:Nat}(b:B<=g)(d:B<=w.heap.size):Below B w w1:=by
 obtain⟨r1,d,b,c1⟩:=h
 exact⟨b.os,b.tape,b.output,b.size,λa d=>b.block a ah (by
  rintro(rfl | h)
  ·omega
  ·have:=c a h.symm;omega)⟩
theorem kX.kept{S:Nat->Prop}(c:kX w g r l)(d:au S w w')(i:¬S g)(j:∀a,r=some a->¬S a):kX w' g r l:=by
 obtain⟨k,m,f,h,e⟩:=c;refine⟨k,m.kept d i,⟨f.1,?_⟩,h,λa b=>⟨(e a b).1,Ad (e a b).2 d.size⟩⟩
 rcases f.2 with c |⟨a,i,k,rfl,m,n,o⟩
 ·exact .inl c
 ·refine .inr ⟨a,i,k,rfl,m,?_,o⟩
  (have b:r=some a:=by rw[<-h];rfl);rw[d.block a (e a b).2 (j a b),n]
theorem kX.alloc(a:kX w g r l)(o:Obj):kX (w.alloc o) g r l:=a.kept (S:=λ_=>False) ((au.refl _ w).alloc o) (λa=>a) (λ_ _ a=>a)
theorem kX.drew(a:kX w g r l):kX w.drew g r l:=a.kept (S:=λ_=>False) ((au.refl _ w).drew) (λa=>a) (λ_ _ a=>a)
theorem kX.drewN(a:kX w g r l)(b:Nat):kX (w.drewN b) g r l:=a.kept (S:=λ_=>False) ((au.refl _ w).drewN b) (λa=>a) (λ_ _ a=>a)
theorem aO.put{c:World}{a:Value}{f h b m:Nat}{q:aj}(k:kX w g r l)(s:∀u,aL w g 313 #[u]->u=a)(t:f=l.length)(v:h=q.length){d:World}(e:au (λ_=>False) w d)
  (x:c.ownsRow 0 5 1 (.slice (some ⟨b,0,none⟩) (f+h) m) (f+h) (ak l++ak q))(p:d.grownBy c a.ownBlock)(n:a.ownBlock=some b\/b=d.heap.size)(y:b < c.heap.size):
  aO w g r (l++q) (c.setCell ⟨g,0,none⟩ (.slice (some ⟨b,0,none⟩) (f+h) m)):=by
 obtain⟨d,i,a,j,o⟩:=k
 obtain rfl:=s d i
 have s:au (λk=>k=g\/some k=r) w c:=(e.mono (λ_ _ a=>a.elim)).grown p (λk z=>.inl (.inr (j ▸ z.symm)))
 have z:g≠b:=by
  rcases n with a | a
  ·have:=(o b (j ▸ a)).1;omega
  ·have:=i.lt;have:=e.size;omega
 have A:aL c g 313 #[d]:=by
  refine(p.block g (Ad i.lt e.size) (λd=>?_)).trans (i.kept e (λp=>p));have:=(o g (j ▸ d.symm)).1;omega
 refine⟨some b,⟨_,A.lD 0 _,?_,rfl,λk d=>?_⟩,s.setCell (.inl (.inl rfl)) _,?_⟩
 ·refine⟨by simp[aB],?_⟩
  rcases x.2 with⟨a,_⟩ |⟨E,F,p,k,G,s,A,B,C,D⟩
  ·cases a
  ·simp only[Value.slice.injEq,Option.some.injEq,Addr.mk.injEq,and_true,true_and]at k
   obtain⟨rfl,rfl⟩:=k;(have k:(l++q).length=f+h:=by rw[List.length_append,t,v]);refine .inr ⟨b,m,p,?_,AX _,?_,?_,B,C,?_⟩
   ·rw[k]
   ·exact(Below.heap_setCell c ⟨g,0,none⟩ _ b (λd=>z d.symm)).trans s
   ·rw[k];exact A
   ·rw[k,D];simp[ak]
 ·injection d with d
  subst d;refine⟨?_,by simpa[World.setCell]using y⟩
  rcases n with a | a
  ·exact(o b (j ▸ a)).1
  ·have:=i.lt;have:=e.size;omega
 ·rcases n with a | a
  ·exact .inl (by rw[<-j,a])
  ·exact .inr ⟨b,rfl,by rw[a];exact e.size⟩
end
section
variable {w0 w w' wi:World} {g:Nat} {r r1:Option Nat} {l l2:aj}
theorem aO.xM(c:au (λa=>a=g\/some a=r) w0 w)(d:r1=r\/∃a,r1=some a/\w0.heap.size<=a)(b:aO w g r1 l2 w'):aO w0 g r l2 w':=by
 obtain⟨e,f,h,c2⟩:=b;refine⟨e,f,c.trans h (λi j b=>?_),?_⟩
 ·rcases b with b | b
  ·exact .inl b
  ·rcases d with rfl |⟨a,rfl,hk'⟩
   ·exact .inr b
   ·injection b with b
    omega
 ·rcases c2 with rfl |⟨a,rfl,hk'⟩
  ·exact d
  ·exact .inr ⟨a,rfl,AZ c.size hk'⟩
theorem aO.Sc{a:Obj}(b:aO (w0.alloc a) g r l w):aO w0 g r l w:=by
 obtain⟨r1,c,d,c1⟩:=b;refine⟨r1,c,((au.refl _ w0).alloc a).trans d (λ_ _ b=>b),?_⟩
 rcases c1 with rfl |⟨k,rfl,hk⟩
 ·exact .inl rfl
 ·exact .inr ⟨k,rfl,by(have:w0.heap.size<=(w0.alloc a).heap.size:=by simp);omega⟩
theorem aO.alloc(a:aO w0 g r l w)(o:Obj):aO w0 g r l (w.alloc o):=by
 obtain⟨r1,b,c,c1⟩:=a;exact⟨r1,b.alloc o,c.alloc o,c1⟩
theorem aO.drewN(b:aO w0 g r l w)(a:Nat):aO w0 g r l (w.drewN a):=by
 obtain⟨r1,c,d,c1⟩:=b;exact⟨r1,c.drewN a,d.drewN a,c1⟩
theorem aO.drew(a:aO w0 g r l w):aO w0 g r l w.drew:=a.drewN 1
theorem aO.kept(b:aO w0 g r l w):au (λa=>a=g\/some a=r) w0 w:=by obtain⟨_,_,a,_⟩:=b;exact a
theorem aO.blk{c:TypeId}{b:Nat}{d:Array Value}(a:aO w0 g r l w)(e:aL w0 b c d)(f:b≠g)(h:some b≠r):aL w b c d:=e.kept a.kept (λa=>by rcases a with a | a;exact f a;exact h a)
theorem aO.below'(c:aO w0 g r l w)(d:∀b,r=some b->g < b){a:Nat}(e:a<=g)(f:a<=w0.heap.size):Below a w0 w:=aO.below c d e f
end
def mo(w:World)(g:Nat)(r:Option Nat)(A:Option Addr)(ps:List aj):Prop:=
 0 < ps.length->∃b o,A=some ⟨b,o,none⟩/\b < w.heap.size/\b≠g/\some b≠r/\
  ∀i q,ps[i]?=some q->∃Ai ci,w.cell? ⟨b,o+i,none⟩=some (.slice Ai q.length ci)/\ax w 1 Ai q.length (ak q)/\(Ai=none->q.length=0/\ci=0)/\(0 < q.length->∀a,Ai=some a->a.block≠g/\some a.block≠r)
theorem mo.at_{w wr:World}{g:Nat}{r:Option Nat}{f:Option Addr}{b:List aj}(h:mo w g r f b){i:Nat}{a:aj}(j:b[i]?=some a)(k:au (λc=>c=g\/some c=r) w wr):
  ∃b c d e,f=some ⟨b,c,none⟩/\wr.cell? ⟨b,c+i,none⟩=some (.slice d a.length e)/\ax wr 1 d a.length (ak a)/\(d=none->a.length=0/\e=0):=by
 obtain⟨b,c,f,m,n,o,q⟩:=h (CU (AX _) (AU.1 j).1)
 obtain⟨d,e,s,t,u,v⟩:=q i a j
 refine⟨b,c,d,e,f,(k.cell (p:=⟨b,c+i,none⟩) m (λh=>by rcases h with h | h;exact n h;exact o h)).trans s,t.pY k (λh0 b c a h=>?_),u⟩
 have:=v ah _ a
 rcases h with h | h
 ·exact this.1 h
 ·exact this.2 h
def mW(K n:Nat):Int:=(((2 ^ (8*K) - 1) / 2 ^ n:Nat):Int)
theorem OX(K a:Nat):mW K a / 2=mW K (a+1):=by
 unfold mW;rw[Nat.pow_succ,<-Nat.div_div_eq_div_mul];omega
theorem Sj(K b:Nat)(c:b < 8*K):0 < mW K b:=by
 unfold mW
 have d:2 ^ b<=2 ^ (8*K) - 1:=by
  have:=Nat.pow_lt_pow_right (a:=2) ah c;omega
 have:=Nat.div_pos d (Nat.two_pow_pos b);omega
theorem wE(K a:Nat):0<=mW K a:=Int.natCast_nonneg _
theorem Wj(K a:Nat):mW K a < 2 ^ (8*K):=by
 unfold mW;have b:(2 ^ (8*K) - 1) / 2 ^ a<=2 ^ (8*K) - 1:=Nat.div_le_self _ _;have b:=Nat.two_pow_pos (8*K);have b:(((2 ^ (8*K) - 1) / 2 ^ a:Nat):Int) < ((2 ^ (8*K):Nat):Int):=ah;simpa using b
theorem Ww(w:World):Calls prog 217 #[] w λa w'=>a=.returned (.int .i64 1)/\w=w':=by
 (have hx:bits .xor .u8 IntKind.u8.max 0=mW 1 0:=by decide+kernel);(go_enter func217,ntmps217);go_wp2_with fail;clear hx
 go_loop [1,2] (λb c=>∃a:Nat,a<=1/\b=.int .i64 (a:Int)/\c=.int .u8 (mW 1 (8*a))) (λb _=>1 - (intOf b).toNat)
 case atStart=>exact⟨0,ah,rfl,rfl⟩
 case round=>
  obtain⟨a,b,rfl,rfl⟩:=hrel;by_cases b:a < 1
  ·have c1:(mW 1 (8*a)!=0)=true:=by have:=Sj 1 (8*a) ah;simp;omega
   have e:=wE 1 (8*a);have f:=Wj 1 (8*a);go_wp2_with fail
   go_loop [2,9] (λc d=>∃b:Nat,b<=8/\d=.int .i64 (b:Int)/\c=.int .u8 (mW 1 (8*a+b))) (λ_ d=>8 - (intOf d).toNat)
   case atStart=>exact⟨0,ah,rfl,rfl⟩
   case round=>
    obtain⟨b,c,rfl,rfl⟩:=hrel;clear c1 e f;by_cases c:b < 8
    ·have c:mW 1 (8*a+b) / 2=mW 1 (8*a+(b+1)):=OX 1 (8*a+b)
     have c:=wE 1 (8*a+b);have c:=Wj 1 (8*a+b);go_wp2_with fail
     go_round
     case rel=>exact⟨b+1,ah,by go_num,rfl⟩
     case measure=>simp[intOf];omega
    ·obtain rfl:b=8:=ah
     go_wp2_with fail
     go_round
     case rel=>exact⟨a+1,ah,by go_num,by rw[Nat.mul_add]⟩
     case measure=>simp[intOf];omega
  ·obtain rfl:a=1:=ah
   (have c1:(mW 1 (8*1)!=0)=false:=by decide+kernel);go_wp2_with fail;go_ret;exact⟨rfl,rfl⟩
theorem ze{wr c b:World}{g:Nat}{a:Value}{d:TypeId}(e:aL wr g d #[a])(h:some g≠a.ownBlock)(f:au (λ_=>False) wr c)(i:c.grownBy b a.ownBlock):
  b.cell? ⟨g,0,none⟩=some a/\b.frozen? ⟨g,0,none⟩=false:=by
 have c:aL b g d #[a]:=(i.block g (Ad e.lt f.size) h).trans (e.kept f (λa=>a))
 exact⟨by rw[c.cell 0];rfl,c.frozen 0⟩
theorem Gv(l a:aj)(b:Nat)(c:BitVec 8)(d:a[b]?=some c):l++a.take (b+1)=(l++a.take b)++[c]:=by
 rw[List.take_add_one,d];simp
theorem Ym(g:Nat)(r:Option Nat)(l:aj)(a:BitVec 8)(w:World)(h:l.length+1<=140737488355328)(b:kX w g r l):
  Calls prog 131 #[.pointer (some ⟨g,0,none⟩),.int .u8 (b8 a)] w λf w'=>f=.returned (.tuple #[])/\aO w g r (l++[a]) w':=by
 obtain⟨s,t,v,x,y⟩:=fT pI
 have d:=AA (show aO w g r (l++[a].take 0) w by simpa using b.refl)
 replace h:=AA h
 clear b
 have b:=kz a
 have b:=j3 a
 go_enter func131,ntmps131
 go_wp2_with (go_at_call 217;refine(Ww _).mono ?_;rintro f w' ⟨rfl,rfl⟩)
 go_loopw [4] (λc wr=>∃b:Nat,c=.int .i64 (0 - (b:Int))/\Hid (b<=1)/\Hid (aO w g r (l++[a].take b) wr)) (λc _=>(1+intOf c).toNat)
 case atStart=>exact⟨0,rfl,(show 0<=1 by omega),d.out⟩
 case round=>
  clear d;obtain⟨b,rfl,z,i⟩:=hrel;by_cases d:b < 1
  ·have d:(0:Int)<=0 - (b:Int):=ah
   have d:(0:Int)<=(b:Int):=ah;obtain⟨r1,e,A,c1⟩:=i.out;obtain⟨c,d,k,m,n⟩:=e
   have j:some g≠c.ownBlock:=λf=>by
    have:=(n g (m ▸ f.symm)).1;omega
   have f:=d.cell 0;have p:=d.frozen 0;simp only[Array.getElem?_singleton,if_pos]at f;have p:(wr.alloc (.cells #[.int .u8 (b8 a)] 5)).cell? ⟨g,0,none⟩=some c:=(World.cell?_alloc_lt wr _ ⟨g,0,none⟩ d.lt).trans f;have f:IntKind.i64.wrap 0=0:=rfl;have f:IntKind.u64.wrap (b8 a)=b8 a:=dX _ ah ah;have f:IntKind.u8.wrap (b8 a)=b8 a:=by simp[IntKind.wrap,IntKind.bits,IntKind.signed];omega
   have f:Hid ([a][b]?=some a):=by
    show _=_;obtain rfl:b=0:=ah;rfl
   have p:Hid ((l++[a].take b).length+1<=140737488355328):=by
    show _<=_;have:=h.out;rw[List.length_append];have:=List.length_take_le b [a];omega
   have B:=AA (Gv l [a] b a f.out);have C:=AA k
   have h:∀u,aL wr g 313 #[u]->u=c:=λu f=>by
    have e:=(show wr.heap[g]?=_ from f).symm.trans d;simpa using e
   replace h:=AA h;replace j:=AA j;replace d:=AA d;clear n k m c1 A;generalize l++[a].take b=f at*;go_wp2_with fail
   go_region_law (refine step_append_lies (P:=prog) (wr.drew.alloc (.cells #[.int .u8 (b8 a)] 5)) (o:=⟨some 25,_,_,_,_,_⟩) rfl (.tmp 17) (.tmp 24) 27 rfl 0 5 s (.int .u8 0) 1 1 underlying27 t v x y rfl aR c f.length (ak f) ?hs (World.ownsRow.alloc (w:=wr.drew) C.out _) ⟨wr.heap.size,0,none⟩ 1 1 [.int .u8 (b8 a)] ?hx rfl (G6 _ _ _ _ rfl) (gm rfl) aR ?c1 ?c2 (AX _) _ rfl ?_;(case hs=>go_simp);(case hx=>go_simp);(case c1=>have:=p.out;unfold maxLen;omega);(case c2=>have:=p.out;omega);intro s t v m c n p;have k:au (λ_=>False) wr (wr.drew.alloc (.cells #[.int .u8 (b8 a)] 5)):=((au.refl _ wr).drew).alloc _;have x:Hid (aO w g r (f++[a]) (v.setCell ⟨g,0,none⟩ (.slice (some ⟨s,0,none⟩) (f.length+1) t))):=i.out.step (λr1 e=>aO.put (q:=[a]) e h.out rfl rfl k m c n p);obtain⟨e,f⟩:=ze d.out j.out k c;clear m c n p k)
   all_goals
    go_wp2_with fail
    go_roundw
    case rel=>exact⟨b+1,by go_num,(show b+1<=1 by omega),(show aO _ _ _ _ _ by rw[B.out];exact x)⟩
    case measure=>simp[intOf];omega
  ·obtain rfl:b=1:=aC z
   have b:[a].take 1=[a]:=BA aZ;have b:=AA b;go_wp2_with fail
   go_end0
   exact⟨rfl,by have:=i.out;rw[b.out]at this;exact this⟩
def vP(N n:Nat):BitVec 8:=BitVec.ofNat 8 (N / 2 ^ n)
def jM(N:Nat):aj:=(List.range 8).map λi=>vP N (56 - 8*i)
theorem iO(a:Nat):(jM a).length=8:=by simp[jM]
theorem Ju(b a:Nat)(c:a < 8):(jM b)[a]?=some (vP b (56 - 8*a)):=by
 unfold jM;rw[List.getElem?_map,List.getElem?_range c];rfl
theorem Ph(b a:Nat):(b:Int) / 2 ^ a % 256=b8 (vP b a):=by
 unfold b8 vP;rw[BitVec.toNat_ofNat];(have:((2 ^ a:Nat):Int)=2 ^ a:=by simp);rw[<-this];omega
theorem Wv(w:World):Calls prog 265 #[] w λa w'=>a=.returned (.int .i64 8)/\w=w':=by
 (have hx:bits .xor .u64 IntKind.u64.max 0=mW 8 0:=by decide+kernel);(go_enter func265,ntmps265);go_wp2_with fail;clear hx
 go_loop [1,2] (λb c=>∃a:Nat,a<=8/\b=.int .i64 (a:Int)/\c=.int .u64 (mW 8 (8*a))) (λb _=>8 - (intOf b).toNat)
 case atStart=>exact⟨0,ah,rfl,rfl⟩
 case round=>
  obtain⟨a,b,rfl,rfl⟩:=hrel;by_cases b:a < 8
  ·have c1:(mW 8 (8*a)!=0)=true:=by have:=Sj 8 (8*a) ah;simp;omega
   have e:=wE 8 (8*a);go_wp2_with fail
   go_loop [2,9] (λc d=>∃b:Nat,b<=8/\d=.int .i64 (b:Int)/\c=.int .u64 (mW 8 (8*a+b))) (λ_ d=>8 - (intOf d).toNat)
   case atStart=>exact⟨0,ah,rfl,rfl⟩
   case round=>
    obtain⟨b,c,rfl,rfl⟩:=hrel;clear c1 e;by_cases c:b < 8
    ·have c:mW 8 (8*a+b) / 2=mW 8 (8*a+(b+1)):=OX 8 (8*a+b)
     have c:=wE 8 (8*a+b);go_wp2_with fail
     go_round
     case rel=>exact⟨b+1,ah,by go_num,rfl⟩
     case measure=>simp[intOf];omega
    ·obtain rfl:b=8:=ah
     go_wp2_with fail
     go_round
     case rel=>exact⟨a+1,ah,by go_num,by rw[Nat.mul_add]⟩
     case measure=>simp[intOf];omega
  ·obtain rfl:a=8:=ah
   (have c1:(mW 8 (8*8)!=0)=false:=by decide+kernel);go_wp2_with fail;go_ret;exact⟨rfl,rfl⟩
theorem Yl(g:Nat)(r:Option Nat)(l:aj)(b:Nat)(d:Hid (b < 18446744073709551616))(w:World)(h:l.length+8<=140737488355328)(a:kX w g r l):
  Calls prog 218 #[.pointer (some ⟨g,0,none⟩),.int .u64 (b:Int)] w λc w'=>c=.returned (.tuple #[])/\aO w g r (l++(jM b)) w':=by
 obtain⟨t,v,x,y,z⟩:=fT pI
 have e:=AA (show aO w g r (l++(jM b).take 0) w by simpa using a.refl)
 replace h:=AA h
 clear a
 have a:IntKind.u64.wrap (b:Int)=(b:Int):=dX _ ah (aC d)
 go_enter func218,ntmps218
 go_wp2_with (go_at_call 265;refine(Wv _).mono ?_;rintro c w' ⟨rfl,rfl⟩)
 go_loopw [4] (λd wr=>∃a:Nat,d=.int .i64 (7 - (a:Int))/\Hid (a<=8)/\Hid (aO w g r (l++(jM b).take a) wr)) (λd _=>(1+intOf d).toNat)
 case atStart=>exact⟨0,rfl,(show 0<=8 by omega),e.out⟩
 case round=>
  clear e;obtain⟨a,rfl,A,i⟩:=hrel;by_cases B:a < 8
  ·have e:(0:Int)<=7 - (a:Int):=ah
   have e:(0:Int)<=(a:Int):=ah;obtain⟨r1,f,C,c1⟩:=i.out;obtain⟨d,e,m,n,p⟩:=f
   have j:some g≠d.ownBlock:=λc=>by
    have:=(p g (n ▸ c.symm)).1;omega
   have k:=e.cell 0;have c:=e.frozen 0;simp only[Array.getElem?_singleton,if_pos]at k;have c:=IntWalk.i64_in (8*(7 - (a:Int))) ah;have c:(8*(7 - (a:Int))).toNat=56 - 8*a:=ah;obtain⟨c,s⟩:=bG (vP b (56 - 8*a))
   have D:IntKind.u8.wrap ((b:Int) / 2 ^ (56 - 8*a))=b8 c:=by
    rw[s.out,<-Ph];simp[IntKind.wrap,IntKind.bits,IntKind.signed]
   have D:(8*(7 - (a:Int))) < 64:=ah;have D:0<=(8*(7 - (a:Int))):=ah;have D:(wr.alloc (.cells #[.int .u8 (b8 c)] 5)).cell? ⟨g,0,none⟩=some d:=(World.cell?_alloc_lt wr _ ⟨g,0,none⟩ e.lt).trans k;have k:Hid ((jM b)[a]?=some c):=s.out ▸ Ju b a B
   have s:Hid ((l++(jM b).take a).length+1<=140737488355328):=by
    show _<=_;have:=h.out;rw[List.length_append];have:=List.length_take_le a (jM b);omega
   have B:=AA (Gv l (jM b) a c k.out);have D:=AA m
   have k:∀u,aL wr g 313 #[u]->u=d:=λu h=>by
    have f:=(show wr.heap[g]?=_ from h).symm.trans e;simpa using f
   replace k:=AA k;replace j:=AA j;replace e:=AA e;clear p m n c1 C;generalize l++(jM b).take a=h at*;go_wp2_with fail
   go_region_law (refine step_append_lies (P:=prog) (wr.drew.alloc (.cells #[.int .u8 (b8 c)] 5)) (o:=⟨some 24,_,_,_,_,_⟩) rfl (.tmp 17) (.tmp 23) 27 rfl 0 5 t (.int .u8 0) 1 1 underlying27 v x y z rfl aR d h.length (ak h) ?hs (World.ownsRow.alloc (w:=wr.drew) D.out _) ⟨wr.heap.size,0,none⟩ 1 1 [.int .u8 (b8 c)] ?hx rfl (G6 _ _ _ _ rfl) (gm rfl) aR ?c1 ?c2 (AX _) _ rfl ?_;(case hs=>go_simp);(case hx=>go_simp);(case c1=>have:=s.out;unfold maxLen;omega);(case c2=>have:=s.out;omega);intro t v x n d p s;have m:au (λ_=>False) wr (wr.drew.alloc (.cells #[.int .u8 (b8 c)] 5)):=((au.refl _ wr).drew).alloc _;have y:Hid (aO w g r (h++[c]) (x.setCell ⟨g,0,none⟩ (.slice (some ⟨t,0,none⟩) (h.length+1) v))):=i.out.step (λr1 f=>aO.put (q:=[c]) f k.out rfl rfl m n d p s);obtain⟨c,f⟩:=ze e.out j.out m d;clear n d p s m)
   all_goals
    go_wp2_with fail
    go_roundw
    case rel=>exact⟨a+1,by go_num,(show a+1<=8 by omega),(show aO _ _ _ _ _ by rw[B.out];exact y)⟩
    case measure=>simp[intOf];omega
  ·obtain rfl:a=8:=aC A
   have a:(jM b).take 8=(jM b):=BA (by rw[iO];omega);have a:=AA a;go_wp2_with fail
   go_end0
   exact⟨rfl,by have:=i.out;rw[a.out]at this;exact this⟩
