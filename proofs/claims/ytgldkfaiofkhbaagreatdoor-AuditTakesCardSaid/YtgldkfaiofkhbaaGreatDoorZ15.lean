import Derived.Test.YtgldkfaiofkhbaaGreatDoorZ14
import Derived.Test.YtgldkfaiofkhbaaGreatDoorZ13
import Derived.Laws.AppendOwnNone
namespace Go.Proofs.YtgldkfaiofkhbaaGreatDoor
open Go Go.RowKit Go.Proofs.Tryz
set_option maxRecDepth 100000
set_option maxHeartbeats 3000000
def Xt(x:aj):Value:=.agg (ak x).toArray
theorem bO(a:aj):(ak a).toArray.all (λb=>b.oneCell')=true:=by rw[List.all_toArray];exact List.all_eq_true.2 (aY a)
theorem uo(c:aj)(hx:c.length=32)(e:Int)(a:World):
  bq 113 #[.agg (ak c).toArray,.int .i64 e] a (.agg (ak (dP c (cu e))).toArray):=by
 have f:=fD e
 have b:=AA hx
 have b:=AA (bI c hx)
 obtain⟨b,g⟩:=bG (cu e)
 rw[<-g.out]at f ⊢
 have d:=AA (bI (dP c b) (eT c b hx f.2))
 have i:=AA (bO (dP c b))
 have j:Hid ((bF:Array Value).size=(ak (dP c b)).toArray.size):=by show _=_;simp[aB,eT c b hx f.2,bF]
 have k:Hid (b+(32 - b)<=(ak c).toArray.size):=by show _<=_;simp[aB,hx];omega
 have l:=AA<|congrArg List.toArray (Lc c b)
 clear hx
 by_cases c1:e < 1
 ·have h:b=1:=by have:=g.out;unfold cu at this;rw[if_pos c1]at this;exact this
  subst h;clear g f;(go_enter BH,ntmps113);go_wp2_with (first|((with_reducible change wpList _ _ _ ({dst:=none,op:=Op.call {callee:=Callee.builtin Builtin.clear,args:=_,argTypes:=_},type:=_,pos:=_,after:=_,guard:=_} :: _) _ _);refine oz (o:=⟨none,_,_,_,_,_⟩) rfl (.tmp 8) 27 rfl 5 AR (.int .u8 0) (λ_=>rfl) rfl rfl a.heap.size 1 31 31 rfl 1 (λ_=>rfl) (ak c).toArray 23 (heap_alloc2_old a _ _) k ?_;rw[l.out]) |(rw[aF 9];refine aM (setRow_heap _ _ _ _ _ _ (heap_alloc2_old a _ _)) d AB ?_) |(rw[bA 23 _];refine fw ((setRow_other _ _ _ _ ah).trans (heap_alloc2_new a _ _)) d j i ?_));refine gI (setRow_heap _ _ _ _ _ _ ((setRow_other _ _ _ _ ah).trans (heap_alloc2_new a _ _))) d AB ?_;exact⟨rfl,below_setRow (below_setRow (((Below.refl _ a).alloc (AJ _) _).alloc aZ _) (AJ _) _) ah _⟩
 by_cases c2:32 < e
 ·have h:b=32:=by have:=g.out;unfold cu at this;rw[if_neg c1,if_pos c2]at this;exact this
  subst h;clear g f;(go_enter BH,ntmps113);go_wp2_with (first|((with_reducible change wpList _ _ _ ({dst:=none,op:=Op.call {callee:=Callee.builtin Builtin.clear,args:=_,argTypes:=_},type:=_,pos:=_,after:=_,guard:=_} :: _) _ _);refine oz (o:=⟨none,_,_,_,_,_⟩) rfl (.tmp 8) 27 rfl 5 AR (.int .u8 0) (λ_=>rfl) rfl rfl a.heap.size 0 0 0 rfl 32 (λm=>absurd m ah) (ak c).toArray 23 (heap_alloc2_old a _ _) k ?_;rw[l.out]) |(rw[aF 9];refine aM (setRow_heap _ _ _ _ _ _ (heap_alloc2_old a _ _)) d AB ?_) |(rw[bA 23 _];refine fw ((setRow_other _ _ _ _ ah).trans (heap_alloc2_new a _ _)) d j i ?_));refine gI (setRow_heap _ _ _ _ _ _ ((setRow_other _ _ _ _ ah).trans (heap_alloc2_new a _ _))) d AB ?_;exact⟨rfl,below_setRow (below_setRow (((Below.refl _ a).alloc (AJ _) _).alloc aZ _) (AJ _) _) ah _⟩
 ·have h:e=(b:Int):=by have:=g.out;unfold cu at this;rw[if_neg c1,if_neg c2]at this;omega
  subst h;have h:∀e,(Instr.sliceAt 23 (.pointer (some ⟨a.heap.size,0,none⟩)) (some (.int .i64 (b:Int))) none none).run prog e=.ok (.slice (some ⟨a.heap.size,Qj b,none⟩) (32 - b) (32 - b)) e:=Rz AB bH (λ_=>rfl) f.2 _ rfl;clear g f;(go_enter BH,ntmps113);go_wp2_with (first|((with_reducible change wpList _ _ _ ({dst:=none,op:=Op.call {callee:=Callee.builtin Builtin.clear,args:=_,argTypes:=_},type:=_,pos:=_,after:=_,guard:=_} :: _) _ _);refine oz (o:=⟨none,_,_,_,_,_⟩) rfl (.tmp 8) 27 rfl 5 AR (.int .u8 0) (λ_=>rfl) rfl rfl a.heap.size (Qj b) (32 - b) (32 - b) rfl b (λm=>U4 m) (ak c).toArray 23 (heap_alloc2_old a _ _) k ?_;rw[l.out]) |(rw[aF 9];refine aM (setRow_heap _ _ _ _ _ _ (heap_alloc2_old a _ _)) d AB ?_) |(rw[bA 23 _];refine fw ((setRow_other _ _ _ _ ah).trans (heap_alloc2_new a _ _)) d j i ?_));refine gI (setRow_heap _ _ _ _ _ _ ((setRow_other _ _ _ _ ah).trans (heap_alloc2_new a _ _))) d AB ?_;exact⟨rfl,below_setRow (below_setRow (((Below.refl _ a).alloc (AJ _) _).alloc aZ _) (AJ _) _) ah _⟩
theorem ax.off{b:World}{c:Option Addr}{d a:Nat}{xs:List Value}(e:ax b 1 c d xs)(f:b.heap.size<=a):0 < d->kS c a:=by
 intro c d b;obtain⟨c,f,d,g,_⟩:=e.2 ah;rw[d]at b;obtain rfl:=AL b;show c≠a;omega
theorem zK(d:aj)(b:Nat)(c:d.length=b)(j:Option Addr)(k:Nat)(a:World)(e:bn a)(h:b < 144115188075855872)(i:ax a 1 j b (ak d))(s:b<=k):
  bq 114 #[.slice j b k] a (.agg (ak (bB d)).toArray):=by
 have o:=AA (bI (bB d) (eU d))
 have t:Hid ((bF:Array Value).size=(ak (bB d)).toArray.size):=by show _=_;simp[aB,eU,bF]
 have u:=AA (bO (bB d))
 have p:=AA c
 replace e:=AA e
 replace i:=AA i
 replace h:=AA h
 have v:=AA (heap_alloc_new a (Obj.cells bF 23))
 clear c
 go_enter func114,ntmps114
 go_wp2_with (first
  |(go_at_call 184;refine(o7 _).mono ?_;rintro q r ⟨l,rfl,f,m,g⟩;replace m:=AA m;replace g:=AA g;replace f:=AA (show a.heap.size+1<=l by simpa using f);have c:=AA<|((Below.refl _ a).alloc (AJ _) _).trans (g.mono aZ);have n:Hid (aL r a.heap.size 23 bF):=(g.block a.heap.size aZ).trans v;clear g)
  |(go_at_call 185;refine(rE [] d b p l j k r (e.below c e.1) (dn e.1 f) m (by have:=h.out;simp;omega) (i.below c) (ax.off i (aC f)) s).mono ?_;rintro q i ⟨rfl,g,b⟩;replace g:=AA g;replace b:=AA b)
  |(go_at_call 186;refine(DW d l i ((e.below c e.1).kept b (dn e.1 f)) g (by have:=h.out;rw[p.out];omega)).mono ?_;rintro q e ⟨rfl,d⟩;replace d:=AA d;have g:Hid (aL e a.heap.size 23 bF):=((d.block a.heap.size (dn b.size n.lt)).trans ((b.block a.heap.size n.lt (aC f)).trans n));have h:Hid (av a e):=⟨d.os.trans (b.os.trans c.os),d.tape.trans (b.tape.trans c.tape),d.output.trans (b.output.trans c.output),by have:=d.size;have:=b.size;have:=c.size;omega,λa hx=>(d.block a (dn b.size c.size)).trans ((b.block a (aC c.size) (aC f)).trans (c.block a hx))⟩)
  |(rw[bA 23 _];refine fw g o t u ?_))
 refine gI (setRow_heap _ _ _ _ _ _ g) o AB ?_
 exact⟨rfl,below_setRow h (AJ _) _⟩
theorem Hh.alloc{w:World}{b:Nat}{c:aj}(a:Hh w b c)(o:Obj):Hh (w.alloc o) b c:=by
 obtain⟨b,a⟩:=a;exact⟨b,a.alloc o⟩
theorem xW(c:List aj)(i:Nat)(q:c.length=i)(L:Option Addr)(X:Nat)(r s:Int)(d:World)(e:bn d)(t:c.flatten.length < 72057594037927936)(E:i < 72057594037927936)(F:gq d L c):
  Calls prog 115 #[.int .i64 r,.int .i64 s,.slice L i X] d λm Y=>
   m=.returned (.agg (ak (dP (bB (kb s :: c.flatten)) (cu r))).toArray)/\av d Y:=by
 have Z:=SG s
 have α:=Jb s
 generalize kb s=f at*
 obtain⟨v,hx⟩:=bG (dP (bB (f :: c.flatten)) (cu r))
 have G:v.length=32:=hx.out ▸ eT _ _ (eU _) (fD r).2
 rw[<-hx.out]
 have H:=AA (bI v G)
 have β:Hid ((bF:Array Value).size=(ak v).toArray.size):=by show _=_;simp[aB,G,bF]
 have γ:=AA (bO v)
 replace q:=AA q
 replace e:=AA e
 replace F:=AA F
 replace t:=AA t
 replace E:=AA E
 clear G
 have M:=AA (heap_alloc_new d (Obj.cells bF 23))
 go_enter func115,ntmps115
 go_wp2_with (first
  |(go_at_call 184;refine(o7 _).mono ?_;rintro m k ⟨j,rfl,g,h,b⟩;replace h:=AA h;replace b:=AA b;replace g:=AA (show d.heap.size+1<=j by simpa using g);have n:=AA<|((Below.refl _ d).alloc (AJ _) _).trans (b.mono aZ);have N:Hid (aL k d.heap.size 23 bF):=(b.block d.heap.size aZ).trans M;clear b)
  |(go_at_call 185;refine(rE [] [f] 1 rfl j (some ⟨k.heap.size,0,none⟩) 1 (k.alloc (.cells #[.int .u8 (b8 f)] 5)) ((e.below n e.1).below (Below.aJ k _) (dn n.size e.1)) (dn e.1 g) (Hh.alloc h _) aZ ((aL.new k 5 #[.int .u8 (b8 f)]).reads 0 (ak [f]) rfl (λδ u ε=>by rw[Nat.zero_add];exact WN f δ u ε)) (λ_ υ w=>by obtain rfl:=AL w;have:=h.lt;show k.heap.size≠j;omega) (AJ _)).mono ?_;rintro m O ⟨rfl,x,I⟩;replace x:Hid (Hh O j [f]):=x;have P:=AA<|n.trans (((Below.refl _ k).alloc n.size _).trans (au.aW I (aC g) (by have:=n.size;simp;omega)));have Q:=AA<|(aL.alloc N _).kept I (aC g);clear I))
 clear h N n Z α M
 obtain⟨y,rfl⟩:=fB O
 go_loopw [18] (λJ wr=>∃a:Nat,J=.int .i64 (a:Int)/\a<=i/\Hid (Hh wr j (f :: (c.take a).flatten))/\Hid (av d wr)/\Hid (aL wr d.heap.size 23 bF)) (λJ _=>i - (intOf J).toNat)
 case atStart=>exact⟨0,rfl,ah,x,P,Q⟩
 case round=>
  clear x P Q;obtain⟨a,rfl,φ,h,b,z⟩:=hrel;by_cases ζ:a < i
  ·have H:(a:Int) < (i:Int):=ah
   obtain⟨l,R⟩:∃l,Hid (c[a]?=some l):=⟨c[a]'(q.out ▸ ζ),AV _⟩;obtain⟨η,θ,ι,S,T⟩:=F.out (by rw[q.out];omega);obtain⟨U,κ,V,μ,A,_⟩:=T a l R;have ν:Hid (0 < l.length->kS U j):=ax.off A (aC g);(replace A:=AA<|A.below b);replace V:=(b.cell (p:=⟨η,θ+a,none⟩) S).trans V;have B:=tT c a l R;replace B:=AA B;subst ι;clear S T;have χ:(a:Int) < 9223372036854775807:=aC E;obtain⟨y,rfl⟩:=fB wr;go_wp2_with (go_at_call 185;refine(rE (f :: (c.take a).flatten) l l.length rfl j U κ y (e.below b e.1) (dn e.1 g) h (by have:=t.out;have:=B.2;simp only[List.length_cons];omega) A (λξ=>ν ξ) μ).mono ?_;rintro m ψ ⟨rfl,K,C⟩;replace K:=AA K;replace C:=AA C);go_roundw
   case rel=>
    refine⟨a+1,by go_num,ah,?_,b.trans (au.aW C (aC g) b.size),z.kept C (aC g)⟩;show Hh _ _ _;rw[B.out.1];exact K
   case measure=>simp[intOf];omega
  ·have ο:a=i:=ah
   subst ο;(have w:(c.take a).flatten=c.flatten:=by rw[List.take_of_length_le (by rw[q.out];exact Nat.le_refl _)]);rw[w]at h;obtain⟨y,rfl⟩:=fB wr;clear w
   go_wp2_with (first
    |(go_at_call 186;refine(DW (f :: c.flatten) j y (e.below b e.1) h (by have:=t.out;simp only[List.length_cons];omega)).mono ?_;rintro m ρ ⟨rfl,o⟩;replace o:=AA o)
    |(go_at_call 113;refine(uo (bB (f :: c.flatten)) (eU _) r ρ).mono ?_;rw[<-hx.out];rintro m σ ⟨rfl,D⟩;replace D:=AA D;have W:Hid (aL σ d.heap.size 23 bF):=(D.block d.heap.size (dn o.size z.lt)).trans ((o.block d.heap.size z.lt).trans z);have τ:=AA<|b.trans ((o.mono (aC b.size)).trans (D.mono (dn o.size b.size))))
    |(rw[bA 23 _];refine fw W H β γ ?_))
   refine gI (setRow_heap _ _ _ _ _ _ W) H AB ?_;exact⟨rfl,below_setRow τ (AJ _) _⟩
def xX:Array Value:=((List.range 72).map o5).toArray
theorem Ql(a:Nat)(b:a < 72):xX[a]?=some (o5 a):=by
 unfold xX;rw[List.getElem?_toArray,List.getElem?_map,List.getElem?_range b];rfl
theorem KF(a:World):bq 225 #[] a (.agg xX):=KG a
theorem RH{a b c:World}{d g:Array Value}{e:TypeId}(f:Below (a.alloc (.cells d e)).heap.size (a.alloc (.cells d e)) b)
  (h:(b.alloc (.cells g 327)).setRow b.heap.size xX=c):
  iX c b.heap.size 327 72 o5/\aL c a.heap.size e d/\av a c/\c.heap.size=b.heap.size+1/\a.heap.size < b.heap.size:=by
 subst h
 have hs:=f.size
 simp at hs
 refine⟨⟨xX,setRow_heap _ _ _ _ _ _ (heap_alloc_new b _),by simp[xX],Ql⟩,?_,?_,by simp,ah⟩
 ·unfold aL
  rw[setRow_other _ _ _ _ ah,Below.heap_alloc b _ _ ah,f.block a.heap.size aZ];exact heap_alloc_new a _
 ·exact below_setRow ((((Below.refl _ a).alloc (AJ _) _).trans (f.mono aZ)).alloc ah _) ah _
def yt(i j:Nat):Value:=if j < i then rH fU j else .int .u32 0
theorem Ls(a b:Nat):yt (a+1) b=if b=a then rH fU a else yt a b:=by
 unfold yt;by_cases c:b=a
 ·subst c
  rw[if_pos rfl,if_pos ah]
 ·rw[if_neg c]
  by_cases c:b < a
  ·rw[if_pos c,if_pos ah]
  ·rw[if_neg c,if_neg ah]
theorem Xv(a:Nat)(b:a < 8):(#[.int .u32 0,.int .u32 0,.int .u32 0,.int .u32 0,.int .u32 0,.int .u32 0,.int .u32 0,.int .u32 0]:Array Value)[a]?=some (.int .u32 0):=by
 match a,b with
 | 0,_=>rfl
 | 1,_=>rfl
 | 2,_=>rfl
 | 3,_=>rfl
 | 4,_=>rfl
 | 5,_=>rfl
 | 6,_=>rfl
 | 7,_=>rfl
theorem Wt(a:Nat)(b:a < 16):(#[.int .u32 0,.int .u32 0,.int .u32 0,.int .u32 0,.int .u32 0,.int .u32 0,.int .u32 0,.int .u32 0,.int .u32 0,.int .u32 0,.int .u32 0,.int .u32 0,.int .u32 0,.int .u32 0,.int .u32 0,.int .u32 0]:Array Value)[a]?=some (.int .u32 0):=by
 have a:(#[.int .u32 0,.int .u32 0,.int .u32 0,.int .u32 0,.int .u32 0,.int .u32 0,.int .u32 0,.int .u32 0,.int .u32 0,.int .u32 0,.int .u32 0,.int .u32 0,.int .u32 0,.int .u32 0,.int .u32 0,.int .u32 0]:Array Value)=Array.replicate 16 (.int .u32 0):=rfl;rw[a,Array.getElem?_replicate,if_pos b]
theorem JS(c d:St)(a b:Nat):nK c d (a+1) b=if b=a then .int .u32 (u (c.get a+d.get a))else nK c d a b:=by
 unfold nK;by_cases c:b=a
 ·subst c
  rw[if_pos rfl,if_pos ah]
 ·rw[if_neg c]
  by_cases c:b < a
  ·rw[if_pos c,if_pos ah]
  ·rw[if_neg c,if_neg ah]
theorem KE(c:St)(a b:Nat):mD c (a+1) b=if b=a then .int .u8 (b8 (nH (c.get (a / 4)) (24 - 8*(a % 4))))else mD c a b:=by
 unfold mD;by_cases c:b=a
 ·subst c
  rw[if_pos rfl,if_pos ah]
 ·rw[if_neg c]
  by_cases c:b < a
  ·rw[if_pos c,if_pos ah]
  ·rw[if_neg c,if_neg ah]
theorem Ow:(prog.info? 329).map (·.size)=some 8:=by kernel_rfl
theorem Mh(b:St):(pR b).toArray.all (λa=>a.oneCell')=true:=by
 rw[List.all_toArray];(refine List.all_eq_true.2 λa b=>?_);obtain⟨a,_,rfl⟩:=Aq.1 b;rfl
theorem Un{d:World}{e:Nat}{f:TypeId}{b:St}(g:iX d e f 8 (rH b)):∀a c,(pR b)[a]?=some c->d.cell? ⟨e,0+a,none⟩=some c:=by
 intro a c d
 have c:a < 8:=by
  have:=(AU.1 d).1;rwa[mX]at this
 rw[Nat.zero_add,g.cell c,<-d,vW b a c];rfl
theorem UW{a c:World}{b:St}{d:TypeId}{e:Array Value}(f:(a.alloc (.cells e d)).setRow a.heap.size (pR b).toArray=c):iX c a.heap.size d 8 (oK b 0)/\av a c:=by
 subst f;refine⟨⟨(pR b).toArray,setRow_heap _ _ _ _ _ _ (heap_alloc_new a _),by simp[mX],λc d=>?_⟩,below_setRow ((Below.refl _ a).alloc (AJ _) _) (AJ _) _⟩;rw[List.getElem?_toArray,vW b c d,Sq b c d];rfl
theorem oF(s:aj)(a:Nat)(V:s.length=a)(k:Option Addr)(v:Nat)(d:World)(F:a < 144115188075855872)(A:ax d 1 k a (ak s)):
  bq 143 #[.slice k a v] d (.agg (ak (bB s)).toArray):=by
 replace F:=AA F
 replace A:=AA A
 replace V:=AA V
 obtain⟨x,N⟩:=bG ((a+72) / 64)
 have γ:Hid (fq a=64*x):=by show _=_;rw[N.out];unfold fq;omega
 have E:IntKind.i64.wrap ((a:Int)+72)=(a:Int)+72:=by have:=F.out;exact AO _ ah
 have G:((a:Int)+72).tdiv 64=(x:Int):=by have:=N.out;rw[Int.tdiv_eq_ediv_of_nonneg ah];omega
 have H:IntKind.i64.wrap (x:Int)=(x:Int):=by have:=F.out;have:=N.out;exact AO _ ah
 have I:IntKind.i64.wrap ((x:Int)*64)=64*(x:Int):=by have:=F.out;have:=N.out;rw[Int.mul_comm];exact AO _ ah
 have J:(0:Int)<=(a:Int)+72:=ah
 go_enter func143,ntmps143
 go_wp2_with (first
  |(go_at_call 225;refine(KF _).mono ?_;rintro w e ⟨rfl,b⟩;replace b:=AA b)
  |(rw[bA 327 _];refine fw (heap_alloc_new e _) bH bH bH ?_;generalize c:World.setRow _ e.heap.size xX=f;obtain⟨i,l,h,m,n⟩:=RH b c;replace i:=AA i;replace l:=AA l;replace h:=AA h;replace m:=AA m;replace n:=AA n;clear c b))
 obtain⟨t,q⟩:=bG (e.heap.size)
 obtain⟨e,r⟩:=bG (f.heap.size)
 obtain⟨g,b⟩:=bG (f.alloc (Obj.cells #[.int .u32 0,.int .u32 0,.int .u32 0,.int .u32 0,.int .u32 0,.int .u32 0,.int .u32 0,.int .u32 0] 329))
 have B:Hid (iX g e 329 8 (yt 0)):=by show iX _ _ _ _ _;rw[r.out,b.out];exact iX.new f _ _ 8 _ rfl (λj y=>by unfold yt;rw[if_neg ah];exact Xv j y)
 have z:Hid (iX g t 327 72 o5):=by show iX _ _ _ _ _;rw[q.out,b.out];exact i.alloc _
 have C:Hid (aL g d.heap.size 23 bF):=b.out ▸ l.alloc _
 have D:Hid (Below d.heap.size d g):=b.out ▸ h.alloc h.size _
 have f:Hid (d.heap.size < t/\e=t+1/\g.heap.size=e+1):=by show _/\_/\_;rw[r.out,q.out,b.out];refine⟨n,m,by simp⟩
 rw[<-q.out,<-r.out,<-b.out]
 clear b q r i l h m n
 clear E G I J H
 go_loopw [6] (λh wr=>∃b:Nat,h=.int .i64 (b:Int)/\b<=8/\Hid (iX wr e 329 8 (yt b))/\Hid (Below e g wr)) (λh _=>8 - (intOf h).toNat)
 case atStart=>exact⟨0,rfl,ah,B,Below.refl _ _⟩
 case round=>
  clear B;obtain⟨b,rfl,θ,l,n⟩:=hrel;by_cases δ:b < 8
  ·have i:(b:Int) < 8:=ah
   have R:wr.cell? ⟨t,64+b,none⟩=some (.int .u32 (u (fU.get b))):=(n.cell (p:=⟨t,64+b,none⟩) (by have:=f.out;show t < e;omega)).trans ((z.cell ah).trans (congrArg some (XP b δ)));have aD:=l.cell ah;have s1:wr.frozen? ⟨e,b,none⟩=false:=l.frozen _;have E:=AO (64+(b:Int)) ah;have ε:(0:Int)<=64+(b:Int):=ah;have Δ:64+(b:Int) < 72:=ah;have ι:(64+(b:Int)).toNat=64+b:=ah;go_wp2_with fail;go_roundw
   case rel=>
    refine⟨b+1,by go_num,ah,l.lD b _ (λj _=>?_),n.setCell (AJ _) _⟩;rw[Ls];rfl
   case measure=>clear E ι;simp[intOf];omega
  ·have κ:b=8:=ah
   subst κ;clear δ θ;obtain⟨g,rfl⟩:=fB wr;have q:Hid (iX g e 329 8 (rH (dZ (gF s) 0))):=l.congr (λj y=>by unfold yt;rw[if_pos y];rfl);(have r:=AA<|iX.below' z n (aC f));have B:Hid (aL g d.heap.size 23 bF):=(n.block d.heap.size (aC f)).trans C;(have G:=AA<|D.trans (n.mono (aC f)));have H:Hid (d.heap.size < t/\e=t+1/\e < g.heap.size):=⟨f.1,f.2.1,l.lt⟩;clear n l z C D f;go_wp2_with fail;simp only[Int.cast_ofNat_Int]
   go_loopw [7] (λh wr=>∃m:Nat,h=.int .i64 (64*(m:Int))/\m<=x/\Hid (iX wr e 329 8 (rH (dZ (gF s) m)))/\Hid (iX wr t 327 72 o5)/\Hid (aL wr d.heap.size 23 bF)/\Hid (Below d.heap.size d wr)/\Hid (d.heap.size < t/\e=t+1/\e < wr.heap.size)) (λh _=>64*x - (intOf h).toNat)
   case atStart=>exact⟨0,rfl,ah,q,r,B,G,H⟩
   case round=>
    clear q r B G H;obtain⟨m,rfl,Â,z,μ,ζ,S,η⟩:=hrel;by_cases δ:m < x
    ·have i:64*(m:Int) < 64*(x:Int):=ah
     obtain⟨g,rfl⟩:=fB wr;go_wp2_with fail;clear i;obtain⟨f,Θ⟩:=bG (jh (gF s) m);obtain⟨i,c⟩:=bG (g.heap.size);obtain⟨r,q⟩:=bG (g.alloc (Obj.cells #[.int .u32 0,.int .u32 0,.int .u32 0,.int .u32 0,.int .u32 0,.int .u32 0,.int .u32 0,.int .u32 0,.int .u32 0,.int .u32 0,.int .u32 0,.int .u32 0,.int .u32 0,.int .u32 0,.int .u32 0,.int .u32 0] 330));(have B:Hid (iX r i 330 16 (nN f 0)):=by show iX _ _ _ _ _;rw[c.out,q.out];exact iX.new g _ _ 16 _ rfl (λj y=>by rw[IJ];exact Wt j y));(have C:Hid (Below i g r):=by show Below _ _ _;rw[c.out,q.out];exact(Below.refl _ _).alloc (AJ _) _);rw[<-c.out,<-q.out];clear q
     go_loopw [9] (λh wr=>∃j:Nat,h=.int .i64 (j:Int)/\j<=64/\Hid (iX wr i 330 16 (nN f j))/\Hid (Below i g wr)) (λh _=>64 - (intOf h).toNat)
     case atStart=>exact⟨0,rfl,ah,B,C⟩
     case round=>
      clear B C;obtain⟨j,rfl,y,l,n⟩:=hrel;by_cases C:j < 64
      ·have g:(j:Int) < 64:=ah
       have B:=AA<|(A.below S).below (c.out ▸ n)
       have r:∀g,Calls prog 226 #[.slice k a v,.int .i64 (64*(m:Int)+(j:Int)),.int .i64 (64*(x:Int))] (wr.drewN g) λw G=>w=.returned (.int .u8 (b8 (f j)))/\∃q,G=(wr.drewN g).drewN q:=by
        intro g;have q:=NU s a V F k v (64*m+j) (by rw[γ.out];omega) (wr.drewN g) B;have g:((64*m+j:Nat):Int)=64*(m:Int)+(j:Int):=ah;have k:((fq a:Nat):Int)=64*(x:Int):=aC γ;rw[g,k]at q;(have a:ES s (64*m+j)=f j:=by rw[Θ.out];unfold jh;rw[Kw _ _ (by rw[V.out,γ.out];omega)]);rw[a]at q;exact q
       obtain⟨v,A⟩:=bG (j / 4);obtain⟨p,T⟩:=bG (Ei f (j / 4) (j % 4));(have R:wr.cell? ⟨i,v,none⟩=some (.int .u32 (u p)):=by rw[A.out,T.out];exact(l.cell ah).trans (congrArg some (MW f j)));have Ξ:wr.frozen? ⟨i,v,none⟩=false:=l.frozen _;(have ν:(j:Int).tdiv 4=(v:Int):=by have:=A.out;rw[Int.tdiv_eq_ediv_of_nonneg ah];omega);(have ξ:IntKind.i64.wrap (v:Int)=(v:Int):=by have:=A.out;exact AO _ ah);(have ο:IntKind.i64.wrap (64*(m:Int)+(j:Int))=64*(m:Int)+(j:Int):=by have:=N.out;have:=F.out;exact AO _ ah);have Ã:(v:Int) < 16:=aC A;have Φ:(0:Int)<=(v:Int):=ah;have a:=Oj;have g:=WK;go_wp2_with fail;refine iA 16 bH bH ?_;simp only[List.take_succ_cons,List.take_zero,List.drop_succ_cons,List.drop_zero]
       repeat(go_big_quiet_step ((go_at_call 226;exact Calls.quiet_of (r _))))
       refine wpQuiet_nil ?_;intro _ O;obtain⟨B,P⟩:=O;subst P;clear r a g ν ξ ο;go_wp2_with fail;go_roundw
       case rel=>
        refine⟨j+1,by go_num,ah,(l.drewN B).lD v _ (λQ _=>?_),(fI n B).setCell (AJ _) _⟩;rw[IK,<-A.out,A.out,<-T.out]
       case measure=>simp[intOf];omega
      ·have ρ:j=64:=ah
       subst ρ;clear C y;obtain⟨k,W⟩:=bG (dZ (gF s) m);rw[<-W.out]at z;obtain⟨r,rfl⟩:=fB wr;(have H:=AA<|l.congr (λQ hx=>PZ f Q hx));(have q:Hid (d.heap.size < t/\e=t+1/\e < i):=by have:=η.out;rw[<-c.out]at this;exact this);(have D:=AA<|iX.below' z n q.2.2);(have J:=AA<|iX.below' μ n (aC q));have L:Hid (aL r d.heap.size 23 bF):=(n.block d.heap.size (aC q)).trans ζ;(have M:=AA<|S.trans (n.mono (aC q)));have a:=AA l.lt;clear l n z μ ζ S η
       go_wp2_with (first
        |(rw[aF 66];refine bS (Un D.out) (Ow.trans (congrArg some (mX k).symm)) underlying329 ?_)
        |((with_reducible change wpList _ _ _ ({dst:=none,op:=Op.store 329 _ _,type:=_,pos:=_,after:=_,guard:=_} :: _) _ _);refine wpList_store_row (o:=⟨none,_,_,_,_,_⟩) rfl 329 (.tmp 10) (.tmp 66) rfl r.heap.size (pR k).toArray rfl rfl 329 _ (heap_alloc_new r _) (Ow.trans (congrArg some (mX k).symm)) (mX k).symm (Mh k) ?_))
       obtain⟨g,C⟩:=bG (r.heap.size);generalize U:World.setRow _ r.heap.size (pR k).toArray=I;obtain⟨r,c⟩:=UW U;rw[<-C.out]at r;rw[<-C.out];(have Y:=AA<|iX.below' H.out c a.out);(have σ:=AA<|iX.below' J.out c (dn q a));(have Ψ:=AA<|iX.below' D.out c (dn q a));have Ω:Hid (aL I d.heap.size 23 bF):=(c.block d.heap.size (dn q a)).trans L.out;(have À:=AA<|M.out.trans (c.mono (dn q a)));have X:Hid (i < g):=C.out ▸ a.out;replace r:=AA r;clear U c H J D L M a C;go_wp2_with fail
       try simp only[Int.cast_ofNat_Int]
       go_loopw [11] (λh wr=>∃a:Nat,h=.int .i64 (a:Int)/\a<=64/\Hid (iX wr i 330 16 (lH (mB f) a))/\Hid (iX wr g 329 8 (oK (vZ (mB f) k a) a))/\Hid (Below i I wr)) (λh _=>64 - (intOf h).toNat)
       case atStart=>exact⟨0,rfl,ah,Y,r,Below.refl _ _⟩
       case round=>
        clear Y r;obtain⟨a,rfl,l,D,Y,H⟩:=hrel;by_cases r:a < 64
        ·have c:(a:Int) < 64:=ah
         repeat(go_not_at_if 72;go_step)
         go_cut []from 71 to 115 (λwc=>Hid (iX wc i 330 16 (lH (mB f) (a+1)))/\Hid (iX wc g 329 8 (oK (vZ (mB f) k a) a))/\Hid (Below i I wc))
         case first=>
          by_cases c:16<=a
          ·have β:(16:Int)<=(a:Int):=ah
           obtain⟨C,I⟩:=bG (a % 16);obtain⟨J,L⟩:=bG ((a+1) % 16);obtain⟨M,U⟩:=bG ((a+14) % 16);obtain⟨Z,α⟩:=bG ((a+9) % 16);have R:wr.cell? ⟨i,C,none⟩=some (.int .u32 (u (bX (mB f) (a - 16)))):=I.out ▸ (D.cell ah).trans (congrArg some (DZ (mB f) a 0 c r ah));have Ξ:wr.frozen? ⟨i,C,none⟩=false:=D.frozen _;(have c1:wr.cell? ⟨i,J,none⟩=some (.int .u32 (u (bX (mB f) (a - 15)))):=by rw[L.out,show a - 15=a - 16+1 by omega];exact(D.cell ah).trans (congrArg some (DZ (mB f) a 1 c r ah)));(have χ:wr.cell? ⟨i,M,none⟩=some (.int .u32 (u (bX (mB f) (a - 2)))):=by rw[U.out,show a - 2=a - 16+14 by omega];exact(D.cell ah).trans (congrArg some (DZ (mB f) a 14 c r ah)));(have τ:wr.cell? ⟨i,Z,none⟩=some (.int .u32 (u (bX (mB f) (a - 7)))):=by rw[α.out,show a - 7=a - 16+9 by omega];exact(D.cell ah).trans (congrArg some (DZ (mB f) a 9 c r ah)));have ε:=AO ((a:Int)+1) ah;have τ:((a:Int)+1) % 16=(J:Int):=aC L;have υ:(J:Int) < 16:=aC L;have φ:(0:Int)<=(a:Int)+1:=ah
           repeat(go_not_at_region 22;first| go_step)
           clear ε τ υ φ c1;have J:=AO ((a:Int)+14) ah;have L:((a:Int)+14) % 16=(M:Int):=aC U;have ψ:(M:Int) < 16:=aC U;have M:(0:Int)<=(a:Int)+14:=ah
           repeat(go_not_at_region 23;first| go_step)
           clear J L ψ M χ;have hx:=JG;have J:=XG;have L:=V8;go_wp2_with (first|(go_at_call_of 227 (Value.int IntKind.i64 7);refine(WH _ _).mono ?_;rintro w G ⟨rfl,U,rfl⟩) |(go_at_call_of 227 (Value.int IntKind.i64 18);refine(UQ _ _).mono ?_;rintro w G ⟨rfl,U,rfl⟩) |(go_at_call_of 227 (Value.int IntKind.i64 17);refine(UR _ _).mono ?_;rintro w G ⟨rfl,U,rfl⟩) |(go_at_call_of 227 (Value.int IntKind.i64 19);refine(UO _ _).mono ?_;rintro w G ⟨rfl,U,rfl⟩));have χ:=zJ;have M:=AO ((a:Int)+9) ah;have ψ:((a:Int)+9) % 16=(Z:Int):=aC α;have ω:(Z:Int) < 16:=aC α;have Γ:(0:Int)<=(a:Int)+9:=ah;have Z:(a:Int) % 16=(C:Int):=aC I;have α:(C:Int) < 16:=aC I;refine iA 17 bH bH ?_;simp only[List.take_succ_cons,List.take_zero,List.drop_succ_cons,List.drop_zero]
           repeat(go_big_quiet_step (fail))
           refine wpQuiet_nil ?_;intro _ O;obtain⟨B,P⟩:=O;subst P;clear χ hx J L M ψ ω Γ Z α;go_wp2_with fail;go_meet
           case rel=>
            refine⟨(D.drewN _).lD C _ (λQ hx=>?_),(Y.drewN _).far (by have:=X.out;show g≠i;omega) _,(fI H _).setCell (AJ _) _⟩;rw[OG _ a Q c r hx,<-I.out,<-GA _ _ c]
          ·have β:(a:Int) < 16:=ah
           go_wp2_with fail;go_meet
           case rel=>exact⟨D.congr (λQ hx=>OE _ a Q ah hx),Y,H⟩
         case rest=>
          obtain⟨ψ,J,ω⟩:=hcut;clear D Y H;obtain⟨c,β⟩:=bG (vZ (mB f) k a);obtain⟨L,Γ⟩:=bG (bX (mB f) a);obtain⟨M,Á⟩:=bG (K a);(have Ä:Hid (vZ (mB f) k (a+1)=step M L c):=by show _=_;rw[β.out,Γ.out,Á.out];rfl);rw[<-β.out]at J;have Å:wc.cell? ⟨t,a,none⟩=some (.int .u32 (u M)):=Á.out ▸ (ω.cell (p:=⟨t,a,none⟩) (by have:=q.out;show t < i;omega)).trans ((σ.cell ah).trans (congrArg some (XO a r)));obtain⟨C,I⟩:=bG (a % 16);(have Æ:wc.cell? ⟨i,C,none⟩=some (.int .u32 (u L)):=by rw[I.out,Γ.out];exact(ψ.cell ah).trans (congrArg some (RF (mB f) a r)));obtain⟨t,rfl⟩:=fB wc;obtain⟨β,Γ⟩:=bG ((64 - a) % 8);have R:t.cell? ⟨g,β,none⟩=some (.int .u32 (u c.a)):=Γ.out ▸ (J.cell ah).trans (congrArg some (vD c a 0 r ah));have E:=AO (64 - (a:Int)) ah;have Z:(64 - (a:Int)) % 8=(β:Int):=aC Γ;have α:(β:Int) < 8:=aC Γ;have β:(0:Int)<=64 - (a:Int):=ah;have Γ:(a:Int)<=64:=ah;go_step
          repeat(go_not_at_region 27;go_step)
          clear E Z β Γ R α;obtain⟨E,β⟩:=bG ((68 - a) % 8);have Γ:t.cell? ⟨g,E,none⟩=some (.int .u32 (u c.e)):=β.out ▸ (J.cell ah).trans (congrArg some (vD c a 4 r ah));have Á:=AO (68 - (a:Int)) ah;have Ç:(68 - (a:Int)) % 8=(E:Int):=aC β;have È:(E:Int) < 8:=aC β;have E:(0:Int)<=68 - (a:Int):=ah;have β:(a:Int)<=68:=ah
          repeat(go_not_at_region 28;go_step)
          clear Á Ç E β Γ È;obtain⟨E,β⟩:=bG ((69 - a) % 8);have Γ:t.cell? ⟨g,E,none⟩=some (.int .u32 (u c.f)):=β.out ▸ (J.cell ah).trans (congrArg some (vD c a 5 r ah));have Á:=AO (69 - (a:Int)) ah;have Ç:(69 - (a:Int)) % 8=(E:Int):=aC β;have È:(E:Int) < 8:=aC β;have E:(0:Int)<=69 - (a:Int):=ah;have β:(a:Int)<=69:=ah
          repeat(go_not_at_region 29;go_step)
          clear Á Ç E β Γ È;obtain⟨E,β⟩:=bG ((70 - a) % 8);have Γ:t.cell? ⟨g,E,none⟩=some (.int .u32 (u c.g)):=β.out ▸ (J.cell ah).trans (congrArg some (vD c a 6 r ah));have Á:=AO (70 - (a:Int)) ah;have Ç:(70 - (a:Int)) % 8=(E:Int):=aC β;have È:(E:Int) < 8:=aC β;have E:(0:Int)<=70 - (a:Int):=ah;have β:(a:Int)<=70:=ah
          repeat(go_not_at_region 30;go_step)
          clear Á Ç E β Γ È;obtain⟨E,β⟩:=bG ((71 - a) % 8);have Γ:t.cell? ⟨g,E,none⟩=some (.int .u32 (u c.h)):=β.out ▸ (J.cell ah).trans (congrArg some (vD c a 7 r ah));have Ç:=AO (71 - (a:Int)) ah;have Á:(71 - (a:Int)) % 8=(E:Int):=aC β;have È:(E:Int) < 8:=aC β;have È:(0:Int)<=71 - (a:Int):=ah;have É:(a:Int)<=71:=ah
          repeat(go_not_at_region 31;go_step)
          simp only[Á];clear Ç Á È É;have Z:(a:Int) % 16=(C:Int):=aC I;have α:(C:Int) < 16:=aC I;have C:(0:Int)<=(a:Int):=ah;have I:(a:Int) < 72:=ah;have hx:=JG;have Á:=Ws;have χ:=zJ;refine wp_region_quiet_lit bH bH ?_
          repeat(go_big_quiet_step ((first|(go_at_call_of 227 (Value.int IntKind.i64 6);first|(with_reducible exact Calls.quiet_of (RG _ _)) |(with_reducible exact lu (RG _ _))) |(go_at_call_of 227 (Value.int IntKind.i64 11);first|(with_reducible exact Calls.quiet_of (OI _ _)) |(with_reducible exact lu (OI _ _))) |(go_at_call_of 227 (Value.int IntKind.i64 25);first|(with_reducible exact Calls.quiet_of (OH _ _)) |(with_reducible exact lu (OH _ _))))))
          refine wpQuiet_nil ?_;intro _ O;obtain⟨B,P⟩:=O;subst P;clear Z α C I;(have I:=AA<|J.drewN B);(have α:=AA<|ψ.drewN B);(have Á:=AA<|fI ω B);have C:(t.drewN B).cell? ⟨g,E,none⟩=some (.int .u32 (u c.h)):=Γ;clear Γ Å Æ J ψ ω;generalize t.drewN B=J at*;obtain⟨C,Z⟩:=bG ((65 - a) % 8);have c1:J.cell? ⟨g,C,none⟩=some (.int .u32 (u c.b)):=Z.out ▸ (I.cell ah).trans (congrArg some (vD c a 1 r ah));have ε:=AO (65 - (a:Int)) ah;have τ:(65 - (a:Int)) % 8=(C:Int):=aC Z;have υ:(C:Int) < 8:=aC Z;have φ:(0:Int)<=65 - (a:Int):=ah;have C:(a:Int)<=65:=ah;go_step
          repeat(go_not_at_region 33;go_step)
          clear ε τ φ C c1 υ;obtain⟨C,Z⟩:=bG ((66 - a) % 8);have c2:J.cell? ⟨g,C,none⟩=some (.int .u32 (u c.c)):=Z.out ▸ (I.cell ah).trans (congrArg some (vD c a 2 r ah));have Δ:=AO (66 - (a:Int)) ah;have ε:(66 - (a:Int)) % 8=(C:Int):=aC Z;have τ:(C:Int) < 8:=aC Z;have C:(0:Int)<=66 - (a:Int):=ah;have Z:(a:Int)<=66:=ah
          repeat(go_not_at_region 34;go_step)
          clear Δ ε C Z c2 τ;obtain⟨C,Z⟩:=bG ((67 - a) % 8);have ε:J.cell? ⟨g,C,none⟩=some (.int .u32 (u c.d)):=Z.out ▸ (I.cell ah).trans (congrArg some (vD c a 3 r ah));have ι:=AO (67 - (a:Int)) ah;have ε:(67 - (a:Int)) % 8=(C:Int):=aC Z;have τ:(C:Int) < 8:=aC Z;have υ:(0:Int)<=67 - (a:Int):=ah;have φ:(a:Int)<=67:=ah;have ψ:J.frozen? ⟨g,C,none⟩=false:=I.frozen _;have ψ:J.frozen? ⟨g,E,none⟩=false:=I.frozen _;have J:E≠C:=dn β Z;have ψ:C≠E:=λw=>J w.symm
          repeat(go_not_at_region 35;go_step)
          clear ι ε υ φ τ;have J:=Qe;go_wp2_with (first|(go_at_call_of 227 (Value.int IntKind.i64 2);refine(WI _ _).mono ?_;rintro w G ⟨rfl,U,rfl⟩) |(go_at_call_of 227 (Value.int IntKind.i64 13);refine(UU _ _).mono ?_;rintro w G ⟨rfl,U,rfl⟩) |(go_at_call_of 227 (Value.int IntKind.i64 22);refine(UN _ _).mono ?_;rintro w G ⟨rfl,U,rfl⟩));go_roundw
          case rel=>
           (have J:c.h+(si c.e 6 ^^^ si c.e 11 ^^^ si c.e 25)+(c.g ^^^ c.e &&& (c.f ^^^ c.g))+M+L=t1 M L c:=by rw[Xd];rfl);(have U:t1 M L c+(si c.a 2 ^^^ si c.a 13 ^^^ si c.a 22)+(c.a &&& c.b ||| c.c &&& (c.a ||| c.b))=t1 M L c+t2 c:=by rw[Ve,BitVec.add_assoc];rfl);have G:g≠i:=aC X;rw[J,U];refine⟨a+1,by go_num,ah,((α.far (p:=⟨g,C,none⟩) (λw=>G w.symm) _).drewN _).far (p:=⟨g,E,none⟩) (λw=>G w.symm) _,?_,(fI (Á.setCell (p:=⟨g,C,none⟩) (by have:=X.out;show i<=g;omega) _) _).setCell (by have:=X.out;show i<=g;omega) _⟩;show iX _ _ _ _ _;rw[Ä.out];refine((I.lD C _ (f':=λp=>if p=C then .int .u32 (u (c.d+t1 M L c))else oK c a p) (λp _=>rfl)).drewN _).lD E _ (λp T=>?_);rw[Sr M L c a p r T,<-β.out,<-Z.out]
          case measure=>simp[intOf];omega
        ·have ρ:a=64:=ah
         subst ρ;obtain⟨t,rfl⟩:=fB wr;obtain⟨a,i⟩:=bG (vZ (mB f) k 64);have C:Hid (iX t g 329 8 (rH a)):=Y.congr (λp T=>by rw[i.out,Vi _ p T]);have c:Hid (iX t e 329 8 (nK k a 0)):=(iX.below' Ψ H q.2.2).congr (λj _=>rfl);(have E:=AA<|iX.below' σ H (aC q));have G:Hid (aL t d.heap.size 23 bF):=(H.block d.heap.size (aC q)).trans Ω;(have w:=AA<|À.trans (H.mono (aC q)));(have I:Hid (e < g):=by have:=q.out;have:=X.out;show e < g;omega);clear D Y H Ψ σ Ω À r l;go_wp2_with fail
         try simp only[Int.cast_ofNat_Int]
         go_loopw [22] (λh wr=>∃b:Nat,h=.int .i64 (b:Int)/\b<=8/\Hid (iX wr e 329 8 (nK k a b))/\Hid (au (·=e) t wr)) (λh _=>8 - (intOf h).toNat)
         case atStart=>exact⟨0,rfl,ah,c,au.refl _ _⟩
         case round=>
          clear c;obtain⟨b,rfl,θ,z,c⟩:=hrel;by_cases r:b < 8
          ·have r:(b:Int) < 8:=ah
           have R:wr.cell? ⟨e,b,none⟩=some (.int .u32 (u (k.get b))):=by
            have:=z.cell (j:=b) ah;unfold nK at this;rw[if_neg ah]at this;exact this
           have Ξ:wr.frozen? ⟨e,b,none⟩=false:=z.frozen _;have c1:wr.cell? ⟨g,b,none⟩=some (.int .u32 (u (a.get b))):=((C.kept c (aC I)).cell ah);have g:(0:Int)<=(b:Int):=ah;have χ:=zJ;go_wp2_with fail;refine iA 9 bH bH ?_;simp only[List.take_succ_cons,List.take_zero,List.drop_succ_cons,List.drop_zero]
           repeat(go_big_quiet_step (fail))
           refine wpQuiet_nil ?_;intro _ O;obtain⟨B,P⟩:=O;subst P;go_wp2_with fail;go_roundw
           case rel=>
            exact⟨b+1,by go_num,ah,(z.drewN B).lD b _ (λj y=>JS k a b j),(c.drewN B).setCell (.inl rfl) _⟩
           case measure=>simp[intOf];omega
          ·have κ:b=8:=ah
           subst κ;(have g:IntKind.i64.wrap (64*(m:Int)+64)=64*(m:Int)+64:=by have:=N.out;have:=F.out;exact AO _ ah);go_wp2_with fail;clear g;go_roundw
           case rel=>
            refine⟨m+1,congrArg (Value.int .i64) ah,ah,?_,E.kept c (aC q),G.kept c (aC q),?_,?_⟩
            ·show iX _ _ _ _ _
             rw[ng,<-Θ.out,<-W.out];refine z.congr (λj y=>?_);rw[Pw k a j (mB f) i.out,if_pos y]
            ·exact w.trans (au.aW c (aC q) w.size)
            ·exact⟨q.1,q.2.1,z.lt⟩
           case measure=>have:=N.out;simp[intOf];omega
    ·have a:m=x:=ah
     subst a;clear δ Â;obtain⟨g,rfl⟩:=fB wr;obtain⟨k,W⟩:=bG (dZ (gF s) m);rw[<-W.out]at z;(have m:Hid (k=dZ (gF s) (fq s.length / 64)):=by show _=_;rw[W.out,V.out,γ.out];congr 1;omega);obtain⟨c,hF⟩:=bG (g.heap.size);obtain⟨f,a⟩:=bG (g.alloc (Obj.cells #[.int .u8 0,.int .u8 0,.int .u8 0,.int .u8 0,.int .u8 0,.int .u8 0,.int .u8 0,.int .u8 0,.int .u8 0,.int .u8 0,.int .u8 0,.int .u8 0,.int .u8 0,.int .u8 0,.int .u8 0,.int .u8 0,.int .u8 0,.int .u8 0,.int .u8 0,.int .u8 0,.int .u8 0,.int .u8 0,.int .u8 0,.int .u8 0,.int .u8 0,.int .u8 0,.int .u8 0,.int .u8 0,.int .u8 0,.int .u8 0,.int .u8 0,.int .u8 0] 23));(have i:Hid (iX f c 23 32 (mD k 0)):=by show iX _ _ _ _ _;rw[hF.out,a.out];exact iX.new g _ _ 32 _ rfl (λj y=>CW k j y));have q:Hid (iX f e 329 8 (rH k)):=a.out ▸ z.alloc _;have t:Hid (aL f d.heap.size 23 bF):=a.out ▸ ζ.alloc _;have w:Hid (Below d.heap.size d f):=a.out ▸ S.alloc S.size _;(have g:Hid (d.heap.size < c/\e < c):=by show _/\_;rw[hF.out];have:=η.out;exact⟨ah,ah⟩);go_wp2_with fail;rw[<-hF.out,<-a.out];clear a hF z μ ζ S η
     go_loopw [24] (λh wr=>∃b:Nat,h=.int .i64 (b:Int)/\b<=32/\Hid (iX wr c 23 32 (mD k b))/\Hid (Below c f wr)) (λh _=>32 - (intOf h).toNat)
     case atStart=>exact⟨0,rfl,ah,i,Below.refl _ _⟩
     case round=>
      clear i;obtain⟨b,rfl,θ,l,n⟩:=hrel;by_cases a:b < 32
      ·have r:(b:Int) < 32:=ah
       obtain⟨v,A⟩:=bG (b / 4);obtain⟨a,f⟩:=bG (b % 4);have R:wr.cell? ⟨e,v,none⟩=some (.int .u32 (u (k.get v))):=(n.cell (p:=⟨e,v,none⟩) g.2).trans (q.cell (aC A));have aD:=l.cell ah;have s1:wr.frozen? ⟨c,b,none⟩=false:=l.frozen _;(have ν:(b:Int).tdiv 4=(v:Int):=by have:=A.out;rw[Int.tdiv_eq_ediv_of_nonneg ah];omega);(have ξ:IntKind.i64.wrap (v:Int)=(v:Int):=by have:=A.out;exact AO _ ah);have ο:(b:Int) % 4=(a:Int):=aC f;have Ã:(v:Int) < 8:=aC A;have c:a < 4:=aC f;have Φ:=AO (8*(a:Int)) ah;have c:=AO (24 - 8*(a:Int)) ah;have e:IntKind.u64.wrap (24 - 8*(a:Int))=24 - 8*(a:Int):=dX _ ah ah;have h:(24 - 8*(a:Int)).toNat=24 - 8*a:=ah;have i:(0:Int)<=24 - 8*(a:Int):=ah;go_wp2_with fail;go_roundw
       case rel=>
        refine⟨b+1,by go_num,ah,l.lD b _ (λQ _=>?_),n.setCell (AJ _) _⟩;rw[KE,<-A.out,<-f.out,Q9]
       case measure=>clear ν ξ ο Φ c e h;simp[intOf];omega
      ·have a:b=32:=ah
       subst a;obtain⟨i,rfl⟩:=fB wr;obtain⟨e,a,b,f⟩:=l.out;have c:=EW s e b (m.out ▸ f);rw[c]at a;have k:=AA a;(have e:=AA<|bI _ (eU s));have l:=AA (by rw[<-c,b];rfl:(bF:Array Value).size=(ak (bB s)).toArray.size);have m:=AA (bO (bB s));have h:Hid (aL i d.heap.size 23 bF):=(n.block d.heap.size g.1).trans t;clear a c f b;go_wp2_with (first|(rw[aF 241];refine aM k e AB ?_) |(rw[bA 23 _];refine fw h e l m ?_));refine gI (setRow_heap _ _ _ _ _ _ h) e AB ?_;exact⟨rfl,below_setRow (w.trans (n.mono (aC g))) (AJ _) _⟩
theorem Dw{c:World}{d:Addr}{b:aj}(e:ax c 1 (some d) b.length (ak b)):∀a u,(ak b)[a]?=some u->c.cell? (d.add a)=some u:=by
 intro a u c
 have d:a < b.length:=by
  have:=(AU.1 c).1;rwa[aB]at this
 obtain⟨f,g,b,_,d⟩:=e.2 ah;obtain rfl:=AL b;rw[eD];exact d a u c
def sI(x:aj)(m i j:Nat):Value:=if m<=j/\j < i then .int .u8 0 else iF (x.getD j 0)
theorem Lg(d:aj)(c a b:Nat)(e:c<=a):sI d c (a+1) b=if b=a then .int .u8 0 else sI d c a b:=by
 unfold sI;by_cases d:b=a
 ·subst d
  rw[if_pos rfl,if_pos ah]
 ·rw[if_neg d]
  by_cases d:c<=b/\b < a
  ·rw[if_pos d,if_pos ah]
  ·rw[if_neg d,if_neg ah]
theorem NS(c:aj)(hx:c.length=32)(b e:Nat)(f:32<=e)(d:Array Value)(hs:d.size=32)(g:∀a,a < 32->d[a]?=some (sI c b e a)):d=(ak (dP c (if 32 < b then 32 else b))).toArray:=by
 (have e:=λf (d:f<=32)=>eT c f hx d);(have d:(if 32 < b then 32 else b)<=32:=by split<;>omega);apply Array.ext_getElem?;intro a;by_cases c:a < 32
 ·rw[g a c,List.getElem?_toArray,eu _ _ (by rw[e _ d];exact c)]
  unfold sI dP;simp only[List.getD];rw[qC _ _ _ (by simp;omega)];by_cases c:b<=a
  ·rw[if_pos ⟨c,ah⟩,if_neg (by split<;>omega),if_pos (by simp;omega),List.getElem?_replicate,if_pos (by split<;>omega)]
   rfl
  ·rw[if_neg ah,if_pos (by split<;>omega)]
 ·rw[Array.getElem?_eq_none ah,List.getElem?_toArray,List.getElem?_eq_none (by rw[aB,e _ d];omega)]
theorem NT(a:aj)(hx:a.length=32)(c b:Nat)(d:b < 32):(ak a).toArray[b]?=some (sI a c c b):=by
 rw[List.getElem?_toArray,eu a b ah];unfold sI;rw[if_neg ah]
theorem qJ(d:aj)(hx:d.length=32)(c:Int)(a:c < 9223372036854775808)(b:World):
  bq 142 #[.agg (ak d).toArray,.int .i64 c] b (.agg (ak (dP d (cu c))).toArray):=by
 obtain⟨a,i⟩:=bG (if c < 1 then 1 else c.toNat)
 have g:Hid (cu c=if 32 < a then 32 else a):=by
  show _=_;unfold cu;rw[i.out];by_cases c1:c < 1
  ·rw[if_pos c1,if_pos c1]
   rfl
  ·rw[if_neg c1,if_neg c1]
   by_cases c2:32 < c
   ·rw[if_pos c2,if_pos ah]
   ·rw[if_neg c2,if_neg ah]
 rw[g.out]
 obtain⟨e,k⟩:=bG (dP d (if 32 < a then 32 else a))
 have f:e.length=32:=k.out ▸ eT _ _ hx (by split<;>omega)
 rw[<-k.out]
 have l:=AA (bI e f)
 have p:Hid ((bF:Array Value).size=(ak e).toArray.size):=by show _=_;simp[aB,f,bF]
 have q:=AA (bO e)
 have m:=AA hx
 have h:Hid (1<=a/\a < 9223372036854775808):=by show _/\_;rw[i.out];split<;>omega
 clear f hx g
 go_enter func142,ntmps142
 go_upto_if 7 with fail
 go_cut [1]from 5 (λf wc=>f=.int .i64 (a:Int)/\Hid (iX wc b.heap.size 23 32 (sI d a a))/\Hid (aL wc (b.heap.size+1) 23 bF)/\Hid (av b wc)/\Hid (b.heap.size+1 < wc.heap.size))
 case first=>
  have g:Hid (iX ((b.alloc (.cells (ak d).toArray 23)).alloc (.cells bF 23)) b.heap.size 23 32 (sI d a a)):=⟨_,heap_alloc2_old b _ _,by simp[aB,m.out],λn h=>NT d m a n h⟩;have j:Hid (aL ((b.alloc (.cells (ak d).toArray 23)).alloc (.cells bF 23)) (b.heap.size+1) 23 bF):=heap_alloc2_new b _ _;have h:Hid (av b ((b.alloc (.cells (ak d).toArray 23)).alloc (.cells bF 23))):=((Below.refl _ b).alloc (AJ _) _).alloc aZ _;by_cases c1:c < 1
  ·have o:a=1:=by have:=i.out;rw[if_pos c1]at this;exact this
   go_wp2_with fail;go_meet
   case rel=>exact⟨by rw[o];rfl,g,j,h,by show _ < _;simp⟩
  ·have o:c=(a:Int):=by have:=i.out;rw[if_neg c1]at this;omega
   go_wp2_with fail;go_meet
   case rel=>exact⟨rfl,g,j,h,by show _ < _;simp⟩
 case rest=>
  obtain⟨rfl,g,j,h,c⟩:=hcut;obtain⟨i,rfl⟩:=fB wc;go_wp2_with fail
  go_loopw [5] (λf wr=>∃c:Nat,f=.int .i64 (c:Int)/\Hid (a<=c/\(c<=32\/c=a))/\Hid (iX wr b.heap.size 23 32 (sI d a c))/\Hid (au (·=b.heap.size) i wr)) (λf _=>32 - (intOf f).toNat)
  case atStart=>exact⟨a,rfl,⟨AJ _,.inr rfl⟩,g,au.refl _ _⟩
  case round=>
   clear g;obtain⟨c,rfl,i,f,g⟩:=hrel;by_cases o:c < 32
   ·have o:(c:Int) < 32:=ah
    have aD:=f.cell ah;have s1:wr.frozen? ⟨b.heap.size,c,none⟩=false:=f.frozen _;go_wp2_with fail;go_roundw
    case rel=>
     exact⟨c+1,by go_num,by have:=i.out;show _/\_;omega,f.lD c _ (λn _=>Lg d a c n i.1),g.setCell (.inl rfl) _⟩
    case measure=>simp[intOf];omega
   ·have o:(32:Int)<=(c:Int):=ah
    obtain⟨b,rfl⟩:=fB wr;obtain⟨i,b,n,o⟩:=f.out;have f:i=(ak e).toArray:=k.out ▸ NS d m a c ah i n o;rw[f]at b;have c:=AA b;(have a:=AA<|j.kept g ah);clear b f o n;go_wp2_with (first|(rw[aF 15];refine aM c l AB ?_) |(rw[bA 23 _];refine fw a l p q ?_));refine gI (setRow_heap _ _ _ _ _ _ a) l AB ?_;exact⟨rfl,below_setRow (h.trans (au.aW g (AJ _) h.size)) ah _⟩
theorem ET(a:World)(c:TypeId)(b:Value):(a.alloc (.cells #[b] c)).ownsRow a.heap.size c 1 (.slice (some ⟨a.heap.size,0,none⟩) 1 1) 1 [b]:=
 ⟨rfl,.inr ⟨a.heap.size,1,#[b],rfl,AJ _,heap_alloc_new a _,AJ _,by decide,rfl,rfl⟩⟩
theorem iB(b:List aj)(d:Nat)(j:b.length=d)(y:Option Addr)(J:Nat)(k:Int)(w:World)(q:b.flatten.length < 140737488355328)(r:d < 72057594037927936)(s:gq w y b):
  Calls prog 224 #[.int .i64 k,.slice y d J] w λo z=>
   ∃e,o=.returned e/\z.ownsRow w.heap.size 5 1 e (1+b.flatten.length) (ak (kb k :: b.flatten))/\Below w.heap.size w z:=by
 obtain⟨A,B,K,L,M⟩:=fT pI
 have N:=SG k
 have O:=Jb k
 generalize kb k=t at*
 replace j:=AA j
 replace s:=AA s
 replace q:=AA q
 replace r:=AA r
 obtain⟨l,f⟩:=bG (w.heap.size)
 rw[<-f.out]
 go_enter Aw,ntmps224
 go_wp2_with fail
 go_loopw [6,5] (λe P wr=>∃a:Nat,e=.int .i64 (a:Int)/\a<=d/\wr.ownsRow l 5 1 P (1+(b.take a).flatten.length) (ak (t :: (b.take a).flatten))/\Hid (Below l w wr)) (λe _ _=>d - (intOf e).toNat)
 case atStart=>exact⟨0,rfl,ah,by rw[f.out];exact ET w _ _,by show Below _ _ _;rw[f.out];exact(Below.refl _ w).alloc (AJ _) _⟩
 case round=>
  clear N O;obtain⟨a,rfl,η,m,g⟩:=hrel;by_cases Q:a < d
  ·have θ:(a:Int) < (d:Int):=ah
   obtain⟨c,C⟩:∃c,Hid (b[a]?=some c):=⟨b[a]'(j.out ▸ Q),AV _⟩;obtain⟨R,S,T,D,E⟩:=s.out (by rw[j.out];omega);obtain⟨U,V,F,ι,u,W⟩:=E a c C.out;(replace u:=AA<|u.below (f.out ▸ g.out));replace F:=(g.out.cell (p:=⟨R,S+a,none⟩) (f.out ▸ D)).trans F;have n:=tT b a c C.out;replace n:=AA n;subst T;clear D E;have κ:(a:Int) < 9223372036854775807:=aC r;obtain⟨h,rfl⟩:∃h:World,h=wr:=⟨_,rfl⟩;(have G:Hid (l<=h.heap.size):=by have:=g.out.size;rw[<-f.out]at this;exact this);have i:=AA m;clear m;cases U with
   | none=>
    obtain⟨X,Y⟩:=W rfl;have Z:=Ap X;subst Z;subst Y;go_wp2_with (at_builtin;refine wpList_append_own_none rfl (.tmp 16) (.tmp 20) 27 rfl l 5 A 1 AR B _ _ _ rfl i.out rfl ?_);go_roundw
    case rel=>
     refine⟨a+1,by go_num,ah,?_,g.out⟩;have o:=n.out.1;rw[List.append_nil]at o;rw[o];exact i.out
    case measure=>simp[intOf];omega
   | some α=>
    (have β:=AA<|Dw u.out);(have H:Hid (1+(b.take a).flatten.length+c.length<=140737488355328):=by have:=n.out.2;have:=q.out;show _<=_;omega);go_wp2_with (at_builtin;refine wpList_append_own _ rfl (.tmp 16) (.tmp 20) 27 rfl l 5 A (.int .u8 0) 1 1 AR B K L M rfl aR _ _ _ rfl i.out α c.length V (ak c) rfl (by rw[aB,Nat.mul_one]) β.out (aY c) (by have:=H.out;unfold maxLen;omega) (aC H) G.out ?_;intro μ ν v x _;replace v:=AA v;replace x:=AA x);go_roundw
    case rel=>
     refine⟨a+1,by go_num,ah,?_,?_⟩
     ·rw[n.out.1,List.length_append]
      (have γ:ak (t :: ((b.take a).flatten++c))=ak (t :: (b.take a).flatten)++ak c:=by simp[ak]);rw[γ,<-Nat.add_assoc];exact v.out
     ·exact g.out.grown x.out G.out (λδ ε=>(i.out.lt δ ε).1)
    case measure=>simp[intOf];omega
  ·have ζ:a=d:=ah
   subst ζ;(have I:(b.take a).flatten=b.flatten:=by rw[List.take_of_length_le (by rw[j.out];exact Nat.le_refl _)]);rw[I]at m;have i:=AA m;clear m I;obtain⟨h,rfl⟩:∃h:World,h=wr:=⟨_,rfl⟩;go_wp2_with fail;go_ret;exact⟨_,rfl,i.out,g.out⟩
theorem ql(b:List aj)(e:Nat)(h:b.length=e)(i:Option Addr)(p:Nat)(c d:Int)(j:c < 9223372036854775808)(a:World)(k:b.flatten.length < 140737488355328)(l:e < 72057594037927936)(m:gq a i b):
  Calls prog 182 #[.int .i64 c,.int .i64 d,.slice i e p] a λf g=>
   f=.returned (.agg (ak (dP (bB (kb d :: b.flatten)) (cu c))).toArray)/\av a g:=by
 obtain⟨g,hx⟩:=bG (dP (bB (kb d :: b.flatten)) (cu c))
 have n:g.length=32:=hx.out ▸ eT _ _ (eU _) (fD c).2
 rw[<-hx.out]
 have q:=AA (bI g n)
 have t:Hid ((bF:Array Value).size=(ak g).toArray.size):=by show _=_;simp[aB,n,bF]
 have u:=AA (bO g)
 clear n
 obtain⟨g,n⟩:=bG (kb d :: b.flatten)
 obtain⟨o,r⟩:=bG (1+b.flatten.length)
 have s:Hid (g.length=o/\o < 144115188075855872):=by show _/\_;rw[n.out,r.out,List.length_cons];omega
 rw[<-n.out]at hx
 replace h:=AA h
 replace m:=AA m
 replace k:=AA k
 replace l:=AA l
 replace j:=AA j
 go_enter func182,ntmps182
 go_wp2_with (first
  |(go_at_call 224;refine(iB b e h i p d (a.alloc (.cells bF 23)) k l (m.below (Below.aJ a _))).mono ?_;rintro f h ⟨e,rfl,d,b⟩;rw[<-n.out,<-r.out]at d;obtain⟨k,c1,rfl,i,l,e,m⟩:=ax.Nc d;replace e:=AA e;replace i:=AA i;replace b:=AA (show Below (a.heap.size+1) (a.alloc (.cells bF 23)) h by simpa using b);clear d l m)
  |(go_at_call 143;refine(oF g o s.1 k c1 h s.2 e).mono ?_;rintro f e ⟨rfl,d⟩;replace d:=AA d)
  |(go_at_call 142;refine(qJ (bB g) (eU _) c j e).mono ?_;rw[<-hx.out];rintro f g ⟨rfl,c⟩;replace c:=AA c;have e:Hid (aL g a.heap.size 23 bF):=(c.block a.heap.size (by have:=d.size;have:=b.size;simp at this;omega)).trans ((d.block a.heap.size (by have:=b.size;simp at this;omega)).trans ((b.block a.heap.size ah).trans (heap_alloc_new a _)));have f:=AA<|(Below.aJ a (.cells bF 23)).trans ((b.mono ah).trans ((d.mono (by have:=b.size;simp at this;omega)).trans (c.mono (by have:=d.size;have:=b.size;simp at this;omega)))))
  |(rw[bA 23 _];refine fw e q t u ?_))
 refine gI (setRow_heap _ _ _ _ _ _ e) q AB ?_
 exact⟨rfl,below_setRow f (AJ _) _⟩
section
variable (w:World) (oa ob oc od:Obj)
theorem OL:av w ((((w.alloc oa).alloc ob).alloc oc).drew.alloc od):=((((Below.refl _ w).alloc (AJ _) _).alloc aZ _).alloc (by simp;omega) _).drew.alloc (by simp;omega) _
theorem OQ:((((w.alloc oa).alloc ob).alloc oc).drew.alloc od).heap[w.heap.size]?=some oa:=by
 rw[Below.heap_alloc _ _ _ (by simp;omega),heap_drew,Below.heap_alloc _ _ _ (by simp;omega)];exact heap_alloc2_old w _ _
theorem OP:((((w.alloc oa).alloc ob).alloc oc).drew.alloc od).heap[w.heap.size+1]?=some ob:=by
 rw[Below.heap_alloc _ _ _ aZ,heap_drew,Below.heap_alloc _ _ _ aZ];exact heap_alloc2_new w _ _
theorem OO:((((w.alloc oa).alloc ob).alloc oc).drew.alloc od).heap[w.heap.size+2]?=some oc:=by
 rw[Below.heap_alloc _ _ _ aZ,heap_drew];have a:=heap_alloc_new ((w.alloc oa).alloc ob) oc;(have b:((w.alloc oa).alloc ob).heap.size=w.heap.size+2:=by simp);rw[b]at a;exact a
theorem OM:((((w.alloc oa).alloc ob).alloc oc).drew.alloc od).heap[w.heap.size+3]?=some od:=by
 have a:=heap_alloc_new (((w.alloc oa).alloc ob).alloc oc).drew od;(have b:(((w.alloc oa).alloc ob).alloc oc).drew.heap.size=w.heap.size+3:=by simp);rw[b]at a;exact a
end
theorem CZ(b:Int)(w:World)(a:bn w):
  bq 48 #[.int .i64 b] w (.agg (ak (dP (bB []) (cu b))).toArray):=by
 obtain⟨c,hx⟩:=bG (dP (bB []) (cu b))
 have d:c.length=32:=hx.out ▸ eT _ _ (eU _) (fD b).2
 rw[<-hx.out]
 have e:=AA (bI c d)
 have f:Hid ((bF:Array Value).size=(ak c).toArray.size):=by show _=_;simp[aB,d,bF]
 have g:=AA (bO c)
 clear d
 replace a:=AA a
 go_enter func48,ntmps48
 go_wp2_with (first
  |(go_at_call 114;refine(zK [] 0 rfl none 0 _ (a.below (Below.aJ w (.cells bF 23)) a.1) ah (ax.oI _ _ _) (AJ _)).mono ?_;rintro d c ⟨rfl,a⟩;replace a:=AA (by simpa using a:Below (w.heap.size+1) (w.alloc (.cells bF 23)) c))
  |(go_at_call 113;refine(uo (bB []) (eU _) b c).mono ?_;rw[<-hx.out];rintro d h ⟨rfl,b⟩;replace b:=AA b;have c:Hid (aL h w.heap.size 23 bF):=(b.block w.heap.size (by have:=a.size;simp at this;omega)).trans ((a.block w.heap.size ah).trans (heap_alloc_new w _));have d:=AA<|(Below.aJ w (.cells bF 23)).trans ((a.mono ah).trans (b.mono (by have:=a.size;simp at this;omega))))
  |(rw[bA 23 _];refine fw c e f g ?_))
 refine gI (setRow_heap _ _ _ _ _ _ c) e AB ?_
 exact⟨rfl,below_setRow d ah _⟩
theorem Sy(a:aj)(d:Nat)(h:a.length=d)(b:Option Addr)(c:Nat)(e:Int)(w:World)(f:bn w)(g:d < 140737488355328)(i:ax w 1 b d (ak a))(j:d<=c)(k:b=none->d=0/\c=0):
  bq 137 #[.int .i64 e,.slice b d c] w (.agg (ak (dP (bB (kb 0 :: a)) (cu e))).toArray):=by
 subst h
 have l:[a].flatten=a:=by simp
 rw[<-l]
 obtain⟨d,hx⟩:=bG (dP (bB (kb 0 :: [a].flatten)) (cu e))
 have h:d.length=32:=hx.out ▸ eT _ _ (eU _) (fD e).2
 rw[<-hx.out]
 have m:=AA (bI d h)
 have o:Hid ((bF:Array Value).size=(ak d).toArray.size):=by show _=_;simp[aB,h,bF]
 have p:=AA (bO d)
 clear h
 replace f:=AA f
 replace g:=AA g
 clear l
 have h:Hid (aL ((w.alloc (.cells bF 23)).alloc (.cells #[.slice b a.length c] 27)) w.heap.size 23 bF):=heap_alloc2_old w _ _
 have d:Hid (av w ((w.alloc (.cells bF 23)).alloc (.cells #[.slice b a.length c] 27))):=((Below.refl _ w).alloc (AJ _) _).alloc aZ _
 have q:Hid (gq ((w.alloc (.cells bF 23)).alloc (.cells #[.slice b a.length c] 27)) (some ⟨w.heap.size+1,0,none⟩) [a]):=λ_=>⟨w.heap.size+1,0,rfl,by simp,λl r n=>by
  match l with
  | 0=>
   obtain rfl:=AL n;exact⟨b,c,by rw[cell_of_row _ _ _ _ _ _ (heap_alloc2_new w _ _)];rfl,j,i.below d,k⟩
  | l+1=>simp at n⟩
 clear i j k
 go_enter func137,ntmps137
 go_wp2_with (first
  |(go_at_call 115;refine(xW [a] 1 rfl (some ⟨w.heap.size+1,0,none⟩) 1 e 0 _ (f.below d f.1) (by have:=g.out;simp;omega) ah q).mono ?_;rw[<-hx.out];rintro b c ⟨rfl,a⟩;replace a:=AA a;have b:Hid (aL c w.heap.size 23 bF):=(a.block w.heap.size h.lt).trans h;have c:=AA<|d.trans (a.mono (by simp;omega)))
  |(rw[bA 23 _];refine fw b m o p ?_))
 refine gI (setRow_heap _ _ _ _ _ _ b) m AB ?_
 exact⟨rfl,below_setRow c ah _⟩
theorem uZ(b:Int)(a:World)(d:b < 9223372036854775808):
  bq 111 #[.int .i64 b] a (.agg (ak (dP (bB []) (cu b))).toArray):=by
 obtain⟨c,hx⟩:=bG (dP (bB []) (cu b))
 have e:c.length=32:=hx.out ▸ eT _ _ (eU _) (fD b).2
 rw[<-hx.out]
 have f:=AA (bI c e)
 have g:Hid ((bF:Array Value).size=(ak c).toArray.size):=by show _=_;simp[aB,e,bF]
 have h:=AA (bO c)
 clear e
 replace d:=AA d
 go_enter func111,ntmps111
 go_wp2_with (first
  |(go_at_call 143;refine(oF [] 0 rfl none 0 (a.alloc (.cells bF 23)) ah (ax.oI _ _ _)).mono ?_;rintro i e ⟨rfl,c⟩;replace c:=AA (by simpa using c:Below (a.heap.size+1) (a.alloc (.cells bF 23)) e))
  |(go_at_call 142;refine(qJ (bB []) (eU _) b d e).mono ?_;rw[<-hx.out];rintro i e ⟨rfl,b⟩;replace b:=AA b;have d:Hid (aL e a.heap.size 23 bF):=(b.block a.heap.size (by have:=c.size;simp at this;omega)).trans ((c.block a.heap.size ah).trans (heap_alloc_new a _));have e:=AA<|(Below.aJ a (.cells bF 23)).trans ((c.mono ah).trans (b.mono (by have:=c.size;simp at this;omega))))
  |(rw[bA 23 _];refine fw d f g h ?_))
 refine gI (setRow_heap _ _ _ _ _ _ d) f AB ?_
 exact⟨rfl,below_setRow e ah _⟩
theorem Kk(b:aj)(e:Nat)(i:b.length=e)(c:Option Addr)(d:Nat)(f:Int)(a:World)(g:f < 9223372036854775808)(h:e < 140737488355328)(j:ax a 1 c e (ak b))(k:e<=d)(l:c=none->e=0/\d=0):
  bq 164 #[.int .i64 f,.slice c e d] a (.agg (ak (dP (bB (kb 0 :: b)) (cu f))).toArray):=by
 subst i
 have m:[b].flatten=b:=by simp
 rw[<-m]
 obtain⟨e,hx⟩:=bG (dP (bB (kb 0 :: [b].flatten)) (cu f))
 have i:e.length=32:=hx.out ▸ eT _ _ (eU _) (fD f).2
 rw[<-hx.out]
 have n:=AA (bI e i)
 have p:Hid ((bF:Array Value).size=(ak e).toArray.size):=by show _=_;simp[aB,i,bF]
 have q:=AA (bO e)
 clear i
 replace g:=AA g
 replace h:=AA h
 clear m
 have e:Hid (aL ((a.alloc (.cells bF 23)).alloc (.cells #[.slice c b.length d] 27)) a.heap.size 23 bF):=heap_alloc2_old a _ _
 have i:Hid (av a ((a.alloc (.cells bF 23)).alloc (.cells #[.slice c b.length d] 27))):=((Below.refl _ a).alloc (AJ _) _).alloc aZ _
 have r:Hid (gq ((a.alloc (.cells bF 23)).alloc (.cells #[.slice c b.length d] 27)) (some ⟨a.heap.size+1,0,none⟩) [b]):=λ_=>⟨a.heap.size+1,0,rfl,by simp,λm s o=>by
  match m with
  | 0=>
   obtain rfl:=AL o;exact⟨c,d,by rw[cell_of_row _ _ _ _ _ _ (heap_alloc2_new a _ _)];rfl,k,j.below i,l⟩
  | m+1=>simp at o⟩
 clear j k l
 go_enter func164,ntmps164
 go_wp2_with (first
  |(go_at_call 182;refine(ql [b] 1 rfl (some ⟨a.heap.size+1,0,none⟩) 1 f 0 g _ (by have:=h.out;simp;omega) ah r).mono ?_;rw[<-hx.out];rintro c d ⟨rfl,b⟩;replace b:=AA b;have c:Hid (aL d a.heap.size 23 bF):=(b.block a.heap.size e.lt).trans e;have a:=AA<|i.trans (b.mono (by simp;omega)))
  |(rw[bA 23 _];refine fw c n p q ?_))
 refine gI (setRow_heap _ _ _ _ _ _ c) n AB ?_
 exact⟨rfl,below_setRow a ah _⟩
theorem kG(b c:aj)(h:b.length=32)(i:c.length=32)(g:Int)(a:World)(j:g < 9223372036854775808):
  bq 254 #[.int .i64 g,.agg (ak b).toArray,.agg (ak c).toArray] a (.agg (ak (dP (bB (kb 1 :: (b++c))) (cu g))).toArray):=by
 have f:[b,c].flatten=b++c:=by simp
 rw[<-f]
 obtain⟨e,hx⟩:=bG (dP (bB (kb 1 :: [b,c].flatten)) (cu g))
 have d:e.length=32:=hx.out ▸ eT _ _ (eU _) (fD g).2
 rw[<-hx.out]
 have r:=AA (bI e d)
 have s:Hid ((bF:Array Value).size=(ak e).toArray.size):=by show _=_;simp[aB,d,bF]
 have k:=AA (bO e)
 clear d
 replace j:=AA j
 have t:Hid ([b,c].flatten.length=64):=by show _=_;simp[h,i]
 clear f
 obtain⟨d,f⟩:∃d,Hid (d=((((a.alloc (.cells (ak b).toArray 23)).alloc (.cells (ak c).toArray 23)).alloc (.cells bF 23)).drew.alloc (.cells #[.slice (some ⟨a.heap.size,0,none⟩) 32 32,.slice (some ⟨a.heap.size+1,0,none⟩) 32 32] 27))):=⟨_,rfl⟩
 have m:d.heap[a.heap.size]?=some (.cells (ak b).toArray 23 (0,0)):=f.out ▸ OQ a _ _ _ _
 have n:d.heap[a.heap.size+1]?=some (.cells (ak c).toArray 23 (0,0)):=f.out ▸ OP a _ _ _ _
 have o:Hid (aL d (a.heap.size+2) 23 bF):=f.out ▸ OO a _ _ _ _
 have k:d.heap[a.heap.size+3]?=some (.cells #[.slice (some ⟨a.heap.size,0,none⟩) 32 32,.slice (some ⟨a.heap.size+1,0,none⟩) 32 32] 27 (0,0)):=f.out ▸ OM a _ _ _ _
 have u:Hid (av a d):=f.out ▸ OL a _ _ _ _
 have p:Hid (d.heap.size=a.heap.size+4):=by show _=_;rw[f.out];simp
 have v:Hid (gq d (some ⟨a.heap.size+3,0,none⟩) [b,c]):=λ_=>⟨a.heap.size+3,0,rfl,by have:=p.out;omega,λq l d=>by
  match q with
  | 0=>
   obtain rfl:=AL d;exact⟨some ⟨a.heap.size,0,none⟩,32,by rw[cell_of_row _ _ _ _ _ _ k,h];rfl,ah,kU m,λl=>by cases l⟩
  | 1=>
   obtain rfl:=AL d;exact⟨some ⟨a.heap.size+1,0,none⟩,32,by rw[cell_of_row _ _ _ _ _ _ k,i];rfl,ah,kU n,λl=>by cases l⟩
  | q+2=>simp at d⟩
 have d:Hid ((ak e).length=32):=by show _=_;have:=s.out;simp[bF]at this;omega
 have l:=d.out
 clear m n k h i
 go_enter func254,ntmps254
 go_wp2_with fail
 go_region_law (go_simp;go_at_call 182;change Calls _ _ _ ((((a.alloc (.cells (ak b).toArray 23)).alloc (.cells (ak c).toArray 23)).alloc (.cells bF 23)).drew.alloc (.cells #[.slice (some ⟨a.heap.size,0,none⟩) 32 32,.slice (some ⟨a.heap.size+1,0,none⟩) 32 32] 27)) _;rw[<-f.out];refine(ql [b,c] 2 rfl (some ⟨a.heap.size+3,0,none⟩) 2 g 1 j _ (aC t) ah v).mono ?_;rw[<-hx.out];rintro f c ⟨rfl,b⟩;replace b:=AA b;have f:Hid (aL c (a.heap.size+2) 23 bF):=(b.block (a.heap.size+2) o.lt).trans o;have g:=AA<|u.trans (b.mono (aC p));have b:(storeCells ⟨a.heap.size+1+1,0,none⟩ (ak e)).run prog c=.ok () (c.setRow (a.heap.size+2) (ak e).toArray):=je f (by have:=d.out;simp[bF];omega) (aY e))
 go_wp2_with fail
 refine gI (setRow_heap _ _ _ _ _ _ f) r AB ?_
 exact⟨rfl,below_setRow g ah _⟩
def iU(q:aj):aj:=dP (bB (kb 9 :: q.take 64)) 32
theorem jI(a:aj):(iU a).length=32:=eT _ _ (eU _) (AJ _)
theorem Ca(c:aj)(b:Nat)(k:c.length=b)(e:Option Addr)(d:Nat)(a:World)(f:bn a)(o:ax a 1 e b (ak c))(r:b<=d)(s:b < 140737488355328)(p:e=none->b=0/\d=0):
  bq 61 #[.slice e b d] a (.agg (ak (iU c)).toArray):=by
 subst k
 obtain⟨m,g⟩:=bG (min c.length 64)
 have t:m<=c.length:=aC g
 have u:iU c=dP (bB (kb 9 :: [c.take m].flatten)) (cu 32):=by
  unfold iU;(have h:c.take 64=c.take m:=by rw[g.out,<-List.take_take];exact(BA (by simp;omega)).symm);rw[h];simp;rfl
 rw[u]
 obtain⟨i,hx⟩:=bG (dP (bB (kb 9 :: [c.take m].flatten)) (cu 32))
 have q:i.length=32:=hx.out ▸ eT _ _ (eU _) (fD 32).2
 rw[<-hx.out]
 have l:=AA (bI i q)
 have v:Hid ((bF:Array Value).size=(ak i).toArray.size):=by show _=_;simp[aB,q,bF]
 have w:=AA (bO i)
 replace f:=AA f
 have x:Hid ([c.take m].flatten.length=m):=by show _=_;simp;omega
 have i:Hid (m<=64):=by have:=g.out;show m<=64;omega
 have n:Hid (aL ((a.alloc (.cells bF 23)).alloc (.cells #[.slice e m d] 27)) a.heap.size 23 bF):=heap_alloc2_old a _ _
 have i:Hid (av a ((a.alloc (.cells bF 23)).alloc (.cells #[.slice e m d] 27))):=((Below.refl _ a).alloc (AJ _) _).alloc aZ _
 have j:(c.take m).length=m:=by rw[List.length_take];omega
 have y:Hid (gq ((a.alloc (.cells bF 23)).alloc (.cells #[.slice e m d] 27)) (some ⟨a.heap.size+1,0,none⟩) [c.take m]):=λ_=>⟨a.heap.size+1,0,rfl,by simp,λz B A=>by
  match z with
  | 0=>
   obtain rfl:=AL A;exact⟨e,d,by rw[cell_of_row _ _ _ _ _ _ (heap_alloc2_new a _ _),j];rfl,by rw[j];omega,by rw[j];exact(ax.front o m t).below i,λh=>⟨by have:=p h;omega,(p h).2⟩⟩
  | z+1=>simp at A⟩
 have z:=AA o
 have z:Hid (m<=d):=by show m<=d;omega
 have A:=AA r
 have A:=AA s
 obtain⟨b,k⟩:=bG (c.length)
 rw[<-k.out]at g ⊢
 clear u q j o r s p t
 by_cases c:(64:Int) < (b:Int)
 ·have o:m=64:=aC g
  subst o;have r:∀j,(Instr.sliceAt 27 (.slice e b d) none (some (.int .i64 64)) none).run prog j=.ok (.slice e 64 d) j:=qE (m:=64) AR (λ_=>rfl) z _ rfl;go_enter A9,ntmps61
  go_wp2_with (first
   |(go_at_call 115;refine(xW _ 1 rfl (some ⟨a.heap.size+1,0,none⟩) 1 32 9 _ (f.below i f.1) (aC x) ah y).mono ?_;rw[<-hx.out];rintro h p ⟨rfl,c⟩;replace c:=AA c;have k:Hid (aL p a.heap.size 23 bF):=(c.block a.heap.size n.lt).trans n;have q:=AA<|i.trans (c.mono (by simp;omega)))
   |(rw[bA 23 _];refine fw k l v w ?_))
  refine gI (setRow_heap _ _ _ _ _ _ k) l AB ?_;exact⟨rfl,below_setRow q (AJ _) _⟩
 ·have o:b=m:=aC g
  have r:∀j,(Instr.sliceAt 27 (.slice e b d) none (some (.int .i64 (b:Int))) none).run prog j=.ok (.slice e b d) j:=qE (m:=b) AR (λ_=>rfl) (by rw[o];exact z) _ rfl;subst o;have d:(b:Int)<=64:=ah;go_enter A9,ntmps61
  go_wp2_with (first
   |(go_at_call 115;refine(xW _ 1 rfl (some ⟨a.heap.size+1,0,none⟩) 1 32 9 _ (f.below i f.1) (aC x) ah y).mono ?_;rw[<-hx.out];rintro h p ⟨rfl,c⟩;replace c:=AA c;have k:Hid (aL p a.heap.size 23 bF):=(c.block a.heap.size n.lt).trans n;have q:=AA<|i.trans (c.mono (by simp;omega)))
   |(rw[bA 23 _];refine fw k l v w ?_))
  refine gI (setRow_heap _ _ _ _ _ _ k) l AB ?_;exact⟨rfl,below_setRow q (AJ _) _⟩
theorem ny(c:aj)(b:Nat)(i:c.length=b)(e:Option Addr)(d:Nat)(a:World)(l:ax a 1 e b (ak c))(q:b<=d)(r:b < 140737488355328)(n:e=none->b=0/\d=0):
  bq 110 #[.slice e b d] a (.agg (ak (iU c)).toArray):=by
 subst i
 obtain⟨m,f⟩:=bG (min c.length 64)
 have s:m<=c.length:=aC f
 have t:iU c=dP (bB (kb 9 :: [c.take m].flatten)) (cu 32):=by
  unfold iU;(have g:c.take 64=c.take m:=by rw[f.out,<-List.take_take];exact(BA (by simp;omega)).symm);rw[g];simp;rfl
 rw[t]
 obtain⟨h,hx⟩:=bG (dP (bB (kb 9 :: [c.take m].flatten)) (cu 32))
 have o:h.length=32:=hx.out ▸ eT _ _ (eU _) (fD 32).2
 rw[<-hx.out]
 have j:=AA (bI h o)
 have u:Hid ((bF:Array Value).size=(ak h).toArray.size):=by show _=_;simp[aB,o,bF]
 have v:=AA (bO h)
 have w:Hid ([c.take m].flatten.length=m):=by show _=_;simp;omega
 have h:Hid (m<=64):=by have:=f.out;show m<=64;omega
 have k:Hid (aL ((a.alloc (.cells bF 23)).alloc (.cells #[.slice e m d] 27)) a.heap.size 23 bF):=heap_alloc2_old a _ _
 have p:Hid (av a ((a.alloc (.cells bF 23)).alloc (.cells #[.slice e m d] 27))):=((Below.refl _ a).alloc (AJ _) _).alloc aZ _
 have h:(c.take m).length=m:=by rw[List.length_take];omega
 have x:Hid (gq ((a.alloc (.cells bF 23)).alloc (.cells #[.slice e m d] 27)) (some ⟨a.heap.size+1,0,none⟩) [c.take m]):=λ_=>⟨a.heap.size+1,0,rfl,by simp,λy A z=>by
  match y with
  | 0=>
   obtain rfl:=AL z;exact⟨e,d,by rw[cell_of_row _ _ _ _ _ _ (heap_alloc2_new a _ _),h];rfl,by rw[h];omega,by rw[h];exact(ax.front l m s).below p,λg=>⟨by have:=n g;omega,(n g).2⟩⟩
  | y+1=>simp at z⟩
 have y:=AA l
 have y:Hid (m<=d):=by show m<=d;omega
 have z:=AA q
 have z:=AA r
 obtain⟨b,i⟩:=bG (c.length)
 rw[<-i.out]at f ⊢
 clear t o h l q r n s
 by_cases c:(64:Int) < (b:Int)
 ·have l:m=64:=aC f
  subst l;have q:∀h,(Instr.sliceAt 27 (.slice e b d) none (some (.int .i64 64)) none).run prog h=.ok (.slice e 64 d) h:=qE (m:=64) AR (λ_=>rfl) y _ rfl;go_enter Az,ntmps110
  go_wp2_with (first
   |(go_at_call 182;refine(ql _ 1 rfl (some ⟨a.heap.size+1,0,none⟩) 1 32 9 ah _ (aC w) ah x).mono ?_;rw[<-hx.out];rintro g n ⟨rfl,c⟩;replace c:=AA c;have i:Hid (aL n a.heap.size 23 bF):=(c.block a.heap.size k.lt).trans k;have o:=AA<|p.trans (c.mono (by simp;omega)))
   |(rw[bA 23 _];refine fw i j u v ?_))
  refine gI (setRow_heap _ _ _ _ _ _ i) j AB ?_;exact⟨rfl,below_setRow o (AJ _) _⟩
 ·have l:b=m:=aC f
  have q:∀h,(Instr.sliceAt 27 (.slice e b d) none (some (.int .i64 (b:Int))) none).run prog h=.ok (.slice e b d) h:=qE (m:=b) AR (λ_=>rfl) (by rw[l];exact y) _ rfl;subst l;have d:(b:Int)<=64:=ah;go_enter Az,ntmps110
  go_wp2_with (first
   |(go_at_call 182;refine(ql _ 1 rfl (some ⟨a.heap.size+1,0,none⟩) 1 32 9 ah _ (aC w) ah x).mono ?_;rw[<-hx.out];rintro g n ⟨rfl,c⟩;replace c:=AA c;have i:Hid (aL n a.heap.size 23 bF):=(c.block a.heap.size k.lt).trans k;have o:=AA<|p.trans (c.mono (by simp;omega)))
   |(rw[bA 23 _];refine fw i j u v ?_))
  refine gI (setRow_heap _ _ _ _ _ _ i) j AB ?_;exact⟨rfl,below_setRow o (AJ _) _⟩
def qR(s:Int)(q:aj):aj:=dP (bB (kb 0 :: q)) (cu s)
theorem tY(a:Int)(b:aj):(qR a b).length=32:=eT _ _ (eU _) (fD a).2
def LQ(w:World)(B:Nat)(A:Option Addr)(ps:List aj):Prop:=(∀a,A=some a->a.block < B)/\∀(i:Nat) (q:aj),ps[i]?=some q->∀b o,A=some ⟨b,o,none⟩->∀Ai ci,w.cell? ⟨b,o+i,none⟩=some (.slice Ai q.length ci)->0 < q.length->∀a,Ai=some a->a.block < B
theorem mo.Qk{c h:World}{d:Option Addr}{e:List aj}{a:Nat}{f:Option Nat}(i:gq c d e)(j:LQ c a d e)(g:au (λb=>b=a\/some b=none) c h)(m:∀b,f=some b->a<=b):mo h a f d e:=λh0=>by
 obtain⟨c,e,h,k,o⟩:=i h0;subst h;have i:=j.1 _ rfl;(have d:∀b:Nat,b < a->b≠a/\some b≠f:=λb l=>⟨ah,λh=>by have:=m b h.symm;omega⟩);refine⟨c,e,rfl,Ad k g.size,(d c i).1,(d c i).2,λf a h=>?_⟩;obtain⟨m,n,c1,c2,q,r⟩:=o f a h;have o:=j.2 f a h c e rfl m n c1;refine⟨m,n,(g.cell (p:=⟨c,e+f,none⟩) k (λa=>by rcases a with a | a;exact(d c i).1 a;cases a)).trans c1,q.pY g (λh0 e f c a=>?_),r,λh0 b l=>d _ (o h0 b l)⟩;have:=o ah _ c
 rcases a with a | a
 ·simp at this;omega
 ·cases a
theorem uR(a:Int)(e:List aj)(i:Nat)(p:e.length=i)(j:Option Addr)(c:Nat)(b:World)(q:i < 140737488355328)(g:Nat)(k:e.flatten.length=g)(l:g+1<=140737488355328)(m:gq b j e)(n:LQ b b.heap.size j e):
  Calls prog 281 #[.int .i64 a,.slice j i c] b λf d=>∃r,f=.returned r/\av b d/\d.ownsRow b.heap.size 5 1 r (1+g) (ak (kb a :: e.flatten)):=by
 have t:=AA (kX.new b).refl
 have y:=AA<|Below.aJ b (.cells #[.slice none 0 0] 313)
 have u:Hid ((b.alloc (.cells #[.slice none 0 0] 313)).heap.size=b.heap.size+1):=by show _=_;simp
 have h:=Jb a
 have o:=AA<|λd h (s:au (λa=>a=b.heap.size\/some a=none) (b.alloc (.cells #[.slice none 0 0] 313)) d) (v:(∀a,h=some a->b.heap.size<=a))=>mo.Qk m n (((au.refl _ b).alloc _).trans s (λ_ _ d=>d)) v
 have z:Hid (([]:aj)++[kb a]++e.flatten=kb a :: e.flatten):=rfl
 have v:Hid ((kb a :: e.flatten).length=1+g):=by show _=_;rw[List.length_cons,k,Nat.add_comm]
 replace k:=AA k
 replace p:=AA p
 replace q:=AA q
 replace l:=AA l
 clear m n
 go_enter BZ,ntmps281
 go_wp2_with (first
  |(go_at_call 130;refine(jy _).mono ?_;rintro f s ⟨rfl,rfl⟩)
  |(go_at_call 131;refine(ko (b8 (kb a)) (kb a) rfl aZ t).mono ?_;rintro f s ⟨rfl,h,m,g,c1⟩;have n:∀a,h=some a->b.heap.size<=a:=(λa f=>by rcases c1 with c1 |⟨w,c1,x⟩;(rw[c1]at f;cases f);(rw[c1]at f;have w:=AL f;have:=u.out;omega));have w:=AA (o s h g n);have x:=AA<|y.trans ⟨g.os,g.tape,g.output,g.size,(λo A=>g.block o (aC u) (λd=>by rcases d with d | d;omega;cases d))⟩;replace m:=AA m;replace n:=AA n;clear g c1 t)
  |(go_at_call 232;refine(uD b.heap.size h ([]++[kb a]) e i p j c s (by have:=l.out;rw[k.out];simp only[List.nil_append,List.length_cons,List.length_nil];omega) q m w).mono ?_;rintro f j ⟨rfl,k,h,g,c2⟩;rw[z.out]at h;have i:=AA<|x.trans ⟨g.os,g.tape,g.output,g.size,(λo A=>g.block o (aC x.size) (λd=>by rcases d with d | d;omega;(have:=n o d.symm;omega)))⟩;replace h:=AA h;clear g c2 m w)
  |(go_at_call 133;refine(uw b.heap.size k (kb a :: e.flatten) j (by rw[v.out];have:=l.out;omega) h).mono ?_;rintro f d ⟨r,rfl,b,a⟩;rw[v.out]at a;obtain⟨d,e,rfl,-⟩:=Own.reads a;have d:=aQ i b;replace a:=AA a;clear b))
 go_ret
 exact⟨_,rfl,d,cO a i.size⟩
def gU:Array Value:=Array.replicate 64 (.int .u8 0)
def gX(c:BitVec 8)(key:aj):aj:=(List.range 64).map λj=>key.getD j 0 ^^^ c
theorem lC(a:BitVec 8)(b:aj):(gX a b).length=64:=by simp[gX]
def nR(key msg:aj):aj:=bB (gX 92 key++bB (gX 54 key++msg))
theorem qp(a b:aj):(nR a b).length=32:=eU _
theorem R5(b:BitVec 8)(c:aj)(a:Nat)(d:a < 64):(gX b c)[a]?=some (c.getD a 0 ^^^ b):=by
 unfold gX;rw[List.getElem?_map,List.getElem?_range d];rfl
def lK(c:BitVec 8)(key:aj)(i j:Nat):Value:=.int .u8 (b8 (if j < i then key.getD j 0 ^^^ c else key.getD j 0))
theorem CV(c:BitVec 8)(d:aj)(a b:Nat):lK c d (a+1) b=if b=a then .int .u8 (b8 (d.getD a 0 ^^^ c))else lK c d a b:=by
 unfold lK;by_cases c:b=a
 ·subst c
  rw[if_pos rfl,if_pos ah]
 ·rw[if_neg c]
  by_cases c:b < a
  ·rw[if_pos c,if_pos ah]
  ·rw[if_neg c,if_neg ah]
theorem ER(c:BitVec 8)(b:aj)(a:Nat):lK c b a a=.int .u8 (b8 (b.getD a 0)):=by
 unfold lK;rw[if_neg ah]
theorem CS(d:BitVec 8)(a:aj)(b:a.length<=64)(c:Array Value)(e:c=Array.replicate 64 (.int .u8 0)):
  (splice c.toList 0 (ak a)).toArray.size=64/\∀b,b < 64->(splice c.toList 0 (ak a)).toArray[b]?=some (lK d a 0 b):=by
 subst e
 have hs:splice (Array.replicate 64 (Value.int .u8 0)).toList 0 (ak a)=ak a++List.replicate (64 - a.length) (.int .u8 0):=by
  show List.take 0 _++(ak a++List.drop (0+_) _)=_;rw[List.take_zero,List.nil_append,Array.toList_replicate,List.drop_replicate,aB,Nat.zero_add]
 rw[hs]
 constructor
 ·simp[aB];omega
 ·intro b c
  rw[List.getElem?_toArray];unfold lK;rw[if_neg ah];by_cases c:b < a.length
  ·rw[List.getElem?_append_left (by rw[aB];exact c),eu _ _ c]
   unfold iF;simp[List.getD,List.getElem?_eq_getElem c]
  ·rw[List.getElem?_append_right (by rw[aB];omega),List.getElem?_replicate,if_pos (by rw[aB];omega)]
   simp[List.getD,List.getElem?_eq_none (Nat.le_of_not_lt c),b8]
theorem H6(b c:BitVec 8)(a:Int)(d:a=b8 c):bits .xor .u8 (b8 b) a=b8 (b ^^^ c):=by
 subst d;show IntKind.u8.wrap (((BitVec.ofInt 8 (b8 b) ^^^ BitVec.ofInt 8 (b8 c)).toNat:Nat):Int)=_;have e:∀a:Int,IntKind.u8.wrap a=a % 256:=λa=>by simp[IntKind.wrap,IntKind.bits,IntKind.signed]
 have d:∀a:BitVec 8,BitVec.ofInt 8 (b8 a)=a:=λa=>by
  apply BitVec.eq_of_toNat_eq;have:=a.isLt;simp[b8]
 rw[e,d,d];unfold b8;have:=(b ^^^ c).isLt;omega
theorem yS{c:World}{d:Nat}{e:TypeId}{a:BitVec 8}{b:aj}(f:iX c d e 64 (lK a b 64)):ax c 1 (some ⟨d,0,none⟩) 64 (ak (gX a b)):=by
 have d:=f.reads 0 64 1 ah
 have e:((List.range (64*1)).map λc=>lK a b 64 (0+c))=ak (gX a b):=by
  unfold ak gX;rw[List.map_map];apply List.map_congr_left;intro c f;(have g:c < 64:=by simpa using f);show lK a b 64 (0+c)=iF _;rw[Nat.zero_add];unfold lK iF;rw[if_pos g]
 rw[e]at d;exact d
theorem Vu(a:World)(b c d:Obj):(((a.alloc b).alloc c).alloc d).heap[a.heap.size]?=some b:=by
 rw[Below.heap_alloc _ _ _ (by simp;omega)];exact heap_alloc2_old a _ _
theorem Vt(a:World)(c b d:Obj):(((a.alloc c).alloc b).alloc d).heap[a.heap.size+1]?=some b:=by
 rw[Below.heap_alloc _ _ _ aZ];exact heap_alloc2_new a _ _
theorem Vs(a:World)(b c d:Obj):(((a.alloc b).alloc c).alloc d).heap[a.heap.size+2]?=some d:=by
 have e:=heap_alloc_new ((a.alloc b).alloc c) d;(have d:((a.alloc b).alloc c).heap.size=a.heap.size+2:=by simp);rw[d]at e;exact e
theorem yK{d:World}{e:Option Addr}{h:Nat}{c:aj}(f:ax d 1 e h (ak c))(h0:0 < (ak c).length):∃g,e=some g/\∀a b,(ak c)[a]?=some b->d.cell? (g.add a)=some b:=by
 obtain⟨e,g,c,h,d⟩:=f.2 (aC f.1);refine⟨_,c,λa b e=>?_⟩;rw[eD];exact d a b e
structure Ms(w wx:World)(q:aj):Prop where
 below:av w wx
 res:aL wx w.heap.size 23 bF
 inner:iX wx (w.heap.size+1) 353 64 (lK 54 q 64)
 outer:iX wx (w.heap.size+2) 353 64 (lK 92 q 64)
theorem Ms.step{w c d:World}{q:aj}{e:Nat}(a:Ms w c q)(b:Below e c d)(f:w.heap.size+3<=e):Ms w d q:=
 ⟨a.below.trans (b.mono ah),(b.block _ ah).trans a.res,iX.below' a.inner b ah,iX.below' a.outer b ah⟩
theorem Ms.kept{w c d:World}{q:aj}{e:Nat}(a:Ms w c q)(b:au (·=e) c d)(f:w.heap.size+3<=e):Ms w d q:=
 ⟨a.below.trans (au.aW b ah a.below.size),a.res.kept b ah,a.inner.kept b ah,a.outer.kept b ah⟩
theorem Vf(b f:aj)(c h:Nat)(l:b.length=c)(k:f.length=h)(m:c<=64)(d t:Option Addr)(p c2:Nat)(a:World)(e:bn a)(n:h < 144115188075855872)(j:ax a 1 d c (ak b))(q:ax a 1 t h (ak f))(D:h<=c2):
  bq 263 #[.slice d c p,.slice t h c2] a (.agg (ak (nR b f)).toArray):=by
 have r:Hid (av a (((a.alloc (.cells bF 23)).alloc (.cells gU 353)).alloc (.cells gU 353))):=(((Below.refl _ a).alloc (AJ _) _).alloc aZ _).alloc (by simp;omega) _
 have g:Hid ((ak b).length=c):=by show _=_;rw[aB,l]
 have s1:Hid ((ak b).length=Nat.min c 64):=g.out ▸ (Nat.min_eq_left m).symm
 have i:gU=Array.replicate 64 (.int .u8 0):=rfl
 have s:Hid (0+(ak b).length<=gU.size):=by show _<=_;rw[g.out,i,Array.size_replicate];omega
 have w:=AA (CS 54 b ah _ i)
 have x:=AA (CS 92 b ah _ i)
 have u:(c:Int)<=64:=ah
 replace e:=AA e
 replace n:=AA n
 replace j:=AA j
 replace q:=AA q
 replace k:=AA k
 clear i m l
 go_enter func263,ntmps263
 go_wp2_with (first
  |(rw[bY 19];refine l5 (o:=⟨some 19,_,_,_,_,_⟩) rfl (.tmp 17) (.tmp 18) 27 27 rfl 5 AR JZ (some ⟨a.heap.size+1,0,none⟩) d 64 64 c p rfl rfl (a.heap.size+1) 0 gU 353 (Vt a _ _ _) (ak b) s1 (λu=>⟨rfl,yK (j.below r) u⟩) s (aY b) _ (au.refl _ _) c g ?_;intro v y l;have z:Hid (aL v a.heap.size 23 bF):=aL.kept (Vu a _ _ _) l ah;have A:Hid (aL v (a.heap.size+2) 353 gU):=aL.kept (Vs a _ _ _) l ah;have m:=AA<|r.trans (au.aW l ah (by simp;omega));have B:Hid (iX v (a.heap.size+1) 353 64 (lK 54 b 0)):=⟨_,y,w⟩;clear y l r)
  |(rw[bY 22];refine l5 (o:=⟨some 22,_,_,_,_,_⟩) rfl (.tmp 20) (.tmp 21) 27 27 rfl 5 AR JZ (some ⟨a.heap.size+2,0,none⟩) d 64 64 c p rfl rfl (a.heap.size+2) 0 gU 353 A (ak b) s1 (λu=>⟨rfl,yK (j.below m) u⟩) s (aY b) _ (au.refl _ _) c g ?_;intro u d c;have j:=AA<|aL.kept z c ah;have l:=AA<|m.trans (au.aW c ah m.size);have p:=AA<|iX.kept B c ah;have r:Hid (iX u (a.heap.size+2) 353 64 (lK 92 b 0)):=⟨_,d,x⟩;clear d c m B z A))
 go_loopw [23] (λd wr=>∃c:Nat,d=.int .i64 (c:Int)/\c<=64/\Hid (iX wr (a.heap.size+1) 353 64 (lK 54 b c))/\Hid (iX wr (a.heap.size+2) 353 64 (lK 92 b c))/\Hid (aL wr a.heap.size 23 bF)/\Hid (av a wr)) (λd _=>64 - (intOf d).toNat)
 case atStart=>exact⟨0,rfl,ah,p,r,j,l⟩
 case round=>
  clear p r j l;obtain⟨c,rfl,p,j,d,l,m⟩:=hrel;by_cases p:c < 64
  ·have i:(c:Int) < 64:=ah
   obtain⟨i,hx⟩:=bG (b.getD c 0);have r:wr.cell? ⟨a.heap.size+1,c,none⟩=some (.int .u8 (b8 i)):=(j.cell ah).trans (by rw[ER,hx.out]);have r:wr.frozen? ⟨a.heap.size+1,c,none⟩=false:=j.frozen _;have r:wr.cell? ⟨a.heap.size+2,c,none⟩=some (.int .u8 (b8 i)):=(d.cell ah).trans (by rw[ER,hx.out]);have r:wr.frozen? ⟨a.heap.size+2,c,none⟩=false:=d.frozen _;have r:=H6 i 54 54 rfl;have r:=H6 i 92 92 rfl;go_wp2_with fail;go_roundw
   case rel=>
    refine⟨c+1,by go_num,ah,?_,?_,(l.far (by show a.heap.size≠a.heap.size+1;omega) _).far (by show a.heap.size≠a.heap.size+2;omega) _,(m.setCell (by show a.heap.size<=a.heap.size+1;omega) _).setCell (by show a.heap.size<=a.heap.size+2;omega) _⟩
    ·exact(j.lD c _ (λi _=>by rw[CV,<-hx.out];rfl)).far aZ _
    ·exact(d.far aZ _).lD c _ (λi _=>by rw[CV,<-hx.out];rfl)
   case measure=>simp[intOf];omega
  ·obtain rfl:c=64:=ah
   have c:Hid (Ms a wr b):=⟨m,l,j,d⟩;(have u:Hid (a.heap.size+3<=wr.heap.size):=by have:=d.lt;show _<=_;omega);clear j d l m p s1 g s w x;go_wp2_with fail;refine(o7 _).mono ?_;rintro l y ⟨g,rfl,d,m,p⟩;(replace d:Hid (a.heap.size+3<=g):=by have:=u.out;show _<=_;omega);replace c:=AA (c.step p u);(have r:Hid (g≠1):=by have:=e.1;have:=d.out;show _≠_;omega);replace m:=AA m;clear p;go_wp2_with fail;refine(rE [] (gX 54 b) 64 (lC _ _) g _ 64 y (e.below c.below e.1) r m aZ (yS c.inner) (λ_ C v=>by cases v;have:=d.out;show a.heap.size+1≠g;omega) ah).mono ?_;rintro l z ⟨rfl,i,s⟩;replace c:=AA (c.kept s d);rw[List.nil_append]at i;replace i:=AA i;clear s m;go_wp2_with fail;refine(rE (gX 54 b) f h k g t c2 z (e.below c.below e.1) r i (by rw[lC];have:=n.out;omega) (q.below c.below) (ax.off q (aC d)) D).mono ?_;rintro l A ⟨rfl,j,w⟩;replace c:=AA (c.kept w d);replace j:=AA j;clear w i;go_wp2_with fail;refine(DW (gX 54 b++f) g A (e.below c.below e.1) j (by rw[List.length_append,lC,k.out];have:=n.out;omega)).mono ?_;rintro l k ⟨rfl,h⟩;replace c:=AA (c.step h (dn d j.lt));(have q:Hid (a.heap.size+3<=k.heap.size):=by have:=c.outer.lt;show _<=_;omega);clear h j r d u;obtain⟨h,hs⟩:=bG (bB (gX 54 b++f));have t:Hid (h.length=32):=hs.out ▸ eU _;rw[<-hs.out];have n:=AA (bI h t);(have n:Hid ((bF:Array Value).size=(ak h).toArray.size):=by show _=_;simp[aB,t.out,bF]);have n:=AA (bO h);(have n:(ak h).length=32:=by rw[aB];exact t);obtain⟨n,x⟩:=bG ((k.alloc (.cells bF 23)).setRow k.heap.size (ak h).toArray);have D:(storeCells ⟨k.heap.size,0,none⟩ (ak h)).run prog (k.alloc (.cells bF 23))=.ok () n:=x.out ▸ je (heap_alloc_new k _) (by simp[bF];omega) (aY h);unfold bF at D;have E:av k n:=x.out ▸ below_setRow ((Below.refl _ _).alloc (AJ _) _) (AJ _) _;have B:Hid (n.heap[k.heap.size]?=some (.cells (ak h).toArray 23 (0,0))):=x.out ▸ setRow_heap _ _ _ _ _ _ (heap_alloc_new k _);replace c:=AA (c.step E q);(have u:Hid (ax n 1 (some ⟨k.heap.size,0,none⟩) 32 (ak h)):=by have n:=kU B;rw[t.out]at n;exact n);have n:=AA (aL.lt B);clear E B x;go_wp2_with fail;clear D;refine(o7 _).mono ?_;rintro l y ⟨g,rfl,d,m,p⟩;replace d:=AA d;replace c:=AA (c.step p (dn n q));replace u:=AA (u.below p);(have r:Hid (g≠1):=by have:=e.1;have:=d.out;have:=n.out;have:=q.out;show _≠_;omega);replace m:=AA m;clear p;go_wp2_with fail;refine(rE [] (gX 92 b) 64 (lC _ _) g _ 64 y (e.below c.below e.1) r m aZ (yS c.outer) (λ_ C v=>by cases v;have:=d.out;have:=n.out;have:=q.out;show a.heap.size+2≠g;omega) ah).mono ?_;rintro l z ⟨rfl,i,s⟩;replace c:=AA (c.kept s (pV d n q));replace u:=AA (u.pY s (λ_ x o l p=>by cases l;have:=d.out;have:=n.out;omega));rw[List.nil_append]at i;replace i:=AA i;clear s m;go_wp2_with fail;refine(rE (gX 92 b) h 32 t g _ 32 z (e.below c.below e.1) r i (by rw[lC];omega) u (λ_ C v=>by cases v;have:=d.out;have:=n.out;show k.heap.size≠g;omega) ah).mono ?_;rintro l A ⟨rfl,j,w⟩;replace c:=AA (c.kept w (pV d n q));replace j:=AA j;clear w i u;go_wp2_with fail;refine(DW (gX 92 b++h) g A (e.below c.below e.1) j (by rw[List.length_append,lC,t.out];omega)).mono ?_;rintro l e ⟨rfl,g⟩;replace c:=AA (c.step g (Ng d n q j.lt));clear g j;(have d:Hid (nR b f=bB (gX 92 b++h)):=by show _=_;rw[hs.out];rfl);rw[<-d.out];have d:=AA (bI (nR b f) (qp b f));(have g:(ak (nR b f)).length=32:=by rw[aB];exact qp b f);have g:(storeCells ⟨a.heap.size,0,none⟩ (ak (nR b f))).run prog e=.ok () (e.setRow a.heap.size (ak (nR b f)).toArray):=je c.res (by simp[bF];omega) (aY _);go_wp2_with fail;refine gI (setRow_heap _ _ _ _ _ _ c.res) d AB ?_;exact⟨rfl,below_setRow c.below (AJ _) _⟩
def lZ(u v:Value):Prop:=∀k,u.ownBlock=some k->v.ownBlock=some k->False
theorem lZ.symm{u v:Value}(a:lZ u v):lZ v u:=λb c d=>a b d c
theorem WM{b:World}{d e f g:Nat}{c:Value}{h:List Value}(i:b.ownsRow d e f c g h):∀a,c.ownBlock=some a->a < b.heap.size:=by
 intro a c;obtain⟨d,b⟩:=i
 rcases b with b |⟨d,f,g,rfl,h,e,i⟩
 ·obtain⟨rfl,-⟩:=b
  cases c
 ·obtain rfl:d=a:=by simpa[Value.ownBlock]using c
  exact(Ay.1 e).1
theorem Va(a:World)(b:BitVec 8)(c:Int)(d:b8 b=c):ax (a.alloc (.cells #[.int .u8 c] 5)) 1 (some ⟨a.heap.size,0,none⟩) 1 (ak [b]):=by
 subst d;exact(aL.new a 5 _).reads 0 _ rfl (λc u b=>by rw[Nat.zero_add];exact by simpa[ak,iF]using b)
theorem OJ{c j f:World}{b a k:Nat}{e:Option Addr}{h:Nat}{i:aj}{l:BitVec 8}{o:Obj}{d m:Value}{n:List Value}(g:rC (c.alloc o) b 5 1 (.slice e a h) a 1 (ak i) (ak [l]) m f)
  (q:c.ownsRow b 5 1 (.slice e a h) a (ak i))(o:c.ownsRow b 5 1 d k n)(p:lZ (.slice e a h) d)(r:Below b j c)(s:b<=c.heap.size):
  ∃c e,m=.slice c (a+1) e/\f.ownsRow b 5 1 (.slice c (a+1) e) (a+1) (ak (i++[l]))/\f.ownsRow b 5 1 d k n/\lZ d (.slice c (a+1) e)/\Below b j f:=by
 have a:=g.own
 have i:=g.at_
 obtain⟨c,e,rfl,-⟩:=Own.reads a
 refine⟨c,e,rfl,by simpa[ak]using a,World.ownsRow.kept (o.alloc _) g.grow ?_,λb f h=>?_,g.below (r.alloc s _) (by simp;omega) (jf q)⟩
 ·cases c:d.ownBlock with
  | none=>exact .inl rfl
  | some b=>exact .inr λa=>p b a.symm c
 ·rcases i with a | a
  ·exact p b (a.symm.trans h) f
  ·rw[h]at a
   have c:=AL a;have:=WM o b f;simp at c;omega
theorem Ra{b c:World}{d f:Nat}{g a:Value}{h:List Value}(i:b.ownsRow d 5 1 a f h)(j:lZ g a)(k:b.grownBy c g.ownBlock):c.ownsRow d 5 1 a f h:=by
 refine World.ownsRow.kept i k ?_;cases e:a.ownBlock with
 | none=>exact .inl rfl
 | some a=>exact .inr λb=>j a b.symm e
theorem JQ(b:BitVec 8)(c:aj)(a:Nat)(d:a < 64):(gX b c).take (a+1)=(gX b c).take a++[c.getD a 0 ^^^ b]:=by
 rw[List.take_add_one,R5 b c a d];rfl
theorem MO(b d:aj)(m q:Nat)(H:b.length=m)(Q:d.length=q)(j:m<=64)(a O:Option Addr)(e c2:Nat)(c:World)(I:q+64<=140737488355328)(g:ax c 1 a m (ak b))(R:ax c 1 O q (ak d))(S:O=none->q=0/\c2=0):
  bq 277 #[.slice a m e,.slice O q c2] c (.agg (ak (nR b d)).toArray):=by
 obtain⟨A,B,C,D,E⟩:=fT pI
 obtain⟨e,f⟩:=bG (c.alloc (.cells bF 23))
 have J:Hid (e.heap.size=c.heap.size+1):=by show _=_;rw[f.out];simp
 have X:Hid (aL e c.heap.size 23 bF):=f.out ▸ heap_alloc_new c _
 have T:Hid (av c e):=f.out ▸ (Below.refl _ c).alloc (AJ _) _
 have a:(m:Int)<=64:=ah
 have h:Hid (e.ownsRow (c.heap.size+1) 5 1 (.slice none 0 0) 0 (ak ((gX 54 b).take 0))):=Aa _ _ _ _
 have i:Hid (e.ownsRow (c.heap.size+1) 5 1 (.slice none 0 0) 0 (ak ((gX 92 b).take 0))):=Aa _ _ _ _
 replace I:=AA I
 replace g:=AA g
 replace R:=AA R
 replace Q:=AA Q
 replace H:=AA H
 replace S:=AA S
 clear j
 go_enter func277,ntmps277
 go_wp2_with fail
 go_loopw [6,7,8] (λk l j wr=>∃(a:Nat) (r:Option Addr) (s:Nat) (t:Option Addr) (u:Nat),k=.slice r a s/\l=.slice t a u/\j=.int .i64 (a:Int)/\Hid (a<=64)/\Hid (wr.ownsRow (c.heap.size+1) 5 1 (.slice r a s) a (ak ((gX 54 b).take a)))/\Hid (wr.ownsRow (c.heap.size+1) 5 1 (.slice t a u) a (ak ((gX 92 b).take a)))/\Hid (lZ (.slice r a s) (.slice t a u))/\Hid (Below (c.heap.size+1) e wr)) (λ_ _ j _=>64 - (intOf j).toNat)
 case atStart=>exact⟨0,none,0,none,0,rfl,rfl,rfl,(show 0<=64 by omega),by show World.ownsRow _ _ _ _ _ _ _;rw[f.out]at h;exact h,by show World.ownsRow _ _ _ _ _ _ _;rw[f.out]at i;exact i,λm K _=>(by cases K),by show Below _ _ _;rw[f.out];exact Below.refl _ _⟩
 case round=>
  clear h i;obtain⟨a,r,s,t,u,rfl,rfl,rfl,Y,h,v,F,n⟩:=hrel;(have L:Hid (c.heap.size+1<=wr.heap.size):=by have:=n.size;have:=J.out;show _<=_;omega);by_cases U:a < 64
  ·have f:(a:Int) < 64:=ah
   obtain⟨f,hx⟩:=bG (b.getD a 0);(have Z:Hid ((gX 54 b).take (a+1)=(gX 54 b).take a++[f ^^^ 54]):=by show _=_;rw[JQ 54 b a U,hx.out]);(have α:Hid ((gX 92 b).take (a+1)=(gX 92 b).take a++[f ^^^ 92]):=by show _=_;rw[JQ 92 b a U,hx.out]);by_cases i:(a:Int) < (m:Int)
   ·obtain⟨i,j,rfl,k,l⟩:=g.2 ah
    have o:i < e.heap.size:=by rw[J.out];omega
    have e:wr.cell? ⟨i,j+a,none⟩=some (.int .u8 (b8 f)):=by
     have P:=g.below T;have e:=P.below (n.mono (aC J));obtain⟨j,p,g,_,i⟩:=e.2 ah;cases g;refine i a _ ?_;rw[eu _ _ (by rw[H.out];omega),hx.out];unfold iF;simp[List.getD,List.getElem?_eq_getElem (show a < b.length by rw[H.out];omega)]
    have e:=H6 f 54 54 rfl;have e:=H6 f 92 92 rfl;clear k l o
    go_wp2_with (first
     |(at_builtin;rw[bY 33];refine dD _ rfl (.tmp 29) (.tmp 32) 27 rfl (c.heap.size+1) 5 A (.int .u8 0) 1 1 AR B C D E rfl aR (.slice r a s) a (ak ((gX 54 b).take a)) rfl (h.alloc _) (some ⟨wr.heap.size,0,none⟩) 1 1 (ak [f ^^^ 54]) rfl (Va wr (f ^^^ 54) (b8 (f ^^^ 54)) rfl) (λe=>by cases e) (aY [f ^^^ 54]) (by unfold maxLen;omega) ah (by have:=L.out;simp;omega) ?_;intro β i j;obtain⟨G,c1,rfl,o,g,p,k⟩:=OJ j h v F n (aC L);replace o:=AA o;replace g:=AA g;replace p:=AA p;have M:Hid (c.heap.size+1<=i.heap.size):=(by have:=k.size;have:=J.out;show _<=_;omega);replace k:=AA k;clear j h v F n)
     |(at_builtin;rw[bY 38];refine dD _ rfl (.tmp 34) (.tmp 37) 27 rfl (c.heap.size+1) 5 A (.int .u8 0) 1 1 AR B C D E rfl aR (.slice t a u) a (ak ((gX 92 b).take a)) rfl (g.alloc _) (some ⟨i.heap.size,0,none⟩) 1 1 (ak [f ^^^ 92]) rfl (Va i (f ^^^ 92) (b8 (f ^^^ 92)) rfl) (λe=>by cases e) (aY [f ^^^ 92]) (by unfold maxLen;omega) ah (by have:=M.out;simp;omega) ?_;intro γ N l;obtain⟨V,W,rfl,w,x,y,z⟩:=OJ l g o p k (aC M);replace x:=AA x;replace w:=AA w;replace y:=AA y;replace z:=AA z;clear l o g p k))
    go_roundw
    case rel=>exact⟨a+1,G,c1,V,W,rfl,rfl,by go_num,(show a+1<=64 by omega),(Z.out ▸ x),(α.out ▸ w),y,z⟩
    case measure=>simp[intOf];omega
   ·obtain rfl:f=0:=by
     rw[hx.out];simp[List.getD,List.getElem?_eq_none (show b.length<=a by rw[H.out];omega)]
    go_wp2_with (first
     |(at_builtin;rw[bY 33];refine dD _ rfl (.tmp 29) (.tmp 32) 27 rfl (c.heap.size+1) 5 A (.int .u8 0) 1 1 AR B C D E rfl aR (.slice r a s) a (ak ((gX 54 b).take a)) rfl (h.alloc _) (some ⟨wr.heap.size,0,none⟩) 1 1 (ak [0 ^^^ 54]) rfl (Va wr (0 ^^^ 54) (54) rfl) (λe=>by cases e) (aY [0 ^^^ 54]) (by unfold maxLen;omega) ah (by have:=L.out;simp;omega) ?_;intro β i j;obtain⟨G,c1,rfl,o,g,p,k⟩:=OJ j h v F n (aC L);replace o:=AA o;replace g:=AA g;replace p:=AA p;have M:Hid (c.heap.size+1<=i.heap.size):=(by have:=k.size;have:=J.out;show _<=_;omega);replace k:=AA k;clear j h v F n)
     |(at_builtin;rw[bY 38];refine dD _ rfl (.tmp 34) (.tmp 37) 27 rfl (c.heap.size+1) 5 A (.int .u8 0) 1 1 AR B C D E rfl aR (.slice t a u) a (ak ((gX 92 b).take a)) rfl (g.alloc _) (some ⟨i.heap.size,0,none⟩) 1 1 (ak [0 ^^^ 92]) rfl (Va i (0 ^^^ 92) (92) rfl) (λe=>by cases e) (aY [0 ^^^ 92]) (by unfold maxLen;omega) ah (by have:=M.out;simp;omega) ?_;intro γ N l;obtain⟨V,W,rfl,w,x,y,z⟩:=OJ l g o p k (aC M);replace x:=AA x;replace w:=AA w;replace y:=AA y;replace z:=AA z;clear l o g p k))
    go_roundw
    case rel=>exact⟨a+1,G,c1,V,W,rfl,rfl,by go_num,(show a+1<=64 by omega),(Z.out ▸ x),(α.out ▸ w),y,z⟩
    case measure=>simp[intOf];omega
  ·obtain rfl:a=64:=aC Y
   have k:Hid ((gX 54 b).take 64=gX 54 b):=BA (by rw[lC];omega);have o:Hid ((gX 92 b).take 64=gX 92 b):=BA (by rw[lC];omega);rw[k.out]at h;rw[o.out]at v;(have a:=AA<|T.trans (n.mono ah));have f:Hid (aL wr c.heap.size 23 bF):=(n.block _ ah).trans X;clear n U Y X T k o;go_wp2_with (at_builtin;rw[bY 41];refine dD _ rfl (.tmp 39) (.tmp 40) 27 rfl (c.heap.size+1) 5 A (.int .u8 0) 1 1 AR B C D E rfl aR (.slice r 64 s) 64 (ak (gX 54 b)) rfl h O q c2 (ak d) rfl (R.below a) S (aY d) (by have:=I.out;unfold maxLen;omega) (aC I) L ?_;intro β i j;have g:=AA<|Ra v F j.grow;have o:Hid (aL i c.heap.size 23 bF):=(j.grow.block _ f.lt (λe=>by have:=jf h _ e.symm;omega)).trans f;have p:=AA<|j.below a a.size (λm K=>by have:=jf h _ K;omega);have n:=j.own;obtain⟨G,c1,rfl,_,_,_,k,_⟩:=Own.reads n;replace k:Hid (ax i 1 G (64+q) (ak (gX 54 b++d))):=(by show ax _ _ _ _ _;simpa[ak]using k);clear j n h v F f a);refine(oF (gX 54 b++d) (64+q) (by rw[List.length_append,lC,Q.out]) G c1 i (aC I) k).mono ?_;rintro e f ⟨rfl,a⟩;have q:=AA (dz g a);have n:=bf a o;have r:=aQ p a;have w:=AA n.lt;clear a g o p k;obtain⟨a,hs⟩:=bG (bB (gX 54 b++d));have o:Hid (a.length=32):=hs.out ▸ eU _;rw[<-hs.out];(have g:(ak a).length=32:=by rw[aB];exact o);obtain⟨g,h⟩:=bG ((f.alloc (.cells bF 23)).setRow f.heap.size (ak a).toArray);have s:(storeCells ⟨f.heap.size,0,none⟩ (ak a)).run prog (f.alloc (.cells bF 23))=.ok () g:=h.out ▸ je (heap_alloc_new f _) (by simp[bF];omega) (aY a);unfold bF at s;have i:av f g:=h.out ▸ below_setRow ((Below.refl _ _).alloc (AJ _) _) (AJ _) _;have v:Hid (g.heap[f.heap.size]?=some (.cells (ak a).toArray 23 (0,0))):=h.out ▸ setRow_heap _ _ _ _ _ _ (heap_alloc_new f _);have j:=AA (dz q i);have k:Hid (aL g c.heap.size 23 bF):=(i.block _ (aC w)).trans n;have p:=aQ r i;(have w:Hid (ax g 1 (some ⟨f.heap.size,0,none⟩) 32 (ak a)):=by have P:=kU v;rw[o.out]at P;exact P);clear i v h q n r;go_wp2_with (at_builtin;rw[bY 45];refine dD _ rfl (.tmp 43) (.tmp 44) 27 rfl (c.heap.size+1) 5 A (.int .u8 0) 1 1 AR B C D E rfl aR (.slice t 64 u) 64 (ak (gX 92 b)) rfl j (some ⟨f.heap.size,0,none⟩) 32 32 (ak a) rfl w (λe=>by cases e) (aY a) (by unfold maxLen;omega) ah k.lt ?_;intro γ N l;have h:Hid (aL N c.heap.size 23 bF):=(l.grow.block _ k.lt (λe=>by have:=jf j _ e.symm;omega)).trans k;have i:=AA<|l.below p p.size (λm K=>by have:=jf j _ K;omega);have g:=l.own;obtain⟨m,n,rfl,_,_,_,f,_⟩:=Own.reads g;replace f:Hid (ax N 1 m (64+32) (ak (gX 92 b++a))):=(by show ax _ _ _ _ _;simpa[ak]using f);clear l g j k p w);clear s;refine(oF (gX 92 b++a) (64+32) (by rw[List.length_append,lC,o.out]) m n N ah f).mono ?_;rintro e j ⟨rfl,g⟩;have e:=bf g h;have k:=aQ i g;clear g h i f;(have f:Hid (nR b d=bB (gX 92 b++a)):=by show _=_;rw[hs.out];rfl);rw[<-f.out];have a:=AA (bI (nR b d) (qp b d));(have f:(ak (nR b d)).length=32:=by rw[aB];exact qp b d);have f:(storeCells ⟨c.heap.size,0,none⟩ (ak (nR b d))).run prog j=.ok () (j.setRow c.heap.size (ak (nR b d)).toArray):=je e (by simp[bF];omega) (aY _);go_wp2_with fail;refine gI (setRow_heap _ _ _ _ _ _ e) a AB ?_;exact⟨rfl,below_setRow k (AJ _) _⟩
