import Derived.Test.YtgldkfaiofkhbaaGreatDoorZ18
import Derived.Shelf.SlSortCmp.WholeK
import Derived.Test.YtgldkfaiofkhbaaGreatDoorZ15
namespace Go.Proofs.YtgldkfaiofkhbaaGreatDoor
open Go Go.RowKit Go.Proofs.Tryz
set_option maxRecDepth 100000
set_option maxHeartbeats 4000000
theorem GQ{b:World}{c:Nat}{d:TypeId}{a:aj}(hx:a.length=64)(e:aL b c d (ak a).toArray):ax b 1 (some ⟨c,0,none⟩) 32 (ak (eZ a)):=by
 (have b:(eZ a).length=32:=by unfold eZ;rw[List.length_take];omega);refine aL.reads e 0 _ (by rw[aB,b]) (λc u a=>?_);rw[Nat.zero_add,List.getElem?_toArray]
 have d:c < 32:=by
  have:=(AU.1 a).1;rw[aB,b]at this;exact this
 unfold ak eZ at a;rw[List.map_take,List.getElem?_take,if_pos d]at a;exact a
theorem Hz(c d:aj)(hx:c.length=64)(g:d.length=64)(a:World):
  Calls prog 212 #[.agg (ak c).toArray,.agg (ak d).toArray] a λh b=>h=.returned (.int .i64 (oh (eZ c) (eZ d)))/\∃e,b=((a.alloc (.cells (ak c).toArray 57)).alloc (.cells (ak d).toArray 57)).drewN e:=by
 have i:aL ((a.alloc (.cells (ak c).toArray 57)).alloc (.cells (ak d).toArray 57)) a.heap.size 57 (ak c).toArray:=(aL.new a _ _).alloc _
 have j:aL ((a.alloc (.cells (ak c).toArray 57)).alloc (.cells (ak d).toArray 57)) (a.heap.size+1) 57 (ak d).toArray:=by
  have:=aL.new (a.alloc (.cells (ak c).toArray 57)) 57 (ak d).toArray;rwa[show(a.alloc (.cells (ak c).toArray 57)).heap.size=a.heap.size+1 by simp]at this
 have k:=AA (λe=>vN (eZ c) (eZ d) 32 32 (by unfold eZ;rw[List.length_take];omega) (by unfold eZ;rw[List.length_take];omega) (some ⟨a.heap.size,0,none⟩) (some ⟨a.heap.size+1,0,none⟩) 32 32 (((a.alloc (.cells (ak c).toArray 57)).alloc (.cells (ak d).toArray 57)).drewN e) (GQ hx i) (GQ g j))
 obtain⟨f,l⟩:∃f,oh (eZ c) (eZ d)=f:=⟨_,rfl⟩
 rw[l]at k ⊢
 have m:∀(f:Nat) (b:World),(Instr.sliceAt 23 (.pointer (some ⟨f,0,none⟩)) none none none).run prog b=.ok (.slice (some ⟨f,0,none⟩) 32 32) b:=λf b=>by
  (have f:prog.arrayLen 23=32:=by kernel_rfl);(have hs:(sizeOf (prog.elem 23)).run prog b=.ok 1 b:=by kernel_rfl);rw[run_sliceAt_array_all b 23 _ underlying23,hs];simp[Result.andThen,slicedAt,f];rfl
 clear l i j hx g
 go_enter func212,ntmps212
 go_upto_region 1 with fail
 refine cB (λb=>∃f,b=((a.alloc (.cells (ak c).toArray 57)).alloc (.cells (ak d).toArray 57)).drewN f) (⟨1,rfl⟩) ?_
 refine aG ?_
 refine bC (λb c=>m a.heap.size b) ?_
 refine aG ?_
 refine bC (λb c=>m (a.heap.size+1) b) ?_
 refine cZ func63 (λb c=>(by obtain⟨e,rfl⟩:=c;exact(k e).mono (λh c ⟨a,b⟩=>⟨a,e,b⟩))) ?_
 refine aG ?_
 refine bR ?_
 intro b a
 obtain⟨e,rfl⟩:=a
 go_wp2_with fail
 go_ret
 exact⟨rfl,e,rfl⟩
structure kD(w:World)(A:Option Addr)(n:Nat)(ss:List aj):Prop where
 len:ss.length=n
 all:∀t∈ss,t.length=64
 rd:ax w 64 A n (ss.flatMap ak)
theorem kD.below{w a:World}{A:Option Addr}{n:Nat}{b:List aj}(h:kD w A n b)(c:av w a):kD a A n b:=⟨h.len,h.all,h.rd.below c⟩
theorem Cg:∀(d:List aj),(∀a∈d,a.length=64)->∀(b:Nat) (a:aj) (c:Nat),d[b]?=some a->c < 64->(d.flatMap ak)[b*64+c]?=(ak a)[c]?
 | [],_,b,a,c,e,_=>by cases e
 | f :: d,g,b,a,c,e,h=>by
  (have hs:(ak f).length=64:=by rw[aB,g f aZ]);rw[List.flatMap_cons];cases b with
  | zero=>
   obtain rfl:f=a:=AL e;rw[Nat.zero_mul,Nat.zero_add,List.getElem?_append_left ah]
  | succ b=>
   rw[List.getElem?_append_right ah,hs,show(b+1)*64+c - 64=b*64+c by omega];exact Cg d (λa f=>g a (by simp[f])) b a c e h
theorem kD.at_{d:World}{g:Option Addr}{j:Nat}{e:List aj}(h:kD d g j e){i:Nat}{t:aj}(f:e[i]?=some t):∃a c,g=some ⟨a,c,none⟩/\a < d.heap.size/\∀b u,(ak t)[b]?=some u->d.cell? ⟨a,c+i*64+b,none⟩=some u:=by
 have d:=(AU.1 f).1;obtain⟨a,c,g,j,k⟩:=h.rd.at_ (aC h.len);refine⟨a,c,g,j,λb u d=>?_⟩
 have a:b < 64:=by
  have:=(AU.1 d).1;rw[aB,h.all t (List.mem_of_getElem? f)]at this;exact this
 rw[Nat.add_assoc];apply k;rw[Cg e h.all i t b f a];exact d
theorem Dh(a b:aj)(hx:a.length=64)(d:b.length=64)(c:World):
  bq 212 #[.agg (ak a).toArray,.agg (ak b).toArray] c (.int .i64 (oh (eZ a) (eZ b))):=
 (Hz a b hx d c).mono λh i ⟨e,f,g⟩=>⟨e,by rw[g];exact fI (((Below.refl _ c).alloc (AJ _) _).alloc aZ _) f⟩
theorem kK:(prog.info? 57).map (·.size)=some 64:=by kernel_rfl
theorem Kc(g:List aj)(h:Nat)(y:h < 140737488355328)(I:Option Addr)(W:Nat)(o:World)(i:kD o I h g):
  bq 213 #[.slice I h W] o (.bool (nu (ky:=eZ) g)):=by
 obtain⟨q,J⟩:=aS (nu (ky:=eZ) g)
 rw[J.out]
 replace i:=AA i
 have y:=AA y
 have K:Hid (nu (ky:=eZ) (g.drop (1 - 1))=q):=J
 go_enter func213,ntmps213
 go_wp2_with fail
 go_loopw [3] (λz wr=>∃a:Nat,z=.int .i64 (a:Int)/\Hid (1<=a)/\Hid (a<=h+1)/\Hid (nu (ky:=eZ) (g.drop (a - 1))=q)/\Hid (av o wr)) (λz _=>h+1 - (intOf z).toNat)
 case atStart=>exact⟨1,rfl,AJ _,Nat.le_add_left _ _,K,Below.refl _ _⟩
 case round=>
  clear K;obtain⟨a,rfl,L,X,A,c⟩:=hrel;have θ:(a:Int)<=140737488355328:=dn X y;by_cases t:a < h
  ·have Y:(a:Int) < (h:Int):=ah
   have ι:(0:Int)<=(a:Int):=ah;obtain⟨j,r⟩:=aS (a - 1);(have κ:IntKind.i64.wrap ((a:Int) - 1)=(j:Int):=by rw[IntWalk.i64_in _ ah];have:=r.out;have:=L.out;omega);have μ:(j:Int) < (h:Int):=aC r;have ν:(0:Int)<=(j:Int):=ah;obtain⟨b,hx⟩:∃b,Hid (g[j]?=some b):=⟨_,AV (by rw[i.out.len];have:=r.out;omega)⟩;obtain⟨d,B⟩:∃b,Hid (g[a]?=some b):=⟨_,AV (by rw[i.out.len];exact t)⟩;have C:=AA (i.all b (Ab hx));have D:=AA (i.all d (Ab B));obtain⟨l,m,M,n,N⟩:=i.at_ hx;obtain⟨ξ,ο,v,-,O⟩:=i.at_ B;rw[M]at v;(injection v with v);(injection v with Z α);subst Z α;subst M;(have P:=AA<|λe (E:av o e) k u (F:(ak b)[k]?=some u)=>(E.cell (p:=⟨l,m+j*64+k,none⟩) n).trans (N k u F));(have Q:=AA<|λe (E:av o e) k u (F:(ak d)[k]?=some u)=>(E.cell (p:=⟨l,m+a*64+k,none⟩) n).trans (O k u F));(have R:Hid ((prog.info? 57).map (·.size)=some (ak b).length):=by show _=_;rw[aB,C.out];exact kK);have S:Hid ((prog.info? 57).map (·.size)=some (ak d).length):=by show _=_;rw[aB,D.out];exact kK
   have T:Hid (nu (ky:=eZ) (g.drop (a - 1))=(aT (eZ b) (eZ d)&&nu (ky:=eZ) (g.drop a))):=by
    show _=_;rw[r.out];have w:a=j+1:=dn r L;have U:=B.out;rw[w]at U;rw[PY hx.out U,<-w]
   clear N O;have V:=AA t;clear t;go_upto_region 4 with fail;cases hl:aT (eZ b) (eZ d)with
   | true=>
    have x:Hid (oh (eZ b) (eZ d)=-1):=by show _=_;unfold oh;rw[if_pos hl]
    have β:Hid (nu (ky:=eZ) (g.drop (a+1 - 1))=q):=by
     show _=_;rw[Nat.add_sub_cancel,<-A.out,T.out,hl];rfl
    refine cB (aA wr) (aA.jD ((Below.refl _ _).drew)) ?_;(iterate 4 refine aG ?_);refine dh l ((m+j*64)) (ak b) (λe f=>P _ (c.trans (f.below.mono c.size))) R Af ?_;(iterate 3 refine aG ?_);refine dh l ((m+a*64)) (ak d) (λe f=>Q _ (c.trans (f.below.mono c.size))) S Af ?_;refine cZ func212 (λe f=>((Dh b d C D e).mono λw γ ⟨G,n⟩=>⟨by rw[G,x.out],f.next n⟩)) ?_;refine aG ?_;refine bR ?_;intro δ s;(have H:=AA<|c.trans (s.below.mono c.size));clear s;go_wp2_with fail;go_roundw
    case rel=>exact⟨a+1,by go_num,Nat.le_add_left _ _,Nat.succ_le_succ (BB V),β,H⟩
    case measure=>(have:=V.out;simp[intOf];omega)
   | false=>
    obtain⟨ε,x⟩:=aS (oh (eZ b) (eZ d))
    have ρ:(0:Int)<=ε:=by
     rw[<-x.out];unfold oh;rw[if_neg (by rw[hl];simp)]
     split<;>omega
    have ζ:Hid (q=false):=by
     show _=_;rw[<-A.out,T.out,hl];rfl
    refine cB (aA wr) (aA.jD ((Below.refl _ _).drew)) ?_;(iterate 4 refine aG ?_);refine dh l ((m+j*64)) (ak b) (λe f=>P _ (c.trans (f.below.mono c.size))) R Af ?_;(iterate 3 refine aG ?_);refine dh l ((m+a*64)) (ak d) (λe f=>Q _ (c.trans (f.below.mono c.size))) S Af ?_;refine cZ func212 (λe f=>((Dh b d C D e).mono λw γ ⟨G,n⟩=>⟨by rw[G,x.out],f.next n⟩)) ?_;refine aG ?_;refine bR ?_;intro δ s;(have H:=AA<|c.trans (s.below.mono c.size));clear s;go_wp2_with fail;go_ret;exact⟨by rw[ζ.out];rfl,H⟩
  ·have Y:¬((a:Int) < (h:Int)):=ah
   have η:Hid (q=true):=by
    show _=_;rw[<-A.out];exact PX (by rw[i.out.len];omega)
   clear t;go_wp2_with fail;go_ret;exact⟨by rw[η.out];rfl,c⟩
abbrev LK:Type:={t:aj // t.length=64}
instance t64_some:Inhabited LK:=⟨⟨List.replicate 64 0,by simp⟩⟩
def enc(x:LK):List Value:=ak x.val
def fH(d:Array LK):List aj:=d.toList.map (·.val)
def kR(ss:List aj)(h:∀t∈ss,t.length=64):Array LK:=(ss.attach.map λt=>(⟨t.val,h t.val t.property⟩:LK)).toArray
theorem LC(a:List aj)(c:∀b∈a,b.length=64):fH (kR a c)=a:=by
 unfold fH kR;rw[List.toList_toArray,List.map_map];show(a.attach.map λb=>b.val)=a;exact List.attach_map_subtype_val a
theorem TW(a:List aj)(b:∀c∈a,c.length=64):(kR a b).size=a.length:=by unfold kR;simp
theorem qy(a:Array LK):(fH a).length=a.size:=by unfold fH;simp
theorem yH(b:Array LK):∀a∈fH b,a.length=64:=λa b=>by
 obtain⟨a,-,rfl⟩:=Aq.1 b;exact a.property
theorem H8(a:Array LK){b:Nat}(c:b < a.size):(fH a)[b]?=some (a[b]!).val:=by
 unfold fH;rw[List.getElem?_map,Array.getElem?_toList,getElem!_pos a b c,Array.getElem?_eq_getElem c];rfl
theorem jS:∀(a:List aj),(∀b∈a,b.length=64)->(a.flatMap ak).length=a.length*64
 | [],_=>rfl
 | d :: a,c=>by
  rw[List.flatMap_cons,List.length_append,aB,c d aZ,jS a (λb e=>c b (by simp[e])),List.length_cons];omega
theorem VD(a:LK):(enc a).length=64:=by unfold enc;rw[aB,a.property]
theorem VB(a:LK):∀b∈enc a,b.oneCell'=true:=aY _
theorem O6(a:Array LK):Sort.flatK enc 64 a=((fH a).flatMap ak).toArray:=by
 (refine Sort.ext_get! ((Sort.size_flatK enc 64 a).trans (show a.size*64=((fH a).flatMap ak).length by rw[jS _ (yH a),qy])) λb c=>?_);rw[Sort.size_flatK]at c;rw[Sort.get_flatK _ _ _ _ c];have d:b / 64 < a.size:=ah;have c:=Cg (fH a) (yH a) (b / 64) (a[b / 64]!).val (b % 64) (H8 a d) ah;rw[show b / 64*64+b % 64=b by omega]at c
 have d:(enc a[b / 64]!)[b % 64]! =((ak (a[b / 64]!).val)[b % 64]?).getD default:=by
  unfold enc;rw[List.getElem!_eq_getElem?_getD]
 have e:(((fH a).flatMap ak).toArray)[b]! =(((fH a).flatMap ak)[b]?).getD default:=by
  rw[Array.getElem!_eq_getD,Array.getD_eq_getD_getElem?,List.getElem?_toArray]
 rw[d,e,c]
def Xe(x y:LK):Int:=oh (eZ x.val) (eZ y.val)
theorem qb(a b:LK):ltOf Xe a b=aT (eZ a.val) (eZ b.val):=by
 unfold ltOf Xe oh;cases h1:aT (eZ a.val) (eZ b.val)with
 | true=>simp
 | false=>
  cases h2:aT (eZ b.val) (eZ a.val)with
  | true=>simp
  | false=>simp
theorem Md:Sort.SWO (ltOf Xe) where
 irrefl x:=by rw[qb];exact gJ _
 trans x y z h1 h2:=by rw[qb]at*;exact gD _ _ _ h1 h2
 ntrans x y z h1 h2:=by rw[qb]at*;exact E9 _ _ _ h1 h2
theorem JW{a b:Array LK}(e:Sort.PermIn 0 a.size a b)(hs:Sort.SortedIn (ltOf Xe) 0 a.size b):(fH b).length=a.size/\(fH b).Perm (fH a)/\(fH b).Pairwise λc d=>aT (eZ d) (eZ c)=false:=by
 obtain⟨c,-,d⟩:=e;refine⟨by rw[qy,c],?_,?_⟩
 ·have e:b.extract 0 a.size=b:=by rw[<-c,Array.extract_size]
  have c:a.extract 0 a.size=a:=Array.extract_size;rw[e,c]at d;exact d.map _
 ·rw[List.pairwise_iff_getElem]
  intro e f a c g;rw[qy]at a c;have d:=hs e f (AX _) g ah;rw[qb]at d;have e:=H8 b a;have f:=H8 b c;rw[List.getElem?_eq_getElem (by rw[qy];exact a)]at e;rw[List.getElem?_eq_getElem (by rw[qy];exact c)]at f;rw[Option.some.inj e,Option.some.inj f];exact d
theorem yQ(a c:Array Value)(b:a.size<=c.size):(Sort.putCells id 0 a c).toList.take a.size=a.toList:=by
 apply List.ext_getElem?;intro d;rw[List.getElem?_take];by_cases b:d < a.size
 ·rw[if_pos b,Array.getElem?_toList,Array.getElem?_toList]
  unfold Sort.putCells;rw[Array.getElem?_mapIdx,Array.getElem?_eq_getElem (show d < c.size by omega),Array.getElem?_eq_getElem b,Option.map_some,if_pos ⟨Nat.zero_le _,ah⟩,Nat.sub_zero,getElem!_pos a d b];rfl
 ·rw[if_neg b,Array.getElem?_toList,Array.getElem?_eq_none ah]
theorem xk(b a:Array Value):(Sort.putCells id 0 b a).size=a.size:=by unfold Sort.putCells;simp
theorem yc{b:World}{a:Nat}{c:Array Value}{d:TypeId}(e:b.heap[a]?=some (.cells c d (0,0)))(g:Nat)(f:Array LK)(h:Array Obj):(sortWorldK enc 64 b a 0 g f h).heap[a]?=some (.cells (Sort.putCells id 0 (Sort.flatK enc 64 f) c) d (0,0)):=by
 have c:=(Ay.1 e).1;unfold sortWorldK Sort.putRowK Sort.putRow;rw[Sort.heap_grow_old _ _ (by unfold Sort.mapBlock;rw[Array.size_modify];exact c)];unfold Sort.mapBlock;rw[Array.getElem?_modify,if_pos rfl];show(b.heap[a]?).map _=_;rw[e];rfl
theorem Jt{a:World}{c b:Nat}(g:b<=c)(h:b<=a.heap.size)(d:Nat)(e:Array LK)(f:Array Obj):Below b a (sortWorldK enc 64 a c 0 d e f):=by
 refine⟨rfl,rfl,rfl,?_,λb c=>?_⟩
 ·unfold sortWorldK Sort.putRowK Sort.putRow
  rw[Sort.size_grow];unfold Sort.mapBlock;rw[Array.size_modify];exact Nat.le_add_right _ _
 ·unfold sortWorldK Sort.putRowK Sort.putRow
  rw[Sort.heap_grow_old _ _ (by unfold Sort.mapBlock;rw[Array.size_modify];show b < a.heap.size;omega)];unfold Sort.mapBlock;rw[Array.getElem?_modify,if_neg ah];rfl
theorem M6{c:World}{f b e d:Nat}{g:TypeId}{j:List aj}(k:c.ownsRow f g 64 (.slice (some ⟨d,0,none⟩) b e) b (j.flatMap ak))(h:Nat)(a:Array LK)(hd:a.size=b)(i:Array Obj):
  (sortWorldK enc 64 c d 0 h a i).ownsRow f g 64 (.slice (some ⟨d,0,none⟩) b e) b ((fH a).flatMap ak):=by
 refine⟨by rw[jS _ (yH a),qy,hd],?_⟩
 rcases k.2 with⟨f,-⟩ |⟨c,c2,l,f,m,n,g,o,j,p⟩
 ·cases f
 ·injection f with c _ k
  (injection c with c);(injection c with c);subst c k;refine .inr ⟨d,e,_,rfl,m,yc n h a i,g,o,by rw[xk];exact j,?_⟩;(have hF:(Sort.flatK enc 64 a).size=b*64:=by rw[Sort.size_flatK,hd]);have b:=Nat.mul_le_mul_right 64 g;have:=yQ (Sort.flatK enc 64 a) l (by rw[hF,j];exact b);rw[hF]at this;rw[this,O6]
theorem Qq{d:World}{m h n e:Nat}{i:TypeId}{b:List aj}(o:∀p∈b,p.length=64)(j:d.ownsRow m i 64 (.slice (some ⟨e,0,none⟩) h n) h (b.flatMap ak)):Sort.HoldsK enc 64 d e 0 (kR b o):=by
 intro a f;rw[O6,LC]at f ⊢
 rcases j.2 with⟨g,-⟩ |⟨u,c2,k,g,v,q,w,x,y,r⟩
 ·cases g
 ·injection g with c _ s
  (injection c with c);(injection c with c);subst c s;have t:a < (b.flatMap ak).length:=f;have l:aL d e i k:=q;rw[Nat.zero_add];refine⟨?_,l.frozen a⟩;rw[l.cell a]
  have:(b.flatMap ak)[a]?=k[a]?:=by
   rw[<-r,List.getElem?_take,Array.getElem?_toList,if_pos (aC j.1)]
  rw[<-this,getElem!_pos _ a f,List.getElem?_eq_getElem t];rfl
theorem NV(c d a:Nat)(e:World):CmpLays prog 212 #[] enc 64 Xe c d a e:=λf g h _ a b=>by
 (refine(Hz a.val b.val a.property b.property (sortWorldK enc 64 e c d f h g)).mono λj k i=>?_);obtain⟨c,d,e⟩:=i;refine⟨c,d,#[.cells (ak a.val).toArray 57,.cells (ak b.val).toArray 57],?_⟩;rw[e,Sort.alloc_eq_grow,Sort.alloc_eq_grow,Sort.grow_grow];rfl
def nI(ds:List aj):Prop:=∀d∈ds,d.length=64
theorem nI.oo{ds:List aj}(a:nI ds)(k:Nat):nI (ds.take k):=λb hd=>a b (CO hd)
theorem nI.Df{ds:List aj}(a:nI ds)(k:Nat):nI (ds.drop k):=λb hd=>a b (List.mem_of_mem_drop hd)
theorem nI.at_{ds:List aj}(h:nI ds){i:Nat}{d:aj}(a:ds[i]?=some d):d.length=64:=h d (Ab a)
theorem nI.append_{a b:List aj}(c:nI a)(d:nI b):nI (a++b):=λb hd=>by
 rcases Aj.1 hd with a | a
 ·exact c b a
 ·exact d b a
theorem nI.one{a:aj}(b:a.length=64):nI [a]:=λa hx=>by simp only[List.mem_singleton]at hx;rw[hx,b]
theorem nI.nil:nI []:=λ_ a=>by cases a
theorem qX:∀(ds:List aj) (a:Nat),nI ds->(ds.flatMap ak).take (a*64)=(ds.take a).flatMap ak
 | [],a,_=>by simp
 | b :: ds,0,_=>by simp
 | b :: ds,a+1,c=>by
  have d:=qX ds a (λe hx=>c e (List.mem_cons_of_mem _ hx));(have e:(ak b).length=64:=by rw[aB];exact c b (List.mem_cons_self ..));simp only[List.flatMap_cons,List.take_succ_cons];rw[List.take_append,e,List.take_of_length_le ah,show(a+1)*64 - 64=a*64 by omega,d]
theorem wI:∀(ds:List aj) (a:Nat),nI ds->(ds.flatMap ak).drop (a*64)=(ds.drop a).flatMap ak
 | [],a,_=>by simp
 | b :: ds,0,_=>by simp
 | b :: ds,a+1,c=>by
  have d:=wI ds a (λe hx=>c e (List.mem_cons_of_mem _ hx));(have e:(ak b).length=64:=by rw[aB];exact c b (List.mem_cons_self ..));simp only[List.flatMap_cons,List.drop_succ_cons];rw[List.drop_append,e,List.drop_of_length_le ah,show(a+1)*64 - 64=a*64 by omega,d,List.nil_append]
theorem mg(a:List aj):∀u∈a.flatMap ak,u.oneCell'=true:=by
 intro u a;obtain⟨b,-,c⟩:=List.mem_flatMap.1 a;exact aY b u c
section
variable {w w':World} {A:Option Addr} {n:Nat} {ds:List aj}
theorem kD.oI(w:World)(A:Option Addr):kD w A 0 []:=⟨rfl,(λ_ a=>by cases a),ax.oI _ _ _⟩
theorem kD.drewN(a:kD w A n ds)(b:Nat):kD (w.drewN b) A n ds:=⟨a.len,a.all,a.rd.drewN b⟩
theorem kD.oo(b:kD w A n ds)(k:Nat)(a:k<=n):kD w A k (ds.take k):=by
 have a:=b.len;have a:=nI.oo b.all k;(have c:(ds.take k).length=k:=by rw[List.length_take];omega);refine⟨c,a,by rw[jS _ a,c],λh0=>?_⟩;obtain⟨d,e,f,g,h⟩:=b.rd.2 ah;refine⟨d,e,f,g,λc u a=>h c u ?_⟩;rw[<-qX ds k b.all,List.getElem?_take]at a;by_cases b:c < k*64
 ·rw[if_pos b]at a;exact a
 ·rw[if_neg b]at a;cases a
def nE(A:Option Addr)(k c:Nat):Option Addr:=if c=k then A else A.map (·.add (k*64))
theorem kD.Df(a:kD w A n ds)(k c:Nat)(b:k<=n)(d:n<=c):kD w (nE A k c) (n - k) (ds.drop k):=by
 have b:=a.len;have b:=nI.Df a.all k;(have d:(ds.drop k).length=n - k:=by rw[List.length_drop];omega);refine⟨d,b,by rw[jS _ b,d],λh0=>?_⟩;obtain⟨b,d,e,f,g⟩:=a.rd.2 ah;subst e;refine⟨b,d+k*64,by unfold nE;rw[if_neg ah,Option.map_some,eD],f,λd u b=>?_⟩;rw[Nat.add_assoc];apply g;rw[<-wI ds k a.all,List.getElem?_drop]at b;exact b
end
theorem Ot(w:World):(sizeOf (prog.elem 37)).run prog w=.ok 64 w:=by kernel_rfl
theorem Uk:prog.underlying 37=some (.slice (prog.elem 37)):=by kernel_rfl
theorem sU{A:Option Addr}{n c k:Nat}(b:k<=c)(a:Int)(hx:a=k)(w:World):
  (Instr.sliceAt 37 (.slice A n c) none (some (.int .i64 a)) none).run prog w=.ok (.slice A k c) w:=by
 subst hx
 rw[run_sliceAt_slice w _ _ _ _ _ Uk,run_slice_h w _ A n c Uk .i64 (k:Int) ah ah,Ot]
 simp only[Result.andThen,sliced,Int.toNat_natCast,Nat.zero_mul,Nat.sub_zero]
 cases A with
 | none=>simp
 | some a=>simp[pW]
theorem GH{A:Option Addr}{n c k:Nat}(b:k<=n)(a:Int)(hx:a=k)(w:World):
  (Instr.sliceAt 37 (.slice A n c) (some (.int .i64 a)) none none).run prog w=.ok (.slice (nE A k c) (n - k) (c - k)) w:=by
 subst hx
 rw[run_sliceAt_slice w _ _ _ _ _ Uk,run_slice_l w _ A n c Uk .i64 (k:Int) ah ah,Ot]
 simp[Result.andThen,sliced,nE]
def kW:Array Value:=#[.int .u8 0,.int .u8 0,.int .u8 0,.int .u8 0,.int .u8 0,.int .u8 0,.int .u8 0,.int .u8 0,.int .u8 0,.int .u8 0,.int .u8 0,.int .u8 0,.int .u8 0,.int .u8 0,.int .u8 0,.int .u8 0,.int .u8 0,.int .u8 0,.int .u8 0,.int .u8 0,.int .u8 0,.int .u8 0,.int .u8 0,.int .u8 0,.int .u8 0,.int .u8 0,.int .u8 0,.int .u8 0,.int .u8 0,.int .u8 0,.int .u8 0,.int .u8 0,.int .u8 0,.int .u8 0,.int .u8 0,.int .u8 0,.int .u8 0,.int .u8 0,.int .u8 0,.int .u8 0,.int .u8 0,.int .u8 0,.int .u8 0,.int .u8 0,.int .u8 0,.int .u8 0,.int .u8 0,.int .u8 0,.int .u8 0,.int .u8 0,.int .u8 0,.int .u8 0,.int .u8 0,.int .u8 0,.int .u8 0,.int .u8 0,.int .u8 0,.int .u8 0,.int .u8 0,.int .u8 0,.int .u8 0,.int .u8 0,.int .u8 0,.int .u8 0]
theorem Fj:(prog.info? 57).map (λa=>(a.zero,a.size,a.bytes))=some (some (.agg kW),64,64):=by kernel_rfl
theorem bV{c:Program}{d:TypeId}{z:Value}{e f:Nat}(b:(c.info? d).map (λa=>(a.zero,a.size,a.bytes))=some (some z,e,f)):∃a:TypeInfo,c.info? d=some a/\a.zero=some z/\a.size=e/\a.bytes=f:=by
 cases hq:c.info? d with
 | none=>simp[hq]at b
 | some a=>
  simp[hq]at b;exact⟨a,rfl,b.1,b.2.1,b.2.2⟩
theorem Q0:((prog.info? 57).bind (·.zero)).isSome=true:=by kernel_rfl
def ji(w:World)(B:Nat)(v:Value)(n:Nat)(ds:List aj):Prop:=nI ds/\ds.length=n/\w.ownsRow B 57 64 v n (ds.flatMap ak)
theorem ji.nil(w:World)(a:Nat):ji w a (.slice none 0 0) 0 []:=⟨nI.nil,rfl,Aa _ _ _ _⟩
theorem ji.below{w w':World}{B n:Nat}{v:Value}{ds:List aj}(h:ji w B v n ds)(a:av w w'):ji w' B v n ds:=⟨h.1,h.2.1,dz h.2.2 a⟩
theorem ji.reads{w:World}{d n:Nat}{e:Value}{ds:List aj}(c:ji w d e n ds):∃A a,e=.slice A n a/\n<=a/\a<=maxLen/\(A=none->n=0/\a=0)/\kD w A n ds/\∀b,A=some b->d<=b.block:=by
 obtain⟨A,a,d,e,f,g,h,i⟩:=Own.reads c.2.2;exact⟨A,a,d,e,f,g,⟨c.2.1,c.1,h⟩,λb j=>(i b j).1⟩
theorem ji.base{w:World}{b c n:Nat}{d:Value}{ds:List aj}(a:ji w b d n ds)(e:c<=b):ji w c d n ds:=⟨a.1,a.2.1,cO a.2.2 e⟩
theorem Kz{w:World}{a n c:Nat}{A:Option Addr}{ds:List aj}(d:ji w a (.slice A n c) n ds)(e:0 < n):∃b,A=some ⟨b,0,none⟩:=by
 rcases d.2.2.2 with⟨a,c⟩ |⟨b,c2,e,a,-⟩
 ·omega
 ·injection a with a
  exact⟨b,a⟩
theorem lV{w w':World}{a n c:Nat}{d e:Value}{xs b:List aj}(f:rC w a 57 64 d n c (xs.flatMap ak) (b.flatMap ak) e w'){g:World}(h:Below a g w)(i:a<=w.heap.size)(hx:ji w a d n xs)(j:nI b)(k:b.length=c):
  ji w' a e (n+c) (xs++b)/\Below a g w':=by
 refine⟨⟨nI.append_ hx.1 j,by rw[List.length_append,hx.2.1,k],?_⟩,?_⟩
 ·have:=f.own
  rwa[<-List.flatMap_append]at this
 ·obtain⟨A,a,rfl,-,-,-,-,-⟩:=ji.reads hx
  exact f.below h i (jf hx.2.2)
def LU(t:aj):aj:=t.drop 32
theorem mU{a:aj}(b:a.length=64):(eZ a).length=32:=by unfold eZ;rw[List.length_take];omega
theorem DV{a:aj}(b:a.length=64):(LU a).length=32:=by unfold LU;rw[List.length_drop];omega
theorem Wl(a:aj):[eZ a,LU a].flatten=a:=by unfold eZ LU;simp
theorem uf{c:aj}{b:Nat}{u:Value}(a:(ak (eZ c))[b]?=some u):(ak c)[0+b]?=some u:=by
 unfold eZ ak at a;rw[List.map_take,List.getElem?_take]at a;rw[Nat.zero_add];by_cases c:b < 32
 ·rw[if_pos c]at a;exact a
 ·rw[if_neg c]at a;cases a
theorem Oo{b:aj}{c:Nat}{u:Value}(a:(ak (LU b))[c]?=some u):(ak b)[32+c]?=some u:=by
 unfold LU ak at a;rw[List.map_drop,List.getElem?_drop]at a;exact a
theorem OA(a:World){b:aj}(hx:b.length=64):kD (a.alloc (.cells ([ak b].flatten).toArray 57)) (some ⟨a.heap.size,0,none⟩) 1 [b]:=
 ⟨rfl,nI.one hx,aL.reads (aL.new a _ _) 0 _ (by rw[List.flatMap_cons,List.flatMap_nil,List.append_nil,aB,hx]) (λc u b=>by rw[Nat.zero_add,List.getElem?_toArray];simpa using b)⟩
def zD:aj:=List.replicate 64 0
def LM(w:World)(g:Nat)(ds:List aj):Prop:=aL w g 57 (ds.flatMap ak).toArray
theorem vH(b:List aj)(c:nI b)(a:Nat)(e:a < b.length)(d:aj):(b.flatMap ak).take (a*64)++ak d++(b.flatMap ak).drop (a*64+64)=(b.set a d).flatMap ak:=by
 rw[qX b a c,show a*64+64=(a+1)*64 by omega,wI b (a+1) c,List.set_eq_take_append_cons_drop,if_pos e,List.flatMap_append,List.flatMap_cons,List.append_assoc]
theorem DI:∀a,(List.replicate a zD).flatMap ak=List.replicate (a*64) (.int .u8 0)
 | 0=>rfl
 | a+1=>by
  (have b:ak zD=List.replicate 64 (.int .u8 0):=by unfold ak zD;rw[List.map_replicate];rfl);rw[List.replicate_succ,List.flatMap_cons,DI a,b,Nat.succ_mul,Nat.add_comm (a*64) 64,List.replicate_append_replicate]
theorem I7(a:Nat):(madeCells (Value.agg kW).cells (a*64)).toList=List.replicate (a*64) (.int .u8 0):=by
 have a:(Value.agg kW).cells=Array.replicate 64 (.int .u8 0):=rfl;rw[a];unfold madeCells;apply List.ext_getElem
 ·simp
 ·intro a b c
  have b:a % 64 < 64:=Nat.mod_lt _ ah;simp[b]
theorem nI.lD{a:List aj}(c:nI a)(d:Nat){b:aj}(hx:b.length=64):nI (a.set d b):=λb hd=>by
 rcases List.mem_or_eq_of_mem_set hd with a | a
 ·exact c b a
 ·rw[a];exact hx
theorem nI.P6(a:Nat){x:aj}(hx:x.length=64):nI (List.replicate a x):=λa hd=>by rw[List.eq_of_mem_replicate hd,hx]
theorem LM.rd{b:World}{c:Nat}{a:List aj}(d:LM b c a)(hd:nI a):kD b (some ⟨c,0,none⟩) a.length a:=
 ⟨rfl,hd,aL.reads d 0 _ (jS a hd) (λc u b=>by rw[Nat.zero_add,List.getElem?_toArray];exact b)⟩
theorem LM.below{w b:World}{a:Nat}{ds:List aj}(h:LM w a ds)(c:av w b):LM b a ds:=(c.block a (aL.lt h)).trans h
theorem LM.kept{w b:World}{a:Nat}{c:List aj}{S:Nat->Prop}(d:LM w a c)(e:au S w b)(f:¬S a):LM b a c:=aL.kept d e f
structure KD where
 q:aj
 A:Option Addr
 c:Nat
instance kd_some:Inhabited KD:=⟨⟨[],none,0⟩⟩
def jF(x:KD):aj:=iU x.q
theorem rV(a:KD):(jF a).length=32:=jI _
def iC(x:KD):List Value:=ak (jF x)++[.slice x.A x.q.length x.c]
theorem lX(a:KD):(iC a).length=33:=by unfold iC;rw[List.length_append,aB,rV];rfl
theorem zf(a:KD):∀b∈iC a,b.oneCell'=true:=λb a=>by
 rcases Aj.1 a with a | a
 ·exact aY _ b a
 ·simp only[List.mem_singleton]at a
  rw[a];rfl
theorem Jj{a:KD}{b:Nat}{u:Value}(c:(ak (jF a))[b]?=some u):(iC a)[b]?=some u:=by
 unfold iC;rw[List.getElem?_append_left (List.getElem?_eq_some_iff.1 c).1];exact c
theorem TB(a:KD):(iC a)[32]?=some (.slice a.A a.q.length a.c):=by
 unfold iC;rw[List.getElem?_append_right (by rw[aB,rV];exact Nat.le_refl _),aB,rV];rfl
theorem Ch:∀(a:List KD),(a.flatMap iC).length=a.length*33
 | []=>rfl
 | b :: a=>by
  rw[List.flatMap_cons,List.length_append,lX,Ch a,List.length_cons];omega
theorem Fx:∀(d:List KD) (b:Nat) (c:KD) (a:Nat),d[b]?=some c->a < 33->(d.flatMap iC)[b*33+a]?=(iC c)[a]?
 | [],b,c,a,e,_=>by simp at e
 | g :: d,0,c,a,e,f=>by
  (obtain rfl:g=c:=by simpa using e);rw[List.flatMap_cons,Nat.zero_mul,Nat.zero_add,List.getElem?_append_left (by rw[lX];exact f)]
 | g :: d,b+1,c,a,e,f=>by
  rw[List.flatMap_cons,List.getElem?_append_right (by rw[lX];omega),lX,show(b+1)*33+a - 33=b*33+a by omega];exact Fx d b c a (by simpa using e) f
theorem KZ(a:Array KD):Sort.flatK iC 33 a=(a.toList.flatMap iC).toArray:=by
 (refine Sort.ext_get! ((Sort.size_flatK iC 33 a).trans (show a.size*33=(a.toList.flatMap iC).length by rw[Ch,Array.length_toList])) λb c=>?_);rw[Sort.size_flatK]at c;rw[Sort.get_flatK _ _ _ _ c];have c:b / 33 < a.size:=ah;have d:=Fx a.toList (b / 33) a[b / 33]! (b % 33) (by rw[Array.getElem?_toList,getElem!_pos a _ c,Array.getElem?_eq_getElem c]) ah;rw[show b / 33*33+b % 33=b by omega]at d
 have c:(iC a[b / 33]!)[b % 33]! =((iC a[b / 33]!)[b % 33]?).getD default:=by
  rw[List.getElem!_eq_getElem?_getD]
 have e:((a.toList.flatMap iC).toArray)[b]! =((a.toList.flatMap iC)[b]?).getD default:=by
  rw[Array.getElem!_eq_getD,Array.getD_eq_getD_getElem?,List.getElem?_toArray]
 rw[c,e,d]
def Xf(x y:KD):Int:=oh (jF x) (jF y)
theorem I9(a b:KD):ltOf Xf a b=aT (jF a) (jF b):=by
 unfold ltOf Xf oh;cases h1:aT (jF a) (jF b)with
 | true=>simp
 | false=>
  cases h2:aT (jF b) (jF a)with
  | true=>simp
  | false=>simp
theorem Yk:Sort.SWO (ltOf Xf) where
 irrefl x:=by rw[I9];exact gJ _
 trans x y z h1 h2:=by rw[I9]at*;exact gD _ _ _ h1 h2
 ntrans x y z h1 h2:=by rw[I9]at*;exact E9 _ _ _ h1 h2
theorem JX{a b:Array KD}(e:Sort.PermIn 0 a.size a b)(hs:Sort.SortedIn (ltOf Xf) 0 a.size b):b.toList.length=a.size/\b.toList.Perm a.toList/\b.toList.Pairwise λc d=>aT (jF d) (jF c)=false:=by
 obtain⟨c,-,d⟩:=e;refine⟨by rw[Array.length_toList,c],?_,?_⟩
 ·have e:b.extract 0 a.size=b:=by rw[<-c,Array.extract_size]
  have c:a.extract 0 a.size=a:=Array.extract_size;rw[e,c]at d;exact d
 ·rw[List.pairwise_iff_getElem]
  intro a c d e g;rw[Array.length_toList]at d e;have f:=hs a c (AX _) g ah;rw[I9,getElem!_pos b a d,getElem!_pos b c e]at f;rw[Array.getElem_toList,Array.getElem_toList];exact f
theorem Je{b:World}{a:Nat}{c:Array Value}{d:TypeId}(e:b.heap[a]?=some (.cells c d (0,0)))(g:Nat)(f:Array KD)(h:Array Obj):(sortWorldK iC 33 b a 0 g f h).heap[a]?=some (.cells (Sort.putCells id 0 (Sort.flatK iC 33 f) c) d (0,0)):=by
 have c:=(Ay.1 e).1;unfold sortWorldK Sort.putRowK Sort.putRow;rw[Sort.heap_grow_old _ _ (by unfold Sort.mapBlock;rw[Array.size_modify];exact c)];unfold Sort.mapBlock;rw[Array.getElem?_modify,if_pos rfl];show(b.heap[a]?).map _=_;rw[e];rfl
theorem Ky{c:World}{f a e d:Nat}{g:TypeId}{j:List KD}(k:c.ownsRow f g 33 (.slice (some ⟨d,0,none⟩) a e) a (j.flatMap iC))(h:Nat)(b:Array KD)(hd:b.size=a)(i:Array Obj):
  (sortWorldK iC 33 c d 0 h b i).ownsRow f g 33 (.slice (some ⟨d,0,none⟩) a e) a (b.toList.flatMap iC):=by
 refine⟨by rw[Ch,Array.length_toList,hd],?_⟩
 rcases k.2 with⟨f,-⟩ |⟨c,c2,l,f,m,n,g,o,j,p⟩
 ·cases f
 ·injection f with c _ k
  (injection c with c);(injection c with c);subst c k;refine .inr ⟨d,e,_,rfl,m,Je n h b i,g,o,by rw[xk];exact j,?_⟩;(have hF:(Sort.flatK iC 33 b).size=a*33:=by rw[Sort.size_flatK,hd]);have a:=Nat.mul_le_mul_right 33 g;have:=yQ (Sort.flatK iC 33 b) l (by rw[hF,j];exact a);rw[hF]at this;rw[this,KZ]
theorem Ny{d:World}{m h n e:Nat}{i:TypeId}{c:List KD}(j:d.ownsRow m i 33 (.slice (some ⟨e,0,none⟩) h n) h (c.flatMap iC)):Sort.HoldsK iC 33 d e 0 c.toArray:=by
 intro a f;rw[KZ,List.toList_toArray]at f ⊢
 rcases j.2 with⟨g,-⟩ |⟨s,c2,k,g,t,o,u,v,w,p⟩
 ·cases g
 ·injection g with b _ q
  (injection b with b);(injection b with b);subst b q;have r:a < (c.flatMap iC).length:=f;have l:aL d e i k:=o;rw[Nat.zero_add];refine⟨?_,l.frozen a⟩;rw[l.cell a]
  have:(c.flatMap iC)[a]?=k[a]?:=by
   rw[<-p,List.getElem?_take,Array.getElem?_toList,if_pos (aC j.1)]
  rw[<-this,getElem!_pos _ a f,List.getElem?_eq_getElem r];rfl
def ol(w:World)(B:Nat)(v:Value)(n:Nat)(l:List KD):Prop:=l.length=n/\w.ownsRow B 142 33 v n (l.flatMap iC)
theorem ol.nil(a:World)(b:Nat):ol a b (.slice none 0 0) 0 []:=⟨rfl,Aa _ _ _ _⟩
theorem ol.below{w a:World}{B n:Nat}{v:Value}{b:List KD}(h:ol w B v n b)(c:av w a):ol a B v n b:=⟨h.1,dz h.2 c⟩
theorem ol.base{w:World}{a b n:Nat}{c:Value}{d:List KD}(e:ol w a c n d)(f:b<=a):ol w b c n d:=⟨e.1,cO e.2 f⟩
theorem zS{c:World}{d:Nat}{f:TypeId}{b:aj}{e:Array Value}(hx:b.length=32)(g:∀(a:Nat) (u:Value),(ak b)[a]?=some u->e[a]?=some u)(h:aL c d f e):ax c 1 (some ⟨d,0,none⟩) 32 (ak b):=by
 refine aL.reads h 0 _ (by rw[aB,hx]) (λa u b=>?_);rw[Nat.zero_add];exact g a u b
theorem RI{b:World}{c:Nat}{d:TypeId}{a:aj}(hd:a.length=32)(e:aL b c d (ak a).toArray):ax b 1 (some ⟨c,0,none⟩) 32 (ak a):=by
 refine aL.reads e 0 _ (by rw[aB,hd]) (λb u a=>?_);rw[Nat.zero_add,List.getElem?_toArray];exact a
theorem Qs(f g:aj)(hx:f.length=32)(h:g.length=32)(c d:Array Value)(i:∀(b:Nat) (u:Value),(ak f)[b]?=some u->c[b]?=some u)(j:∀(b:Nat) (u:Value),(ak g)[b]?=some u->d[b]?=some u)(a:World):
  Calls prog 62 #[.agg c,.agg d] a λk b=>k=.returned (.int .i64 (oh (f) (g)))/\∃e,b=((a.alloc (.cells c 142)).alloc (.cells d 142)).drewN e:=by
 have l:aL ((a.alloc (.cells c 142)).alloc (.cells d 142)) a.heap.size 142 c:=(aL.new a _ _).alloc _
 have m:aL ((a.alloc (.cells c 142)).alloc (.cells d 142)) (a.heap.size+1) 142 d:=by
  have:=aL.new (a.alloc (.cells c 142)) 142 d;rwa[show(a.alloc (.cells c 142)).heap.size=a.heap.size+1 by simp]at this
 have n:=AA (λe=>vN (f) (g) 32 32 hx h (some ⟨a.heap.size,0,none⟩) (some ⟨a.heap.size+1,0,none⟩) 32 32 (((a.alloc (.cells c 142)).alloc (.cells d 142)).drewN e) (zS hx i l) (zS h j m))
 obtain⟨o,p⟩:∃o,oh (f) (g)=o:=⟨_,rfl⟩
 rw[p]at n ⊢
 have g:∀(f:Nat) (b:World),(Instr.sliceAt 23 (.pointer (some ⟨f,0,none⟩)) none none none).run prog b=.ok (.slice (some ⟨f,0,none⟩) 32 32) b:=λf b=>by
  (have f:prog.arrayLen 23=32:=by kernel_rfl);(have hs:(sizeOf (prog.elem 23)).run prog b=.ok 1 b:=by kernel_rfl);rw[run_sliceAt_array_all b 23 _ underlying23,hs];simp[Result.andThen,slicedAt,f];rfl
 clear p l m i j hx h
 go_enter func62,ntmps62
 go_upto_region 1 with fail
 refine cB (λb=>∃f,b=((a.alloc (.cells c 142)).alloc (.cells d 142)).drewN f) (⟨1,rfl⟩) ?_
 refine aG ?_
 refine bC (λb c=>g a.heap.size b) ?_
 refine aG ?_
 refine bC (λb c=>g (a.heap.size+1) b) ?_
 refine cZ func63 (λb c=>(by obtain⟨e,rfl⟩:=c;exact(n e).mono (λk c ⟨a,b⟩=>⟨a,e,b⟩))) ?_
 refine aG ?_
 refine bR ?_
 intro b a
 obtain⟨e,rfl⟩:=a
 go_wp2_with fail
 go_ret
 exact⟨rfl,e,rfl⟩
theorem Qy(f:aj)(hx:f.length=32)(d:Array Value)(h:∀(b:Nat) (u:Value),(ak f)[b]?=some u->d[b]?=some u)(c:aj)(g:c.length=32)(a:World):
  Calls prog 215 #[.agg d,.agg (ak c).toArray] a λi b=>i=.returned (.int .i64 (oh (f) (c)))/\∃e,b=((a.alloc (.cells d 142)).alloc (.cells (ak c).toArray 23)).drewN e:=by
 have j:aL ((a.alloc (.cells d 142)).alloc (.cells (ak c).toArray 23)) a.heap.size 142 d:=(aL.new a _ _).alloc _
 have k:aL ((a.alloc (.cells d 142)).alloc (.cells (ak c).toArray 23)) (a.heap.size+1) 23 (ak c).toArray:=by
  have:=aL.new (a.alloc (.cells d 142)) 23 (ak c).toArray;rwa[show(a.alloc (.cells d 142)).heap.size=a.heap.size+1 by simp]at this
 have l:=AA (λe=>vN (f) (c) 32 32 hx g (some ⟨a.heap.size,0,none⟩) (some ⟨a.heap.size+1,0,none⟩) 32 32 (((a.alloc (.cells d 142)).alloc (.cells (ak c).toArray 23)).drewN e) (zS hx h j) (RI g k))
 obtain⟨m,n⟩:∃m,oh (f) (c)=m:=⟨_,rfl⟩
 rw[n]at l ⊢
 have m:∀(f:Nat) (b:World),(Instr.sliceAt 23 (.pointer (some ⟨f,0,none⟩)) none none none).run prog b=.ok (.slice (some ⟨f,0,none⟩) 32 32) b:=λf b=>by
  (have f:prog.arrayLen 23=32:=by kernel_rfl);(have hs:(sizeOf (prog.elem 23)).run prog b=.ok 1 b:=by kernel_rfl);rw[run_sliceAt_array_all b 23 _ underlying23,hs];simp[Result.andThen,slicedAt,f];rfl
 clear n j k h hx g
 go_enter func215,ntmps215
 go_upto_region 1 with fail
 refine cB (λb=>∃f,b=((a.alloc (.cells d 142)).alloc (.cells (ak c).toArray 23)).drewN f) (⟨1,rfl⟩) ?_
 refine aG ?_
 refine bC (λb c=>m a.heap.size b) ?_
 refine bC (λb c=>m (a.heap.size+1) b) ?_
 refine cZ func63 (λb c=>(by obtain⟨e,rfl⟩:=c;exact(l e).mono (λi c ⟨a,b⟩=>⟨a,e,b⟩))) ?_
 refine aG ?_
 refine bR ?_
 intro b a
 obtain⟨e,rfl⟩:=a
 go_wp2_with fail
 go_ret
 exact⟨rfl,e,rfl⟩
theorem FB(b:KD):∀(a:Nat) (u:Value),(ak (jF b))[a]?=some u->(iC b).toArray[a]?=some u:=λa u b=>by
 rw[List.getElem?_toArray];exact Jj b
theorem KW(a b:KD)(c:World):
  Calls prog 62 #[.agg (iC a).toArray,.agg (iC b).toArray] c λd e=>d=.returned (.int .i64 (oh (jF a) (jF b)))/\∃f,e=((c.alloc (.cells (iC a).toArray 142)).alloc (.cells (iC b).toArray 142)).drewN f:=
 Qs (jF a) (jF b) (rV a) (rV b) (iC a).toArray (iC b).toArray (FB a) (FB b) c
theorem Jd(a b d:Nat)(c:World):CmpLays prog 62 #[] iC 33 Xf a b d c:=λf g h _ d e=>by
 (refine(KW d e (sortWorldK iC 33 c a b f h g)).mono λj k i=>?_);obtain⟨a,b,c⟩:=i;refine⟨a,b,#[.cells (iC d).toArray 142,.cells (iC e).toArray 142],?_⟩;rw[c,Sort.alloc_eq_grow,Sort.alloc_eq_grow,Sort.grow_grow];rfl
theorem sF(a:KD)(b:aj)(d:b.length=32)(c:World):
  bq 215 #[.agg (iC a).toArray,.agg (ak b).toArray] c (.int .i64 (oh (jF a) b)):=
 (Qy (jF a) (rV a) (iC a).toArray (FB a) b d c).mono λh i ⟨e,f,g⟩=>⟨e,by rw[g];exact fI (((Below.refl _ c).alloc (AJ _) _).alloc aZ _) f⟩
theorem UJ{P:Program}{a:Operand->Value}{d:Oper}{b:FuncId}{c:Func}{e:Operand}{args:Array Value}(f:Array Operand)(g:Array TypeId)(h:d.op=.call {callee:=.value e,args:=f,argTypes:=g})(hx:a e=.func (.func b) #[] #[])(i:(f.toList.map a).toArray=args)
  (f:P.funcs[b]?=some c)(g:(c.name== "runtime.NumGoroutine")=false)(j:c.body.isNone=false)(e:World):(execOp a d).run P e=.ok (.enter b args) e:=by
 subst i
 have a:=Mx (P:=P) f g j
 simp[execOp,h,hx,resolve,invoke,a,go_sem]
 rw[<-Array.toList_map]
theorem RN{b:Program}{i:List Oper}{a:List Value}{c:List Deferred}{rest:List Oper}{d:Oper}{e:World->Prop}{k:Act->Prop}{v:Value}{f:FuncId}{h:Func}{g:Operand}{args:Array Value}(m:lG d.guard i a=true)(j:Array Operand)(l:Array TypeId)(n:d.op=.call {callee:=.value g,args:=j,argTypes:=l})(hx:(Act.mk a.toArray c).eval g=.func (.func f) #[] #[])(o:(j.toList.map (Act.mk a.toArray c).eval).toArray=args)
  (p:b.funcs[f]?=some h)(q:(h.name== "runtime.NumGoroutine")=false)(r:h.body.isNone=false)(s:∀g,e g->Calls b f args g λt u=>t=.returned v/\e u)
  (t:∀K:Act->Prop,(∀h,jX (wpQuiet b i.toArray e k rest h)->K h)->K ((Act.mk a.toArray c).put d.dst v)):jX (wpQuiet b i.toArray e k (d :: rest) ⟨a.toArray,c⟩):=
 ⟨yD (jY m) (λg=>UJ j l n hx o p q r g) s (λK a=>t K λh b=>a h b.out)⟩
structure VX(ss:List aj)(x:aj)(i:Nat)(f:Bool):Prop where
 le:i<=ss.length
 low:∀y∈ss.take i,aT (eZ y) (eZ x)=true
 high:∀y∈ss.drop i,aT (eZ y) (eZ x)=false
 found:f=decide ((ss[i]?).map eZ=some (eZ x))
theorem VH{a b:aj}(c:aT a b=true):oh a b=-1:=by unfold oh;rw[if_pos c]
theorem Lf{a b:aj}(d:aT a b=false):0<=oh a b/\(oh a b=0↔a=b):=by
 unfold oh;rw[if_neg (by rw[d];simp)];by_cases c:aT b a=true
 ·rw[if_pos c]
  exact⟨by decide,⟨λa=>(by cases a),λa=>absurd a.symm (qP c)⟩⟩
 ·rw[if_neg c]
  exact⟨by decide,⟨λ_=>oJ _ _ d (by simpa using c),λ_=>rfl⟩⟩
theorem Cw:(prog.info? 142).map (·.size)=some 33:=by kernel_rfl
theorem Uw:(prog.info? 23).map (·.size)=some 32:=by kernel_rfl
structure wS(ss:List KD)(x:aj)(i:Nat)(f:Bool):Prop where
 le:i<=ss.length
 low:∀y∈ss.take i,aT (jF y) x=true
 high:∀y∈ss.drop i,aT (jF y) x=false
 found:f=decide ((ss[i]?).map jF=some x)
theorem Sm{c:List KD}{d:aj}{e:Nat}(f:∀b a,b < e->c[b]?=some a->aT (jF a) d=true):∀a∈c.take e,aT (jF a) d=true:=λa c=>by
 obtain⟨b,d,e⟩:=List.getElem_of_mem c;rw[List.length_take]at d;refine f b a ah ?_;rw[<-e,List.getElem_take,List.getElem?_eq_getElem ah]
theorem Qr{d:List KD}{e:aj}{c:Nat}(f:∀b a,c<=b->d[b]?=some a->aT (jF a) e=false):∀a∈d.drop c,aT (jF a) e=false:=λa d=>by
 obtain⟨b,e,g⟩:=List.getElem_of_mem d;rw[List.length_drop]at e;refine f (c+b) a ah ?_;rw[<-g,List.getElem_drop,List.getElem?_eq_getElem ah]
theorem Er{a:List KD}(hs:bN jF a){b c:Nat}{d e:KD}(f:b < c)(g:a[b]?=some d)(h:a[c]?=some e):aT (jF d) (jF e)=true:=by
 obtain⟨a,rfl⟩:=AU.1 g;obtain⟨a,rfl⟩:=AU.1 h;exact Ep hs f a
theorem Ui{b:List KD}(hs:bN jF b){d:aj}{e:KD}{c:Nat}(f:b[c]?=some e)(g:aT (jF e) d=true):∀a z,a < c+1->b[a]?=some z->aT (jF z) d=true:=λa z d b=>by
 by_cases d:a=c
 ·subst d
  rw[f]at b;obtain rfl:=AL b;exact g
 ·exact gD _ _ _ (Er hs ah b f) g
theorem Q8{b:List KD}(hs:bN jF b){c:aj}{e:KD}{d:Nat}(f:b[d]?=some e)(g:aT (jF e) c=false):∀a z,d<=a->b[a]?=some z->aT (jF z) c=false:=λa z e b=>by
 by_cases e:a=d
 ·subst e
  rw[f]at b;obtain rfl:=AL b;exact g
 ·cases hq:aT (jF z) c with
  | false=>rfl
  | true=>
   have:=gD _ _ _ (Er hs ah f b) hq;rw[g]at this;cases this
structure VU(w:World)(A:Option Addr)(n:Nat)(l:List KD):Prop where
 len:l.length=n
 rd:ax w 33 A n (l.flatMap iC)
theorem VU.below{w a:World}{A:Option Addr}{n:Nat}{b:List KD}(h:VU w A n b)(c:av w a):VU a A n b:=⟨h.len,h.rd.below c⟩
theorem VU.at_{d:World}{e:Option Addr}{f:Nat}{l:List KD}(h:VU d e f l){i:Nat}{x:KD}(hx:l[i]?=some x):∃a c,e=some ⟨a,c,none⟩/\a < d.heap.size/\∀(b:Nat) (u:Value),(iC x)[b]?=some u->d.cell? ⟨a,c+i*33+b,none⟩=some u:=by
 have d:=(AU.1 hx).1;obtain⟨a,c,e,f,g⟩:=h.rd.at_ (aC h.len);refine⟨a,c,e,f,λb u d=>?_⟩
 have a:b < 33:=by
  have:=(AU.1 d).1;rw[lX]at this;exact this
 rw[Nat.add_assoc];apply g;rw[Fx l i x b hx a];exact d
def JD(ss:List KD)(x:aj)(w:World)(e:Ending)(w':World):Prop:=∃(i:Nat) (f:Bool),e=.returned (.tuple #[.int .i64 (i:Int),.bool f])/\wS ss x i f/\av w w'
theorem TP(l:List KD)(n:Nat)(ω:n<=1099511627776)(ε:bN jF l)(d:aj)(O:d.length=32)(ζ:Option Addr)(Γ:Nat)(x:World)(J:VU x ζ n l):
  Calls prog 214 #[.slice ζ n Γ,.agg (ak d).toArray,.func (.func 215) #[] #[]] x (JD l d x):=by
 obtain⟨E,P⟩:∃E,x.alloc (.cells (ak d).toArray 23)=E:=⟨_,rfl⟩
 have Δ:Hid (aL E x.heap.size 23 (ak d).toArray):=P ▸ aL.new _ _ _
 have η:Hid (av x E):=P ▸ Below.aJ x _
 have Θ:=AA (J.below η)
 have Ä:=AA ω
 have θ:=AA ε
 have Q:=AA O
 have F:=AA J.len
 have R:Hid ((prog.info? 23).map (·.size)=some (ak d).toArray.size):=Uw.trans (congrArg some (by rw[List.size_toArray,aB,O]))
 have ι:Hid (∀i b,i < 0->l[i]?=some b->aT (jF b) d=true):=λi b κ=>absurd κ (CP i)
 have μ:Hid (∀i b,n<=i->l[i]?=some b->aT (jF b) d=false):=λi b κ q=>by
  have:=(AU.1 q).1;have:=J.len;omega
 clear J ε O
 go_enter func214,ntmps214
 go_wp2_with fail
 clear P
 go_loopw [9,10] (λS T wr=>∃c e:Nat,S=.int .i64 (c:Int)/\T=.int .i64 (e:Int)/\Hid (c<=e)/\Hid (e<=n)/\Hid (∀i b,i < c->l[i]?=some b->aT (jF b) d=true)/\Hid (∀i b,e<=i->l[i]?=some b->aT (jF b) d=false)/\Hid (av E wr)) (λS T _=>(intOf T).toNat - (intOf S).toNat)
 case atStart=>exact⟨0,n,rfl,rfl,AX _,AJ _,ι,μ,Below.refl _ _⟩
 case round=>
  clear ι μ;obtain⟨c,e,rfl,rfl,ν,r,ξ,U,k⟩:=hrel;have Å:(c:Int)<=1099511627776:=dn ν r;have Æ:(e:Int)<=1099511627776:=aC r;have Ç:(0:Int)<=(c:Int):=ah;have È:(0:Int)<=(e:Int):=ah;have ο:=AA (Θ.below k);have B:=bf k Δ;by_cases V:c < e
  ·have Ξ:(c:Int) < (e:Int):=ah
   obtain⟨h,ρ⟩:=aS ((c+e) / 2);(have o:Hid (c<=h/\h < e):=by show _/\_;have:=ρ.out;omega);have É:=AO ((c:Int)+(e:Int)) ah;have Ê:IntKind.u64.wrap ((c:Int)+(e:Int))=(c:Int)+(e:Int):=dX _ ah ah;have Ë:((c:Int)+(e:Int)) / 2=(h:Int):=aC ρ;have Ì:=AO (h:Int) (aC o);have Í:IntKind.u64.wrap (h:Int)=(h:Int):=dX _ ah (aC o);have Î:(h:Int) < (n:Int):=dn o r;have Ï:(0:Int)<=(h:Int):=ah;have Ð:(h:Int)<=1099511627776:=aC o;obtain⟨b,q⟩:∃b,Hid (l[h]?=some b):=⟨_,AV (by rw[F.out];have:=o.out;have:=r.out;omega)⟩;obtain⟨j,s⟩:=aS (iC b);obtain⟨C,D,W,X,y⟩:=ο.at_ q;subst W;rw[s.out]at y;(have L:=AA<|λa (Y:av wr a) z u (Z:j[z]?=some u)=>(Y.cell (p:=⟨C,D+h*33+z,none⟩) X).trans (y z u Z));(have M:Hid ((prog.info? 142).map (·.size)=some j.length):=by show _=_;rw[<-s.out,lX];exact Cw);have σ:=AA V;clear y V;go_upto_region 5 with fail;cases hl:aT (jF b) d with
   | true=>
    (have A:=AA<|VH hl);(have G:Hid (∀a,bq 215 #[.agg j.toArray,.agg (ak d).toArray] a (.int .i64 (-1))):=λa=>by rw[<-s.out,<-A.out];exact sF b d Q a);have Φ:=AA (Ui θ q hl);clear hl;refine cB (aA wr) (aA.jD ((Below.refl _ _).drew)) ?_;(iterate 4 refine aG ?_);refine dh C ((D+h*33)) (j) (λa g=>L a g.below) M CG ?_;refine gu (λa g=>(g.below.block _ B.lt).trans B) R AB ?_;refine RN (v:=.int .i64 (-1)) (f:=215) (args:=#[.agg j.toArray,.agg (ak d).toArray]) rfl _ _ rfl rfl rfl func215 bH bH (λa g=>((G a).mono λH τ ⟨I,k⟩=>⟨I,g.next k⟩)) ?_;(intro K t;go_simp;refine t _ ?_;clear t K);refine aG ?_;refine bR ?_;intro α m;(have β:=AA<|k.trans (m.below.mono k.size));clear m;go_wp2_with fail;go_roundw
    case rel=>exact⟨h+1,e,by go_num,rfl,o.2,r,Φ,U,β⟩
    case measure=>(have:=o.out;have:=σ.out;simp[intOf];omega)
   | false=>
    obtain⟨w,A⟩:=aS (oh (jF b) d);(have G:Hid (∀a,bq 215 #[.agg j.toArray,.agg (ak d).toArray] a (.int .i64 w)):=λa=>by rw[<-s.out,<-A.out];exact sF b d Q a);have Ñ:(0:Int)<=w:=A.out ▸ (Lf hl).1;have Ψ:=AA (Q8 θ q hl);clear hl;refine cB (aA wr) (aA.jD ((Below.refl _ _).drew)) ?_;(iterate 4 refine aG ?_);refine dh C ((D+h*33)) (j) (λa g=>L a g.below) M CG ?_;refine gu (λa g=>(g.below.block _ B.lt).trans B) R AB ?_;refine RN (v:=.int .i64 w) (f:=215) (args:=#[.agg j.toArray,.agg (ak d).toArray]) rfl _ _ rfl rfl rfl func215 bH bH (λa g=>((G a).mono λH τ ⟨I,k⟩=>⟨I,g.next k⟩)) ?_;(intro K t;go_simp;refine t _ ?_;clear t K);refine aG ?_;refine bR ?_;intro α m;(have β:=AA<|k.trans (m.below.mono k.size));clear m;go_wp2_with fail;go_roundw
    case rel=>exact⟨c,h,rfl,by go_num,o.1,BB (Ad o.2 r),ξ,Ψ,β⟩
    case measure=>(have:=o.out;have:=σ.out;simp[intOf];omega)
  ·have Ξ:¬((c:Int) < (e:Int)):=ah
   obtain rfl:c=e:=aC ν;have N:=aQ η k;have υ:=AA (Sm ξ);have φ:=AA (Qr U);clear V;go_upto_region 8 with fail;by_cases γ:c < n
   ·have Ω:(c:Int) < (n:Int):=ah
    obtain⟨b,q⟩:∃b,Hid (l[c]?=some b):=⟨_,AV (F.out ▸ γ)⟩;obtain⟨j,s⟩:=aS (iC b);obtain⟨C,D,W,X,y⟩:=ο.at_ q;subst W;rw[s.out]at y;(have L:=AA<|λa (Y:av wr a) z u (Z:j[z]?=some u)=>(Y.cell (p:=⟨C,D+c*33+z,none⟩) X).trans (y z u Z));(have M:Hid ((prog.info? 142).map (·.size)=some j.length):=by show _=_;rw[<-s.out,lX];exact Cw);have χ:=U c b (AJ _) q;obtain⟨w,A⟩:=aS (oh (jF b) d);have G:Hid (∀a,bq 215 #[.agg j.toArray,.agg (ak d).toArray] a (.int .i64 w)):=λa=>by rw[<-s.out,<-A.out];exact sF b d Q a
    have À:Hid ((w==0)=decide ((l[c]?).map jF=some d)):=by
     show _=_;rw[q.out,<-A.out];have H:=(Lf χ).2;by_cases p:jF b=d
     ·rw[H.2 p,Option.map_some,p];simp
     ·rw[Option.map_some,decide_eq_false (by simpa using p)];simp;exact λÁ=>p (H.1 Á)
    obtain⟨Â,ψ⟩:=aS ((w==0));have Ò:=ψ.out;clear y χ γ;refine cB (aA wr) (aA.jD ((Below.refl _ _).drew)) ?_;(iterate 9 refine aG ?_);refine dh C ((D+c*33)) (j) (λa g=>L a g.below) M CG ?_;refine gu (λa g=>(g.below.block _ B.lt).trans B) R AB ?_;refine RN (v:=.int .i64 w) (f:=215) (args:=#[.agg j.toArray,.agg (ak d).toArray]) rfl _ _ rfl rfl rfl func215 bH bH (λa g=>((G a).mono λH τ ⟨I,k⟩=>⟨I,g.next k⟩)) ?_;(intro K t;go_simp;refine t _ ?_;clear t K);(iterate 4 refine aG ?_);refine bR ?_;intro α m;have δ:=AA m.below;clear m;go_wp2_with fail;go_ret2;unfold JD;exact⟨c,Â,rfl,⟨by rw[F.out];have:=r.out;exact this,υ,φ,by rw[<-ψ.out,À.out]⟩,N.trans (δ.mono N.size)⟩
   ·have Ω:¬((c:Int) < (n:Int)):=ah
    (have Ã:Hid (decide ((l[c]?).map jF=some d)=false):=by show _=_;rw[List.getElem?_eq_none (by rw[F.out];omega)];simp);clear γ;refine cB (aA wr) (aA.jD ((Below.refl _ _).drew)) ?_;(iterate 16 refine aG ?_);refine bR ?_;intro α m;have δ:=AA m.below;clear m;go_wp2_with fail;go_ret2;unfold JD;exact⟨c,false,rfl,⟨by rw[F.out];exact r,υ,φ,by rw[Ã.out]⟩,N.trans (δ.mono N.size)⟩
theorem F4{P:Program}(b:World)(l o p g:TypeId)(h e c i q:Nat)(j:Addr)(k r:Nat)(d:Array Value)(m:TypeId)(a:List Value)
  (s:P.underlying l=some (.slice g))(hs:(P.info? g).map (·.size)=some h)
  (t:b.heap[e]?=some (.cells d m (0,0)))(u:a.length=Nat.min k i*h)
  (v:∀n f,a[n]?=some f->b.cell? (j.add n)=some f)(w:c+a.length<=d.size)(x:∀f∈a,f.oneCell'=true):
  (Builtin.copy_ #[l,o] p #[.slice (some ⟨e,c,none⟩) i q,.slice (some j) k r]).run P b=
   .ok (goInt (Nat.min k i)) (b.setRow e (d.toList.take c++a++d.toList.drop (c+a.length)).toArray):=by
 have f:=run_loadCells_list (P:=P) b j a v
 have i:=run_storeCells_at P e c m a 0 d b t (by simpa using w) x
 cases hq:P.info? g with
 | none=>simp[hq]at hs
 | some a=>
  (have b:a.size=h:=by simpa[hq]using hs);rw[u]at f;simp[Builtin.copy_,run_underlying s,Builtin.lenOf,Builtin.firstCells,sizeOf,typeInfo,hq,b,f,i]
theorem EG{P:Program}(a:World)(c h i b:TypeId)(j:Nat)(d e:Option Addr)(f k g l:Nat)(m:P.underlying c=some (.slice b))(hs:(P.info? b).map (·.size)=some j)(n:Nat.min g f=0):
  (Builtin.copy_ #[c,h] i #[.slice d f k,.slice e g l]).run P a=.ok (goInt 0) a:=by
 cases hq:P.info? b with
 | none=>simp[hq]at hs
 | some b=>
  (have c:∀(b:Addr),(loadCells b 0).run P a=.ok #[] a:=λb=>by simpa using run_loadCells_list (P:=P) a b [] aZ);cases d<;>cases e<;>simp[Builtin.copy_,run_underlying m,Builtin.lenOf,Builtin.firstCells,sizeOf,typeInfo,hq,n,storeCells,c]
theorem rF{P:Program}{a:World}{v:Array Oper}{rest:List Oper}{o:Oper}{h:Act}{w:Exit->Act->World->Prop}(C:o.guard=none)(b e:Operand)(i n:TypeId)
  (x:o.op=.call {callee:=.builtin .copy,args:=#[b,e],argTypes:=#[i,n]})(j:TypeId)(f:Nat)(y:P.underlying i=some (.slice j))(z:(P.info? j).map (·.size)=some f)
  (p:Option Addr)(k q l r:Nat)(c d:Nat)(hd:h.eval b=.slice (some ⟨c,d,none⟩) k q)(hs:h.eval e=.slice p l r)
  (e:Array Value)(m:TypeId)(s:aL a c m e)(g:Nat)(t:Nat.min l k=g)(b:List Value)(A:b.length=g*f)(D:ax a f p l b)(E:g=l)(F:0 < f)
  (G:d+b.length<=e.size)(H:∀l∈b,l.oneCell'=true)
  (B:∀u,Hid (aL u c m (e.toList.take d++b++e.toList.drop (d+b.length)).toArray)->au (·=c) a u->wpList P v w rest (h.put o.dst (goInt g)) u):
  wpList P v w (o :: rest) h a:=by
 refine wpList_plain C λK u=>?_
 subst E
 by_cases h0:g=0
 ·subst h0
  obtain rfl:b=[]:=Ap (by simpa using A);have h:=EG (P:=P) a i n o.type j f (some ⟨c,d,none⟩) p k q 0 r y z t;unfold Oper.wp;simp[execOp,x,resolve,invoke,builtin,hd,hs,h,Result.andThen];exact u _ _ (B a (show aL _ _ _ _ by simpa using s) (au.refl _ a))
 ·obtain⟨p,v,rfl,C,w⟩:=D.2 (Nat.mul_pos ah F)
  have h:=F4 (P:=P) a i n o.type j f c d k q ⟨p,v,none⟩ g r e m b y z s (by rw[t];exact A) (λf l g=>by rw[eD];exact w f l g) G H;rw[t]at h;unfold Oper.wp;simp[execOp,x,resolve,invoke,builtin,hd,hs,h,Result.andThen];exact u _ _ (B _ (by show aL _ _ _ _;unfold aL;simpa using setRow_heap a c e (e.toList.take d++b++e.toList.drop (d+b.length)).toArray m (0,0) s) (au.setRow (S:=(·=c)) (au.refl _ a) rfl _))
theorem rM{P:Program}(d:World)(e b:Nat)(g f:TypeId)(c a:Array Value)(i:aL d e g c)(h:(P.info? f).map (·.size)=some a.size)
  (j:b+a.size<=c.size)(k:a.all (·.oneCell')=true):
  (storeVar f ⟨e,b,none⟩ (.agg a)).run P d=.ok () (d.setRow e (c.toList.take b++a.toList++c.toList.drop (b+a.size)).toArray):=by
 have:=run_storeCells_at P e b g a.toList 0 c d i (by simpa using j) (λl m=>(Array.all_eq_true_iff_forall_mem.1 k) l (by simpa using m))
 cases hq:P.info? f with
 | none=>simp[hq]at h
 | some b=>
  (have hs:a.size=b.size:=by simp[hq]at h;omega);simp[storeVar,sizeOf,typeInfo,hq,Value.cells,hs,this]
theorem oQ{P:Program}{g:Oper}{d:Act}{e:World}{K:Act->World->Prop}{j:Exit->Act->World->Prop}(h:TypeId)(c i:Operand)(k:g.op=.store h c i)
  (f b:Nat)(a:Array Value)(hx:d.eval c=.pointer (some ⟨f,b,none⟩))(l:d.eval i=.agg a)
  (i:TypeId)(c:Array Value)(m:aL e f i c)(n:(P.info? h).map (·.size)=some a.size)
  (o:b+a.size<=c.size)(p:a.all (·.oneCell')=true)
  (q:K (d.put g.dst undef) (e.setRow f (c.toList.take b++a.toList++c.toList.drop (b+a.size)).toArray)):g.wp P d e K j:=by
 have d:=rM (P:=P) e f b i h c a m n o p
 unfold Oper.wp execOp
 simp only[k,hx,l,Instr.storeAt,Instr.sureAddr,Sem.run_bind,Sem.run_pure,Result.andThen_ok,d]
 exact q
theorem dO{P:Program}{h:Array Oper}{rest:List Oper}{o:Oper}{d:Act}{e:World}{i:Exit->Act->World->Prop}(k:o.guard=none)(g:TypeId)(c j:Operand)(l:o.op=.store g c j)
  (f b:Nat)(a:Array Value)(hx:d.eval c=.pointer (some ⟨f,b,none⟩))(m:d.eval j=.agg a)
  (j:TypeId)(c:Array Value)(n:aL e f j c)(p:(P.info? g).map (·.size)=some a.size)
  (q:b+a.size<=c.size)(r:a.all (·.oneCell')=true)
  (s:wpList P h i rest (d.put o.dst undef) (e.setRow f (c.toList.take b++a.toList++c.toList.drop (b+a.size)).toArray)):wpList P h i (o :: rest) d e:=by
 refine wpList_plain k λK d=>?_
 have h:=rM (P:=P) e f b j g c a n p q r
 unfold Oper.wp execOp
 simp only[l,hx,m,Instr.storeAt,Instr.sureAddr,Sem.run_bind,Sem.run_pure,Result.andThen_ok,h]
 exact d _ _ s
def kg:aj:=List.replicate 32 0
def tK(w:World)(g:Nat)(ds:List aj):Prop:=aL w g 23 (ds.flatMap ak).toArray
theorem KY(b:List aj)(c:jk b)(a:Nat)(e:a < b.length)(d:aj):(b.flatMap ak).take (a*32)++ak d++(b.flatMap ak).drop (a*32+32)=(b.set a d).flatMap ak:=by
 rw[uj b a c,show a*32+32=(a+1)*32 by omega,qg b (a+1) c,List.set_eq_take_append_cons_drop,if_pos e,List.flatMap_append,List.flatMap_cons,List.append_assoc]
theorem uh:∀a,(List.replicate a kg).flatMap ak=List.replicate (a*32) (.int .u8 0)
 | 0=>rfl
 | a+1=>by
  (have b:ak kg=List.replicate 32 (.int .u8 0):=by unfold ak kg;rw[List.map_replicate];rfl);rw[List.replicate_succ,List.flatMap_cons,uh a,b,Nat.succ_mul,Nat.add_comm (a*32) 32,List.replicate_append_replicate]
theorem WW(a:Nat):(madeCells (Value.agg bF).cells (a*32)).toList=List.replicate (a*32) (.int .u8 0):=by
 have a:(Value.agg bF).cells=Array.replicate 32 (.int .u8 0):=rfl;rw[a];unfold madeCells;apply List.ext_getElem
 ·simp
 ·intro a b c
  have b:a % 32 < 32:=Nat.mod_lt _ ah;simp[b]
theorem jk.lD{a:List aj}(c:jk a)(d:Nat){b:aj}(hx:b.length=32):jk (a.set d b):=λb hd=>by
 rcases List.mem_or_eq_of_mem_set hd with a | a
 ·exact c b a
 ·rw[a];exact hx
theorem jk.P6(a:Nat){x:aj}(hx:x.length=32):jk (List.replicate a x):=λa hd=>by rw[List.eq_of_mem_replicate hd,hx]
theorem tK.rd{b:World}{c:Nat}{a:List aj}(d:tK b c a)(hd:jk a):j6 b (some ⟨c,0,none⟩) a.length a:=
 ⟨rfl,hd,aL.reads d 0 _ (kH a hd) (λc u b=>by rw[Nat.zero_add,List.getElem?_toArray];exact b)⟩
theorem tK.below{w b:World}{a:Nat}{ds:List aj}(h:tK w a ds)(c:av w b):tK b a ds:=(c.block a (aL.lt h)).trans h
theorem Jc:(prog.info? 23).map (λa=>(a.zero,a.size,a.bytes))=some (some (.agg bF),32,32):=by kernel_rfl
theorem OU{b:World}{f c d a g:Nat}{e:List Value}(h:b.ownsRow f c g (.slice (some ⟨d,0,none⟩) a a) a e):aL b d c e.toArray:=by
 rcases h.2 with⟨a,_⟩ |⟨e,f,g,c,_,d,_,_,hs,b⟩
 ·cases a
 ·injection c with a f e
  (injection a with a);(injection a with a);subst a;subst e;rw[List.take_of_length_le (by rw[Array.length_toList,hs];exact Nat.le_refl _)]at b;rw[<-b];exact d
def qH(ds:List aj)(mk:aj)(i:Nat):List aj:=ds++List.replicate i mk++List.replicate (80 - i) kg
theorem EJ{a:List aj}{mk:aj}(c:jk a)(d:mk.length=32)(b:Nat):jk (qH a mk b):=(c.append_ (jk.P6 b d)).append_ (jk.P6 _ rfl)
theorem GK(a:List aj)(mk:aj)(b:Nat)(c:b<=80):(qH a mk b).length=a.length+80:=by simp[qH];omega
theorem MG(b:List aj)(mk:aj)(a:Nat)(c:a < 80):(qH b mk a).set (b.length+a) mk=qH b mk (a+1):=by
 unfold qH;rw[show 80 - a=(80 - (a+1))+1 by omega,List.replicate_succ,List.set_append_right _ _ aZ,List.replicate_succ' (n:=a)];simp
theorem MH(a:List aj)(mk:aj):qH a mk 80=a++List.replicate 80 mk:=by simp[qH]
theorem MF(b:List aj)(a:Nat)(p:a < 1099511627776)(k:Option Addr)(q:Nat)(mk:aj)(l:mk.length=32)(d:World)(f:j6 d k a b):
  Calls prog 52 #[.slice k a q,.agg (ak mk).toArray] d λc g=>∃e,c=.returned (.slice (some ⟨e,0,none⟩) (a+80) (a+80))/\d.heap.size<=e/\tK g e (b++List.replicate 80 mk)/\av d g:=by
 obtain⟨r,s,t,u,v⟩:=bV Jc
 have w:=AA<|aL.new d 23 (ak mk).toArray
 have g:=AA<|Below.aJ d (.cells (ak mk).toArray 23)
 have y:Hid ((d.alloc (.cells (ak mk).toArray 23)).heap.size=d.heap.size+1):=by show _=_;simp
 have z:=AA<|f.below g
 have e:=AO ((a:Int)+80) ah
 have A:Hid (r.bytes*(a+80)<=281474976710656):=by show _<=_;rw[v];omega
 have B:Hid (a+80<=maxLen):=by show _<=_;unfold maxLen;omega
 have m:=AA f.2.1
 have h:=AA f.1
 have n:=AA (aP (x:=mk) l)
 have s1:Hid (((List.replicate (a+80) kg).flatMap ak).toArray.size=(a+80)*32):=by show _=_;rw[List.size_toArray,uh,List.length_replicate]
 have C:Hid (Nat.min a (a+80)=a):=Nat.min_eq_left ah
 have i:Hid ((b.flatMap ak).length=a*32):=by show _=_;rw[kH _ m.out,h.out]
 have D:Hid (0+(b.flatMap ak).length<=((List.replicate (a+80) kg).flatMap ak).toArray.size):=by show _<=_;rw[s1.out,i.out];omega
 have E:Hid (∀e∈b.flatMap ak,e.oneCell'=true):=λe j=>by
  obtain⟨F,_,hd⟩:=List.mem_flatMap.1 j;exact aY F e hd
 have F:Hid ((((List.replicate (a+80) kg).flatMap ak).toArray.toList.take 0++b.flatMap ak++((List.replicate (a+80) kg).flatMap ak).toArray.toList.drop (0+(b.flatMap ak).length)).toArray=((qH b mk 0).flatMap ak).toArray):=by
  show _=_;rw[Nat.zero_add,i.out,List.toList_toArray,qg _ a (jk.P6 _ rfl),List.drop_replicate,show a+80 - a=80 by omega];simp[qH]
 have j:=AA l
 have H:=AA p
 have G:(0:Int)<=(a:Int):=ah
 clear f l p
 go_enter func52,ntmps52
 go_wp2_with (first
  |(at_make;refine wpList_make_full _ rfl (.tmp 9) (.tmp 9) 44 rfl d.heap.size 23 r (.agg bF) 32 Ac s t u .i64 .i64 ((a:Int)+80) ((a:Int)+80) (a+80) rfl rfl ah ah A B (aC y) ?_;rw[y.out];intro p l f;rw[WW,<-uh]at l;have r:Hid (tK p (d.heap.size+1) (List.replicate (a+80) kg)):=OU l;have y:=AA<|w.grown f aZ;have p:=AA<|g.grown f g.size (λ_ c=>by cases c);have G:=AA (z.below ((Below.refl _ _).grown f (AJ _) (λ_ c=>by cases c)));clear l f w g z)
  |(rw[bY 13];refine rF (o:=⟨some 13,_,_,_,_,_⟩) rfl (.tmp 11) (.tmp 12) 44 44 rfl 23 32 Ac jN k (a+80) (a+80) a q (d.heap.size+1) 0 rfl rfl _ 23 r a C (b.flatMap ak) i G.2.2 rfl aR D E ?_;rw[F.out];intro g f c;have g:=AA<|p.trans (au.aW c ah p.size);have k:=AA<|y.kept c ah;clear c r y p G))
 clear s1 C i D E F A B s t u v
 go_loopw [6] (λe wr=>∃c:Nat,e=.int .i64 (((a+c:Nat)):Int)/\Hid (c<=80)/\Hid (tK wr (d.heap.size+1) (qH b mk c))/\Hid (aL wr d.heap.size 23 (ak mk).toArray)/\Hid (av d wr)) (λe _=>a+80 - (intOf e).toNat)
 case atStart=>exact⟨0,rfl,AX _,f,k,g⟩
 case round=>
  clear f k g;obtain⟨c,rfl,q,i,k,l⟩:=hrel;obtain⟨e,f⟩:=aS (a+c);rw[f.out];have g:(0:Int)<=(e:Int):=ah;by_cases g:c < 80
  ·have r:(e:Int) < (a:Int)+80:=aC f
   have p:(e:Int) < 9223372036854775807:=dn f H;have p:=AA (MG b mk c g)
   have s:Hid (e*32+(ak mk).toArray.size<=((qH b mk c).flatMap ak).toArray.size):=by
    show _<=_;rw[List.size_toArray,List.size_toArray,aB,j.out,kH _ (EJ m.out j.out c),GK b mk c ah,h.out,<-f.out];omega
   have t:Hid ((((qH b mk c).flatMap ak).toArray.toList.take (e*32)++(ak mk).toArray.toList++((qH b mk c).flatMap ak).toArray.toList.drop (e*32+(ak mk).toArray.size)).toArray=((qH b mk (c+1)).flatMap ak).toArray):=by
    show _=_;rw[List.toList_toArray,List.toList_toArray,List.size_toArray,aB,j.out,KY _ (EJ m.out j.out c) e (by rw[GK b mk c ah,h.out,<-f.out];omega),<-p.out,h.out,f.out]
   have h:=AA g;clear g p
   go_wp2_with (first
    |(rw[aF 24];refine aM k n.size AB ?_)
    |(rw[iE 23 _];refine dO (o:=⟨none,_,_,_,_,_⟩) rfl 23 (.tmp 25) (.tmp 24) rfl (d.heap.size+1) (e*32) (ak mk).toArray rfl rfl 23 _ i n.size s n.one ?_;rw[t.out]))
   go_roundw
   case rel=>exact⟨c+1,by rw[<-f.out];go_num,h,setRow_heap _ _ _ _ _ _ i,(setRow_other _ _ _ _ ah).trans k,below_setRow l ah _⟩
   case measure=>(have:=f.out;have:=h.out;simp[intOf];omega)
  ·obtain rfl:c=80:=aC q
   have r:(a:Int)+80<=(e:Int):=aC f;(have a:Hid (tK wr (d.heap.size+1) (b++List.replicate 80 mk)):=by show tK _ _ _;rw[<-MH];exact i);clear g;go_wp2_with fail;go_ret;exact⟨_,rfl,BF _,a,l⟩
theorem Ib{b c:List aj}{a:Nat}{d:aj}(e:b.take a=c.take a)(hx:b[a]?=some d)(f:c[a]?=some d):b.take (a+1)=c.take (a+1):=by
 rw[List.take_add_one,List.take_add_one,e,hx,f]
theorem vo{x:aj}(hx:x.length=32)(a:World):(Op.equalIn 10000 23 (.agg (ak x).toArray) (.agg (ak x).toArray)).run prog a=.ok true a:=by
 rw[iV x x hx hx a];simp
theorem WS{x y:aj}(hx:x.length=32)(b:y.length=32)(c:x≠y)(a:World):(Op.equalIn 10000 23 (.agg (ak x).toArray) (.agg (ak y).toArray)).run prog a=.ok false a:=by
 rw[iV x y hx b a];simp[c]
theorem PL(a b:Nat)(c d:Option Addr)(e f:Nat)(g:World)(h:a≠b):
  bq 109 #[.slice c a e,.slice d b f] g (.bool false):=by
 have c:((a:Int)!=(b:Int))=true:=bne_iff_ne.2 ah
 have c:((a:Int)==(b:Int))=false:=beq_eq_false_iff_ne.2 ah
 clear h
 go_enter func109,ntmps109
 go_wp2_with fail
 go_ret
 exact⟨rfl,Below.refl _ _⟩
theorem Rw(c:Nat)(e:c < 140737488355328)(l m:List aj)(b d:Option Addr)(f g:Nat)(a:World)(h:j6 a b c l)(i:j6 a d c m):
  bq 109 #[.slice b c f,.slice d c g] a (.bool (decide (l=m))):=by
 have I:((c:Int)!=(c:Int))=false:=bne_eq_false_iff_eq.2 rfl
 have J:(c:Int) < 140737488355328:=ah
 replace h:=AA h
 replace i:=AA i
 clear e
 go_enter func109,ntmps109
 go_wp2_with fail
 go_loopw [5] (λd wr=>∃b:Nat,d=.int .i64 (b:Int)/\b<=c/\Hid (l.take b=m.take b)/\Hid (av a wr)) (λd _=>c - (intOf d).toNat)
 case atStart=>exact⟨0,rfl,AX _,(by show _=_;simp),Below.refl _ _⟩
 case round=>
  obtain⟨b,rfl,r,n,e⟩:=hrel;by_cases j:b < c
  ·obtain⟨x,f⟩:∃x,l[b]?=some x:=⟨_,AV (by rw[h.out.1];exact j)⟩
   obtain⟨y,k⟩:∃y,m[b]?=some y:=⟨_,AV (by rw[i.out.1];exact j)⟩;obtain⟨s,t,rfl,u,v⟩:=h.at_ f;obtain⟨w,z,rfl,A,B⟩:=i.at_ k;(have hx:=AA<|λa (o:av wr a) g d (q:(ak x)[g]?=some d)=>((e.trans (o.mono e.size)).cell (p:=⟨s,t+b*32+g,none⟩) u).trans (v g d q));(have E:=AA<|λa (o:av wr a) g d (q:(ak y)[g]?=some d)=>((e.trans (o.mono e.size)).cell (p:=⟨w,z+b*32+g,none⟩) A).trans (B g d q));have g:=h.2.1.at_ f;have o:=i.2.1.at_ k;have F:=AA (aP (x:=x) g);have G:=AA (aP (x:=y) o);have K:(0:Int)<=(b:Int):=ah;have d:(b:Int) < (c:Int):=ah;have H:=AA j;by_cases q:x=y
   ·have C:=AA (λa=>vo (x:=x) g a)
    subst q;have L:=AA (Ib n f k);clear v B u A f k g o r j n;go_wp2_with fail;refine cB (aA wr) (aA.jD ((Below.refl _ _).drew)) ?_;(iterate 3 refine aG ?_);refine dh s (t+b*32) (ak x) (λa d=>hx a d.below) F.part AB ?_;(iterate 3 refine aG ?_);refine dh w (z+b*32) (ak x) (λa d=>E a d.below) G.part AB ?_;refine bC (λa d=>C a) ?_;refine bR ?_;intro a d;have D:=AA (e.trans (d.below.mono e.size));go_wp2_with fail;go_roundw
    case rel=>exact⟨b+1,by go_num,H,L,D⟩
    case measure=>(have:=H.out;simp[intOf];omega)
   ·have C:=AA (λa=>WS (x:=x) (y:=y) g o q a)
    have hF:Hid (decide (l=m)=false):=AP (λl=>q (by rw[l,k]at f;exact(AL f).symm));clear v B u A f k g o r j n q;go_wp2_with fail;refine cB (aA wr) (aA.jD ((Below.refl _ _).drew)) ?_;(iterate 3 refine aG ?_);refine dh s (t+b*32) (ak x) (λa d=>hx a d.below) F.part AB ?_;(iterate 3 refine aG ?_);refine dh w (z+b*32) (ak y) (λa d=>E a d.below) G.part AB ?_;refine bC (λa d=>C a) ?_;refine bR ?_;intro a d;have D:=AA (e.trans (d.below.mono e.size));go_wp2_with fail;go_ret;exact⟨by show Ending.returned (.bool false)=_;rw[hF.out],D⟩
  ·have hF:=AA<|AY (by
    have:=n.out
    rwa[List.take_of_length_le (aC h.out.1),List.take_of_length_le (aC i.out.1)]at this)
   have K:(c:Int)<=(b:Int):=ah;clear j r I J;go_wp2_with fail;go_ret;exact⟨by show Ending.returned (.bool true)=_;rw[hF.out],e⟩
theorem PN(a c:Nat)(m:a < 140737488355328)(f g:List aj)(d e:Option Addr)(h i:Nat)(b:World)(k:j6 b d a f)(l:j6 b e c g):
  bq 109 #[.slice d a h,.slice e c i] b (.bool (decide (f=g))):=by
 by_cases j:a=c
 ·subst j
  exact Rw a m f g d e h i b k l
 ·rw[decide_eq_false (λf=>j (by rw[<-k.1,<-l.1,f]))]
  exact PL a c d e h i b j
theorem KT(b:List aj)(n:Nat)(s:n < 1099511627776)(g:Nat)(A:Option Addr)(c:Nat)(mk:aj)(j:mk.length=32)(f:World)(l:j6 f A n b)(t:tK f g (b++List.replicate 80 mk)):
  bq 55 #[.slice (some ⟨g,0,none⟩) (n+80) (n+80),.slice A n c,.agg (ak mk).toArray] f (.bool true):=by
 have u:=AA<|aL.new f 23 (ak mk).toArray
 have o:=AA<|Below.aJ f (.cells (ak mk).toArray 23)
 have q:=l.1
 have hF:j6 f (some ⟨g,0,none⟩) (n+80) (b++List.replicate 80 mk):=by
  have:=t.rd (l.2.1.append_ (jk.P6 80 j));rwa[show(b++List.replicate 80 mk).length=n+80 by simp[q]]at this
 have v:j6 f (some ⟨g,0,none⟩) n b:=by
  have:=hF.oo n ah;rwa[List.take_append_of_le_length ah,List.take_of_length_le ah]at this
 have w:=AA (λa (h:av f a)=>PN n n ah b b (some ⟨g,0,none⟩) A (n+80) c a (v.below h) (l.below h))
 have z:=vY (A:=some ⟨g,0,none⟩) (n:=n+80) (c:=n+80) (k:=n) ah (n:Int) rfl
 have b:=AO ((n:Int)+80) ah
 have y:=AA (aP (x:=mk) j)
 have B:=AA (λa=>vo (x:=mk) j a)
 have C:=AA s
 have D:Hid (∀i,i < 80->∀a,av f a->∀e b,(ak mk)[e]?=some b->a.cell? ⟨g,(n+i)*32+e,none⟩=some b):=λi E a h e b r=>by
  obtain⟨H,I,m,F,G⟩:=hF.at_ (i:=n+i) (d:=mk) (by rw[List.getElem?_append_right ah,q,show n+i - n=i by omega,List.getElem?_replicate,if_pos E]);(injection m with m);(injection m with E H);subst E H;have:=(h.cell (p:=⟨g,0+(n+i)*32+e,none⟩) F).trans (G e b r);rwa[Nat.zero_add]at this
 have E:(0:Int)<=(n:Int):=ah
 clear l t q hF v j s
 go_enter func55,ntmps55
 go_wp2_with (go_at_call 109;refine(w _ o).mono ?_;rw[decide_eq_true rfl];rintro m l ⟨rfl,j⟩;have l:=bf j u;have m:=aQ o j;clear j u o)
 clear z w
 go_loopw [7] (λb wr=>∃i:Nat,b=.int .i64 (((n+i:Nat)):Int)/\Hid (i<=80)/\Hid (aL wr f.heap.size 23 (ak mk).toArray)/\Hid (av f wr)) (λb _=>n+80 - (intOf b).toNat)
 case atStart=>exact⟨0,rfl,AX _,l,m⟩
 case round=>
  clear l m;obtain⟨i,rfl,q,j,h⟩:=hrel;obtain⟨e,f⟩:=aS (n+i);rw[f.out];have l:(0:Int)<=(e:Int):=ah;by_cases l:i < 80
  ·have s:(e:Int) < (n:Int)+80:=aC f
   have m:(e:Int) < 9223372036854775807:=dn f C
   have hx:Hid (∀a,av wr a->∀k b,(ak mk)[k]?=some b->a.cell? ⟨g,e*32+k,none⟩=some b):=λa m k b r=>by
    have:=D i l a (h.trans (m.mono h.size)) k b r;rwa[f.out]at this
   have o:=AA l;clear l;go_wp2_with fail;refine cB (aA wr) (aA.jD ((Below.refl _ _).drew)) ?_;(iterate 3 refine aG ?_);refine dh g (e*32) (ak mk) (λa b=>hx a b.below) y.part AB ?_;refine gu (λa b=>(b.below.block _ j.lt).trans j) y.size AB ?_;refine bC (λa b=>B a) ?_;refine bR ?_;intro a b;have a:=AA ((b.below.block _ j.lt).trans j);have m:=AA (h.trans (b.below.mono h.size));go_wp2_with fail;go_roundw
   case rel=>exact⟨i+1,by rw[<-f.out];go_num,o,a,m⟩
   case measure=>(have:=f.out;have:=o.out;simp[intOf];omega)
  ·obtain rfl:i=80:=aC q
   have s:(n:Int)+80<=(e:Int):=aC f;clear l;go_wp2_with fail;go_ret;exact⟨rfl,h⟩
def iZ(s:Int)(ds:List aj):Bool:=ds.all λd=>decide (dP d (cu s)=d)
theorem Gq{s:Int}{b:List aj}{c:Nat}{a:aj}(d:b[c]?=some a)(e:¬dP a (cu s)=a):iZ s b=false:=by
 unfold iZ;rw[List.all_eq_false];exact⟨a,Ab d,by simpa using e⟩
theorem Cs{s:Int}{a:List aj}{b:Nat}{c:aj}(d:a[b]?=some c)(e:iZ s (a.take b)=true)(f:dP c (cu s)=c):iZ s (a.take (b+1))=true:=by
 unfold iZ at*;rw[List.take_add_one,d,List.all_append,e];simp[f]
theorem I5(x a:aj)(hx:x.length=32)(c:a.length=32)(b:World):(Op.equalIn 10000 23 (.agg (ak x).toArray) (.agg (ak a).toArray)).run prog b=.ok (decide (x=a)) b:=iV x a hx c b
theorem El(s:Int)(n:List aj)(h:Nat)(K:h < 140737488355328)(F:Option Addr)(L:Nat)(a:World)(k:j6 a F h n):
  bq 134 #[.int .i64 s,.slice F h L] a (.bool (iZ s n)):=by
 have M:Hid ((h:Int) < 9223372036854775807):=by show _ < _;omega
 have N:Hid (av a a):=Below.refl _ _
 replace k:=AA k
 clear K
 go_enter func134,ntmps134
 go_wp2_with fail
 go_loopw [9] (λl wr=>∃c:Nat,l=.int .i64 (c:Int)/\Hid (c<=h)/\Hid (iZ s (n.take c)=true)/\Hid (av a wr)) (λl _=>h - (intOf l).toNat)
 case atStart=>exact⟨0,rfl,AX _,rfl,N⟩
 case round=>
  obtain⟨c,rfl,O,G,i⟩:=hrel;by_cases o:c < h
  ·have P:(c:Int) < (h:Int):=ah
   have α:(0:Int)<=(c:Int):=ah;have β:(c:Int) < 9223372036854775807:=aC M;obtain⟨d,hd⟩:∃d,n[c]?=some d:=⟨_,AV (by rw[k.out.1];exact o)⟩;have q:=AA (k.2.1.at_ hd);have g:=AA (aP (x:=d) q);obtain⟨Q,R,rfl,H,I⟩:=k.at_ hd;(have J:=AA<|λe (r:av wr e) w l (S:(ak d)[w]?=some l)=>((i.trans (r.mono i.size)).cell (p:=⟨Q,R+c*32+w,none⟩) H).trans (I w l S));obtain⟨x,hx⟩:=aS (dP d (cu s));have T:Hid (x.length=32):=hx.out ▸ eT _ _ q (fD s).2;have v:=AA (λa=>I5 x d T q a);have y:=AA (λ(z:¬x=d)=>Gq (s:=s) hd (hx.out ▸ z));have A:=AA (λ(z:x=d)=>Cs (s:=s) hd G (hx.out ▸ z));replace o:=AA o;clear I H hd;by_cases m:x=d
   ·have B:Hid (∀a,(Op.equalIn 10000 23 (.agg (ak x).toArray) (.agg (ak d).toArray)).run prog a=.ok true a):=λa=>by rw[v.out a,decide_eq_true m]
    have U:=AA (A m);clear A y v m
    go_wp2_with (first
     |(rw[aF 12];refine bS (J wr (Below.refl _ _)) g.part AB ?_)
     |(rw[bA 23 6];refine dB (aL.new wr _ _) g.size g.zero g.one ?_;intro C b t;have j:=AA (dx t);replace b:=AA b;clear t))
    refine cB (aA C) (aA.jD ((Below.refl _ _).drew)) ?_;refine gu (λe f=>(f.below.block _ b.lt).trans b) g.size AB ?_;refine aG ?_;refine cZ BH (λe f=>(uo d q s e).mono (λV W ⟨D,r⟩=>⟨by rw[D,hx.out],f.next r⟩)) ?_;refine gu (λe f=>(f.below.block _ b.lt).trans b) g.size AB ?_;refine bC (λe f=>B e) ?_;refine bR ?_;intro X u;(have E:=AA<|i.trans ((j.trans (u.below.mono j.size)).mono i.size));clear u j b;go_wp2_with fail;go_roundw
    case rel=>exact⟨c+1,by go_num,o,U,E⟩
    case measure=>(have:=o.out;simp[intOf];omega)
   ·have B:Hid (∀a,(Op.equalIn 10000 23 (.agg (ak x).toArray) (.agg (ak d).toArray)).run prog a=.ok false a):=λa=>by rw[v.out a,decide_eq_false m]
    have Y:=AA (y m);clear A y v m
    go_wp2_with (first
     |(rw[aF 12];refine bS (J wr (Below.refl _ _)) g.part AB ?_)
     |(rw[bA 23 6];refine dB (aL.new wr _ _) g.size g.zero g.one ?_;intro C b t;have j:=AA (dx t);replace b:=AA b;clear t))
    refine cB (aA C) (aA.jD ((Below.refl _ _).drew)) ?_;refine gu (λe f=>(f.below.block _ b.lt).trans b) g.size AB ?_;refine aG ?_;refine cZ BH (λe f=>(uo d q s e).mono (λV W ⟨D,r⟩=>⟨by rw[D,hx.out],f.next r⟩)) ?_;refine gu (λe f=>(f.below.block _ b.lt).trans b) g.size AB ?_;refine bC (λe f=>B e) ?_;refine bR ?_;intro X u;(have E:=AA<|i.trans ((j.trans (u.below.mono j.size)).mono i.size));clear u j b;go_wp2_with fail;go_ret;exact⟨by rw[Y.out];rfl,E⟩
  ·obtain rfl:c=h:=aC O
   have P:(c:Int)<=(c:Int):=ah;(have Z:iZ s n=true:=by have:=G.out;rwa[List.take_of_length_le (by rw[k.out.1];exact Nat.le_refl _)]at this);go_wp2_with fail;go_ret;exact⟨by rw[Z];rfl,i⟩
theorem xh(s:Int)(t:s < 9223372036854775808)(k:List aj)(f:Nat)(J:f < 140737488355328)(F:Option Addr)(K:Nat)(b:World)(h:j6 b F f k):
  bq 190 #[.int .i64 s,.slice F f K] b (.bool (iZ s k)):=by
 have L:Hid ((f:Int) < 9223372036854775807):=by show _ < _;omega
 have M:Hid (av b b):=Below.refl _ _
 replace h:=AA h
 replace t:=AA t
 clear J
 go_enter func190,ntmps190
 go_wp2_with fail
 go_loopw [5] (λi wr=>∃a:Nat,i=.int .i64 (a:Int)/\Hid (a<=f)/\Hid (iZ s (k.take a)=true)/\Hid (av b wr)) (λi _=>f - (intOf i).toNat)
 case atStart=>exact⟨0,rfl,AX _,rfl,M⟩
 case round=>
  obtain⟨a,rfl,N,G,g⟩:=hrel;by_cases l:a < f
  ·have O:(a:Int) < (f:Int):=ah
   have X:(0:Int)<=(a:Int):=ah;have Y:(a:Int) < 9223372036854775807:=aC L;obtain⟨c,hd⟩:∃c,k[a]?=some c:=⟨_,AV (by rw[h.out.1];exact l)⟩;have m:=AA (h.2.1.at_ hd);have u:=AA (aP (x:=c) m);obtain⟨n,o,rfl,H,I⟩:=h.at_ hd;(have v:=AA<|λd (q:av wr d) y i (P:(ak c)[y]?=some i)=>((g.trans (q.mono g.size)).cell (p:=⟨n,o+a*32+y,none⟩) H).trans (I y i P));obtain⟨x,hx⟩:=aS (dP c (cu s));have Q:Hid (x.length=32):=hx.out ▸ eT _ _ m (fD s).2;have w:=AA (λb=>I5 x c Q m b);have z:=AA (λ(A:¬x=c)=>Gq (s:=s) hd (hx.out ▸ A));have B:=AA (λ(A:x=c)=>Cs (s:=s) hd G (hx.out ▸ A));replace l:=AA l;clear I H hd;by_cases j:x=c
   ·have C:Hid (∀b,(Op.equalIn 10000 23 (.agg (ak x).toArray) (.agg (ak c).toArray)).run prog b=.ok true b):=λb=>by rw[w.out b,decide_eq_true j]
    have R:=AA (B j);clear B z w j;go_wp2_with fail;refine cB (aA wr) (aA.jD ((Below.refl _ _).drew)) ?_;(iterate 3 refine aG ?_);refine dh n (o+a*32) (ak c) (λd e=>v d e.below) u.part AB ?_;refine aG ?_;refine cZ func142 (λd e=>(qJ c m s t d).mono (λS T ⟨D,q⟩=>⟨by rw[D,hx.out],e.next q⟩)) ?_;(iterate 3 refine aG ?_);refine dh n (o+a*32) (ak c) (λd e=>v d e.below) u.part AB ?_;refine bC (λd e=>C d) ?_;refine bR ?_;intro U r;(have E:=AA<|g.trans (r.below.mono g.size));clear r;go_wp2_with fail;go_roundw
    case rel=>exact⟨a+1,by go_num,l,R,E⟩
    case measure=>(have:=l.out;simp[intOf];omega)
   ·have C:Hid (∀b,(Op.equalIn 10000 23 (.agg (ak x).toArray) (.agg (ak c).toArray)).run prog b=.ok false b):=λb=>by rw[w.out b,decide_eq_false j]
    have V:=AA (z j);clear B z w j;go_wp2_with fail;refine cB (aA wr) (aA.jD ((Below.refl _ _).drew)) ?_;(iterate 3 refine aG ?_);refine dh n (o+a*32) (ak c) (λd e=>v d e.below) u.part AB ?_;refine aG ?_;refine cZ func142 (λd e=>(qJ c m s t d).mono (λS T ⟨D,q⟩=>⟨by rw[D,hx.out],e.next q⟩)) ?_;(iterate 3 refine aG ?_);refine dh n (o+a*32) (ak c) (λd e=>v d e.below) u.part AB ?_;refine bC (λd e=>C d) ?_;refine bR ?_;intro U r;(have E:=AA<|g.trans (r.below.mono g.size));clear r;go_wp2_with fail;go_ret;exact⟨by rw[V.out];rfl,E⟩
  ·obtain rfl:a=f:=aC N
   have O:(a:Int)<=(a:Int):=ah;(have W:iZ s k=true:=by have:=G.out;rwa[List.take_of_length_le (by rw[h.out.1];exact Nat.le_refl _)]at this);go_wp2_with fail;go_ret;exact⟨by rw[W];rfl,g⟩
theorem lJ:prog.eqGuardType prog.depth 23=false:=by kernel_rfl
theorem Ou:(prog.info? 23).map (·.size)=some 32:=by kernel_rfl
theorem Ig:(prog.info? 57).map (·.size)=some 64:=by kernel_rfl
theorem SI{a:List aj}{b:Nat}{c d:aj}(e:a[b]?=some d)(f:aT (eZ d) (eZ c)=true):(dK eZ c (a.drop b)).map (a.take b++·)=(dK eZ c (a.drop (b+1))).map (a.take (b+1)++·):=by
 obtain⟨d,rfl⟩:=AU.1 e;rw[List.drop_eq_getElem_cons d];show(if aT (eZ a[b]) (eZ c)=true then(dK eZ c (a.drop (b+1))).map (a[b] :: ·)else _).map _=_;(have d:a.take (b+1)=a.take b++[a[b]]:=by rw[List.take_add_one,e];rfl);rw[if_pos f,d];cases dK eZ c (a.drop (b+1))with
 | none=>rfl
 | some c=>show some (a.take b++a[b] :: c)=some (a.take b++[a[b]]++c);rw[List.append_assoc];rfl
theorem WZ{a:List aj}{b:Nat}{c d:aj}(e:a[b]?=some d)(f:aT (eZ d) (eZ c)=false)(g:eZ d=eZ c):(dK eZ c (a.drop b)).map (a.take b++·)=none:=by
 obtain⟨d,rfl⟩:=AU.1 e;rw[List.drop_eq_getElem_cons d];show(if aT (eZ a[b]) (eZ c)=true then _ else if eZ a[b]=eZ c then none else _).map _=_;rw[if_neg (by rw[f];simp),if_pos g];rfl
theorem WY{a:List aj}{b:Nat}{c d:aj}(e:a[b]?=some d)(f:aT (eZ d) (eZ c)=false)(g:¬eZ d=eZ c):(dK eZ c (a.drop b)).map (a.take b++·)=some (a.take b++[c]++a.drop b):=by
 obtain⟨d,rfl⟩:=AU.1 e;rw[List.drop_eq_getElem_cons d];show(if aT (eZ a[b]) (eZ c)=true then _ else if eZ a[b]=eZ c then none else some (c :: a[b] :: a.drop (b+1))).map _=_;rw[if_neg (by rw[f];simp),if_neg g];simp
theorem Vo{a:List aj}{b:Nat}{c:aj}(d:a.length=b):(dK eZ c (a.drop b)).map (a.take b++·)=some (a.take b++[c]++a.drop b):=by
 rw[List.drop_of_length_le ah];simp[dK]
def Wn(l:List aj)(o:Option (List aj)):Option (List aj):=l.foldl (λo x=>o.bind (dK eZ x)) o
theorem Td(a:List aj):Wn a none=none:=Ce a
theorem Tc{a:List aj}{b:Nat}{c:aj}(hx:a[b]?=some c)(d:List aj):Wn (a.drop b) (some d)=Wn (a.drop (b+1)) (dK eZ c d):=by
 obtain⟨a,rfl⟩:=AU.1 hx;rw[List.drop_eq_getElem_cons a];rfl
theorem Vv{a:List aj}{b:Nat}(d:a.length<=b)(c:Option (List aj)):Wn (a.drop b) c=c:=by
 rw[List.drop_of_length_le d];rfl
def Eh(B:Nat)(w':World)(v:Value)(n:Nat):Option (List aj)->Prop
 | none=>v=.slice none 0 0
 | some rs=>ji w' B v n rs
theorem Eh.below{B:Nat}{w a:World}{v:Value}{n:Nat}{o:Option (List aj)}(h:Eh B w v n o)(b:av w a):Eh B a v n o:=by
 cases o with
 | none=>exact h
 | some a=>exact ji.below h b
theorem Pb{A:Option Addr}{b c a:Nat}(d:A=none->b=0/\c=0)(e:a<=c):nE A a c=none->b - a=0/\c - a=0:=λb=>by
 unfold nE at b;by_cases e:c=a
 ·rw[if_pos e]at b
  obtain⟨a,f⟩:=d b;omega
 ·rw[if_neg e]at b
  cases A with
  | none=>obtain⟨a,f⟩:=d rfl;omega
  | some a=>cases b
theorem sj(z:List aj)(n:Nat)(m:n<=2199023255552)(A:Option Addr)(c:Nat)(H:World)(Q:kD H A n z):
  Calls prog 188 #[.slice A n c] H λx g=>∃q,x=.returned (.tuple #[q,.bool (bK eZ z).isNone])/\av H g/\Eh H.heap.size g q n (bK eZ z):=by
 obtain⟨û,R,S,T,U⟩:=bV Fj
 obtain⟨V,ο⟩:=aS (bK eZ z)
 rw[ο.out]
 have Ç:Hid (Wn (z.drop 0) (some [])=V):=ο
 replace Q:=AA Q
 have m:=AA m
 clear ο
 go_enter func188,ntmps188
 go_wp2_with fail
 go_loopw [4,5] (λÜ q wr=>∃(b:Nat) (I:Option Addr) (c1:Nat) (e:List aj),q=.int .i64 (b:Int)/\Ü=.slice I b c1/\Hid (b<=n)/\Hid (ji wr H.heap.size (.slice I b c1) b e)/\Hid (Wn (z.drop b) (some e)=V)/\Hid (av H wr)) (λ_ q _=>n - (intOf q).toNat)
 case atStart=>exact⟨0,none,0,[],rfl,rfl,AX _,ji.nil _ _,Ç,Below.refl _ _⟩
 case round=>
  clear Ç;obtain⟨b,I,c1,e,rfl,rfl,È,Y,ρ,r⟩:=hrel;have ü:(b:Int)<=2199023255552:=dn È m;by_cases κ:b < n
  ·have Ý:(b:Int) < (n:Int):=ah
   have ý:(0:Int)<=(b:Int):=ah;have l:=AA κ;obtain⟨d,hx⟩:∃d,Hid (z[b]?=some d):=⟨_,AV (by rw[Q.out.len];exact κ)⟩;have J:=AA (Q.all d (Ab hx));obtain⟨σ,τ,Þ,ß,É⟩:=Q.at_ hx;subst Þ;obtain⟨þ,c2,υ,E,-,W,Z,-⟩:=ji.reads Y;(injection υ with υ _ à);subst υ à;replace E:=AA E;replace W:=AA W;replace Z:=AA Z;(have φ:=AA<|λg (α:av H g) s u (β:(ak d)[s]?=some u)=>(α.cell (p:=⟨σ,τ+b*64+s,none⟩) ß).trans (É s u β));(have Ê:=AA<|λg α s u β=>by have:=φ g α (0+s) u (uf β);rwa[Nat.zero_add]at this);(have Ë:Hid ((prog.info? 23).map (·.size)=some (ak (eZ d)).length):=by show _=_;rw[aB,mU J.out];exact Ou);(have Ì:Hid ((prog.info? 57).map (·.size)=some (ak d).length):=by show _=_;rw[aB,J.out];exact Ig);(have χ:=AA<|(Tc hx e).symm.trans ρ);have Í:=AA Y.2.1;have á:=AA Y.1;(have Î:Hid (∀q∈[ak d],q.length=64):=λq Ï=>by simp only[List.mem_singleton]at Ï;rw[Ï,aB,J.out]);(have Ð:Hid (dK eZ d e=(dK eZ d (e.drop 0)).map (e.take 0++·)):=by show _=_;simp);clear É κ ρ Y;obtain⟨Ñ,rfl⟩:=fB wr;go_wp2_with fail
   go_loopw [6] (λâ ã=>∃a:Nat,â=.int .i64 (a:Int)/\Hid (a<=b)/\Hid (dK eZ d e=(dK eZ d (e.drop a)).map (e.take a++·))/\Hid (av Ñ ã)) (λq _=>b - (intOf q).toNat)
   case atStart=>exact⟨0,rfl,AX _,Ð,Below.refl _ _⟩
   case round=>
    clear Ð;obtain⟨a,rfl,f,μ,K⟩:=hrel;have Ò:=AA (r.trans (K.mono r.size));have ÿ:(0:Int)<=(a:Int):=ah;have Ā:(a:Int)<=2199023255552:=aC f;by_cases ν:a < b
    ·have ä:(a:Int) < (b:Int):=ah
     have Ó:=AA ν;obtain⟨t,γ⟩:∃t,Hid (e[a]?=some t):=⟨_,AV (Í.out ▸ ν)⟩;have ψ:=AA (á t (Ab γ));obtain⟨F,G,å,æ,Ô⟩:=Z.at_ γ;subst å;(have Õ:Hid (∀g,av Ñ g->∀s u,(ak (eZ t))[s]?=some u->g.cell? ⟨F,G+a*64+s,none⟩=some u):=λg α s u β=>(α.cell (p:=⟨F,G+a*64+s,none⟩) æ).trans (by have:=Ô (0+s) u (uf β);rwa[Nat.zero_add]at this));(have Ö:Hid ((prog.info? 23).map (·.size)=some (ak (eZ t)).length):=by show _=_;rw[aB,mU ψ.out];exact Ou);clear Ô ν;obtain⟨ç,ξ⟩:=aS (aT (eZ t) (eZ d));go_upto_region 6 with fail;refine cB (aA wr) (aA.jD ((Below.refl _ _).drew)) ?_;(iterate 9 refine aG ?_);refine dh F ((G+a*64)) (ak (eZ t)) (λg y=>Õ _ (K.trans (y.below.mono K.size))) Ö AB ?_;(iterate 4 refine aG ?_);refine dh σ ((τ+b*64)) (ak (eZ d)) (λg y=>Ê _ (Ò.trans (y.below.mono Ò.size))) Ë AB ?_;refine cZ func249 (λg y=>((Sv (eZ t) (eZ d) (mU ψ) (mU J) g).mono λx ā ⟨è,é⟩=>⟨by rw[è,ξ.out],y.next é⟩)) ?_;refine aG ?_;refine bR ?_;intro ω δ;(have B:=AA<|K.trans (δ.below.mono K.size));clear δ;cases ç with
     | true=>
      (have ê:=AA<|μ.trans (SI γ ξ));go_wp2_with fail;go_roundw
      case rel=>exact⟨a+1,by go_num,Ó,ê,B⟩
      case measure=>(have:=Ó.out;simp[intOf];omega)
     | false=>
      obtain⟨Ø,Γ⟩:=aS (decide (eZ t=eZ d));(have ë:Hid (∀g,(binOp .eql 23 (.agg (ak (eZ t)).toArray) (.agg (ak (eZ d)).toArray)).run prog g=.ok (.bool Ø) g):=λg=>by rw[rX _ _ (mU ψ.out) (mU J.out),Γ.out]);have Ù:=AA (r.trans (B.mono r.size));go_upto_region 8 with fail;refine cB (aA ω) (aA.jD ((Below.refl _ _).drew)) ?_;(iterate 9 refine aG ?_);refine dh F ((G+a*64)) (ak (eZ t)) (λg y=>Õ _ (B.trans (y.below.mono B.size))) Ö AB ?_;(iterate 4 refine aG ?_);refine dh σ ((τ+b*64)) (ak (eZ d)) (λg y=>Ê _ (Ù.trans (y.below.mono Ù.size))) Ë AB ?_;refine jr (λg y=>iN rfl rfl rfl lJ (ë g)) ?_;refine aG ?_;refine bR ?_;intro C ε;(have X:=AA<|B.trans (ε.below.mono B.size));clear ε;cases Ø with
      | true=>
       have Ú:Hid (V=none):=by
        show _=_;rw[<-χ.out,μ.out,WZ γ.out ξ.out (of_decide_eq_true Γ.out),Td]
       go_wp2_with fail;go_ret2;exact⟨_,by rw[Ú.out];rfl,r.trans (X.mono r.size),by rw[Ú.out];rfl⟩
      | false=>
       have Δ:Hid (Wn (z.drop (b+1)) (some (e.take a++[d]++e.drop a))=V):=by
        show _=_;rw[<-χ.out,μ.out,WY γ.out ξ.out (of_decide_eq_false Γ.out)]
       have v:=AA (r.trans (X.mono r.size));have ζ:=AA (Z.below X);have ì:=sU (A:=(some ⟨F,G,none⟩:Option Addr)) (n:=b) (c:=c1) (k:=a) (dn f E) (a:Int) rfl;have í:=GH (A:=(some ⟨F,G,none⟩:Option Addr)) (n:=b) (c:=c1) (k:=a) (aC f) (a:Int) rfl;(have Θ:Hid (0+a<=maxLen):=by show _<=_;unfold maxLen;omega);(have Ξ:Hid ((0+a)*64<=140737488355328):=by show _<=_;omega);(have Φ:Hid (a+1<=maxLen):=by show _<=_;have:=f.out;have:=l.out;have:=m.out;unfold maxLen;omega);(have Ψ:Hid ((a+1)*64<=140737488355328):=by show _<=_;have:=f.out;have:=l.out;have:=m.out;omega);(have Ω:Hid (a+1+(b - a)<=maxLen):=by show _<=_;have:=f.out;have:=l.out;have:=m.out;unfold maxLen;omega);(have À:Hid ((a+1+(b - a))*64<=140737488355328):=by show _<=_;have:=f.out;have:=l.out;have:=m.out;omega);(have Á:Hid ((some ⟨F,G,none⟩:Option Addr)=none->a=0/\c1=0):=λx=>by obtain⟨î,Â⟩:=W.out x;have:=f.out;exact⟨ah,Â⟩);have Ã:Hid (nE ((some ⟨F,G,none⟩:Option Addr)) a c1=none->b - a=0/\c1 - a=0):=Pb W (dn f E);have L:=AA (ζ.oo a f);have Ä:=AA (ζ.Df a c1 f E);obtain⟨M,η⟩:=bG (([ak d].flatten).toArray)
       go_wp2_with (first
        |(rw[bY 54];refine iL (.tmp 50) (.tmp 53) Ar R S T U (ji.nil C _).2.2 L.rd Á (mg (e.take a)) Θ Ξ (AJ _) ?_;intro ï w h;have j:=AA (lV (xs:=[]) h (Below.refl _ C) (AJ _) (ji.nil C _) L.all L.len);rw[Nat.zero_add,List.nil_append]at j;obtain⟨ð,ñ,rfl,-⟩:=ji.reads j.1;clear h)
        |((rw[aF 59];refine bS (φ _ (v.trans (j.2.mono v.size))) Ì Af ?_))
        |(rw[bY 60];refine dL (o:=⟨some 60,_,_,_,_,_⟩) rfl 37 57 1 _ rfl 64 aR [ak d] Ar Ig Q0 rfl aR aR Î rfl ?_;rw[<-η.out];have N:Hid (kD (w.alloc (.cells M 57)) (some ⟨w.heap.size,0,none⟩) 1 [d]):=(η.out ▸ OA w J);have θ:=AA (j.1.below (Below.aJ w (.cells M 57)));have O:Hid (av C (w.alloc (.cells M 57))):=j.2.alloc j.2.size _)
        |(rw[bY 61];refine iL (.tmp 55) (.tmp 60) Ar R S T U θ.2.2 N.rd (λx=>by cases x) (mg [d]) Φ Ψ O.size ?_;intro ò ó h;have i:=AA (lV h O O.size θ N.all N.len);obtain⟨ô,õ,rfl,-⟩:=ji.reads i.1;have P:=AA (Ä.below i.2);clear h)
        |(rw[bY 66];refine iL (.tmp 62) (.tmp 65) Ar R S T U i.1.2.2 P.rd Ã (mg (e.drop a)) Ω À i.2.size ?_;intro ö ø h;have D:=AA (lV h i.2 i.2.size i.1 P.all P.len);have ι:a+1+(b - a)=b+1:=(aC f);rw[ι]at D;obtain⟨Å,Æ,rfl,-⟩:=ji.reads D.1;clear h ι))
       go_roundw
       case rel=>exact⟨b+1,Å,Æ,e.take a++[d]++e.drop a,by go_num,rfl,l,D.1.base v.size,Δ,v.trans (D.2.mono v.size)⟩
       case measure=>(have:=l.out;simp[intOf];omega)
    ·have ä:¬((a:Int) < (b:Int)):=ah
     have ù:Hid (e.length=a):=by show _=_;rw[Í.out];have:=f.out;omega
     have Δ:Hid (Wn (z.drop (b+1)) (some (e.take a++[d]++e.drop a))=V):=by
      show _=_;rw[<-χ.out,μ.out,Vo ù.out]
     clear ν;go_upto_region 6 with fail;refine cB (aA wr) (aA.jD ((Below.refl _ _).drew)) ?_;(iterate 17 refine aG ?_);refine bR ?_;intro ω δ;(have B:=AA<|K.trans (δ.below.mono K.size));clear δ;go_upto_region 8 with fail;refine cB (aA ω) (aA.jD ((Below.refl _ _).drew)) ?_;(iterate 17 refine aG ?_);refine bR ?_;intro C ε;(have X:=AA<|B.trans (ε.below.mono B.size));clear ε;have v:=AA (r.trans (X.mono r.size));have ζ:=AA (Z.below X);have ì:=sU (A:=I) (n:=b) (c:=c1) (k:=a) (dn f E) (a:Int) rfl;have í:=GH (A:=I) (n:=b) (c:=c1) (k:=a) (aC f) (a:Int) rfl;(have Θ:Hid (0+a<=maxLen):=by show _<=_;unfold maxLen;omega);(have Ξ:Hid ((0+a)*64<=140737488355328):=by show _<=_;omega);(have Φ:Hid (a+1<=maxLen):=by show _<=_;have:=f.out;have:=l.out;have:=m.out;unfold maxLen;omega);(have Ψ:Hid ((a+1)*64<=140737488355328):=by show _<=_;have:=f.out;have:=l.out;have:=m.out;omega);(have Ω:Hid (a+1+(b - a)<=maxLen):=by show _<=_;have:=f.out;have:=l.out;have:=m.out;unfold maxLen;omega);(have À:Hid ((a+1+(b - a))*64<=140737488355328):=by show _<=_;have:=f.out;have:=l.out;have:=m.out;omega);(have Á:Hid (I=none->a=0/\c1=0):=λx=>by obtain⟨î,Â⟩:=W.out x;have:=f.out;exact⟨ah,Â⟩);have Ã:Hid (nE (I) a c1=none->b - a=0/\c1 - a=0):=Pb W (dn f E);have L:=AA (ζ.oo a f);have Ä:=AA (ζ.Df a c1 f E);obtain⟨M,η⟩:=bG (([ak d].flatten).toArray)
     go_wp2_with (first
      |(rw[bY 54];refine iL (.tmp 50) (.tmp 53) Ar R S T U (ji.nil C _).2.2 L.rd Á (mg (e.take a)) Θ Ξ (AJ _) ?_;intro ï w h;have j:=AA (lV (xs:=[]) h (Below.refl _ C) (AJ _) (ji.nil C _) L.all L.len);rw[Nat.zero_add,List.nil_append]at j;obtain⟨ð,ñ,rfl,-⟩:=ji.reads j.1;clear h)
      |((rw[aF 59];refine bS (φ _ (v.trans (j.2.mono v.size))) Ì Af ?_))
      |(rw[bY 60];refine dL (o:=⟨some 60,_,_,_,_,_⟩) rfl 37 57 1 _ rfl 64 aR [ak d] Ar Ig Q0 rfl aR aR Î rfl ?_;rw[<-η.out];have N:Hid (kD (w.alloc (.cells M 57)) (some ⟨w.heap.size,0,none⟩) 1 [d]):=(η.out ▸ OA w J);have θ:=AA (j.1.below (Below.aJ w (.cells M 57)));have O:Hid (av C (w.alloc (.cells M 57))):=j.2.alloc j.2.size _)
      |(rw[bY 61];refine iL (.tmp 55) (.tmp 60) Ar R S T U θ.2.2 N.rd (λx=>by cases x) (mg [d]) Φ Ψ O.size ?_;intro ò ó h;have i:=AA (lV h O O.size θ N.all N.len);obtain⟨ô,õ,rfl,-⟩:=ji.reads i.1;have P:=AA (Ä.below i.2);clear h)
      |(rw[bY 66];refine iL (.tmp 62) (.tmp 65) Ar R S T U i.1.2.2 P.rd Ã (mg (e.drop a)) Ω À i.2.size ?_;intro ö ø h;have D:=AA (lV h i.2 i.2.size i.1 P.all P.len);have ι:a+1+(b - a)=b+1:=(aC f);rw[ι]at D;obtain⟨Å,Æ,rfl,-⟩:=ji.reads D.1;clear h ι))
     go_roundw
     case rel=>exact⟨b+1,Å,Æ,e.take a++[d]++e.drop a,by go_num,rfl,l,D.1.base v.size,Δ,v.trans (D.2.mono v.size)⟩
     case measure=>(have:=l.out;simp[intOf];omega)
  ·have Ý:¬((b:Int) < (n:Int)):=ah
   have ú:b=n:=aC È;subst ú
   have Û:Hid (V=some e):=by
    show _=_;rw[<-ρ.out];exact Vv (by rw[Q.out.len];exact AJ _) _
   clear κ;go_wp2_with fail;go_ret2;exact⟨_,by rw[Û.out];rfl,r,by rw[Û.out];exact Y⟩
def pO(cur:Array Value)(L:List aj):Prop:=L.length*32<=cur.size/\∀(i:Nat) (d:aj),L[i]?=some d->∀k v,(ak d)[k]?=some v->cur[i*32+k]?=some v
theorem Fp{a:Array Value}{L:List aj}{b:Nat}(hd:jk L)(c:L.length=b)(d:a.toList.take (b*32)=L.flatMap ak):pO a L:=by
 have e:b*32<=a.size:=by
  have:=congrArg List.length d;rw[kH L hd,List.length_take,c,Array.length_toList]at this;omega
 refine⟨by rw[c];exact e,λb c f h i j=>?_⟩;have a:=Eb L hd b c f h i j;rw[<-d,List.getElem?_take]at a
 split at a
 ·rw[Array.getElem?_toList]at a
  exact a
 ·cases a
theorem pO.lD{c:Array Value}{L:List aj}(i:pO c L)(hd:jk L)(a:Nat)(l:a < L.length)(b:aj)(d:b.length=32):
  pO (c.toList.take (a*32)++(ak b).toArray.toList++c.toList.drop (a*32+(ak b).toArray.size)).toArray (L.set a b):=by
 have j:(ak b).length=32:=by rw[aB,d]
 have d:=i.1
 have d:c.toList.take (a*32)++(ak b).toArray.toList++c.toList.drop (a*32+(ak b).toArray.size)=splice c.toList (a*32) (ak b):=by simp[splice]
 have k:a*32+(ak b).length<=c.toList.length:=by rw[j,Array.length_toList];omega
 rw[d]
 refine⟨?_,λe m d f n h=>?_⟩
 ·rw[List.length_set,List.size_toArray]
  (have:(splice c.toList (a*32) (ak b)).length=c.size:=by rw[length_splice _ _ _ k,Array.length_toList]);omega
 ·have b:=(AU.1 h).1
  rw[aB]at b;rw[List.getElem?_toArray,qC _ _ _ k,j];by_cases b:a=e
  ·subst b
   rw[List.getElem?_set_self l]at d;obtain rfl:=AL d;rw[if_neg ah,if_pos ah,show a*32+f - a*32=f by omega];exact h
  ·rw[List.getElem?_set_ne b]at d
   have b:=hd.at_ d;have:=i.2 e m d f n h;rw[Array.getElem?_toList];by_cases b:e < a
   ·rw[if_pos ah];exact this
   ·rw[if_neg ah,if_neg ah];exact this
def vS(w:World)(g:Nat)(L:List aj):Prop:=jk L/\∃cur:Array Value,aL w g 23 cur/\pO cur L
section
variable {w w':World} {g:Nat} {L:List aj}
theorem vS.lt(a:vS w g L):g < w.heap.size:=by obtain⟨-,c,b,-⟩:=a;exact b.lt
theorem vS.below(h:vS w g L)(b:av w w'):vS w' g L:=by
 obtain⟨h0,c,a,d⟩:=h;exact⟨h0,c,(b.block g a.lt).trans a,d⟩
theorem vS.cell(h:vS w g L){i:Nat}{d:aj}(c:L[i]?=some d):∀a b,(ak d)[a]?=some b->w.cell? ⟨g,i*32+a,none⟩=some b:=by
 obtain⟨-,j,e,f⟩:=h;exact λa b j=>(e.cell _).trans (f.2 i d c a b j)
theorem vS.rd(a:vS w g L):j6 w (some ⟨g,0,none⟩) L.length L:=by
 obtain⟨h0,c,b,h⟩:=a;refine⟨rfl,h0,aL.reads b 0 _ (kH L h0) (λa u d=>?_)⟩;have b:=(AU.1 d).1;rw[kH L h0]at b;obtain⟨b,hd⟩:∃b,L[a / 32]?=some b:=⟨_,AV ah⟩;have f:=h0.at_ hd;obtain⟨c,e⟩:∃c,(ak b)[a % 32]?=some c:=⟨_,AV (by rw[aB,f];omega)⟩;have f:a / 32*32+a % 32=a:=ah;have a:=Eb L h0 _ b hd _ c e;rw[f,d]at a;have d:=h.2 _ b hd _ c e;rw[f]at d;rw[Nat.zero_add,d,Option.some.inj a]
theorem vS.UX(b:vS w g L)(a:Nat)(c:a<=L.length):j6 w (some ⟨g,0,none⟩) a (L.take a):=b.rd.oo a c
theorem vS.Nc{a n c:Nat}(d:w.ownsRow a 23 32 (.slice (some ⟨g,0,none⟩) n c) n (L.flatMap ak))(hd:jk L)(e:L.length=n):vS w g L/\n<=c/\a<=g:=by
 rcases d.2 with⟨b,-⟩ |⟨a,l,f,b,h,i,j,-,-,k⟩
 ·cases b
 ·injection b with a _ d
  (injection a with a);(injection a with a);subst a d;exact⟨⟨hd,f,i,Fp hd e k⟩,j,h⟩
end
theorem OB(b c:List aj)(a:Nat)(d:aj)(e:b.length=a)(f:a < c.length):(b++c.drop a).set a d=(b++[d])++c.drop (a+1):=by
 subst e;rw[List.set_append_right _ _ (Nat.le_refl _),Nat.sub_self,List.drop_eq_getElem_cons f,List.set_cons_zero];simp
theorem WU(b c:List aj)(a:Nat)(d:aj)(e:b.length=a)(f:c[a]?=some d):(b++c.drop a)[a]?=some d:=by
 subst e;rw[List.getElem?_append_right (Nat.le_refl _),Nat.sub_self,List.getElem?_drop,Nat.add_zero];exact f
theorem Si(c a:List aj)(b:Nat)(d:aj)(e:a[b]?=some d):c++a.drop b=(c++[d])++a.drop (b+1):=by
 obtain⟨a,rfl⟩:=AU.1 e;rw[List.drop_eq_getElem_cons a];simp
theorem Vd(c a:List aj)(b:Nat)(d:c.length=b)(e:b<=a.length):(c++a.drop b).length=a.length:=by
 rw[List.length_append,List.length_drop];omega
