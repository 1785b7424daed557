import Derived.Test.YtgldkfaiofkhbaaGreatDoorZ19
import Derived.Test.YtgldkfaiofkhbaaGreatDoorShelfH
namespace Go.Proofs.YtgldkfaiofkhbaaGreatDoor
open Go Go.RowKit Go.Proofs.Tryz
set_option maxRecDepth 100000
set_option maxHeartbeats 4000000
def kE(w:World)(B:Nat)(x:KD):Prop:=w.ownsRow B 5 1 (.slice x.A x.q.length x.c) x.q.length (ak x.q)
theorem kE.below{w a:World}{B:Nat}{x:KD}(h:kE w B x)(b:av w a):kE a B x:=dz h b
theorem kE.kept{S:Nat->Prop}{w e:World}{b:Nat}{x:KD}(c:kE w b x)(f:au S w e)(g:∀d (a:Array Value),S d->b<=d->¬aL w d 5 a):kE e b x:=by
 obtain⟨b,h⟩:=c;refine⟨b,?_⟩
 rcases h with c |⟨b,i,a,j,d,e,rest⟩
 ·exact .inl c
 ·exact .inr ⟨b,i,a,j,d,aL.kept e f (λc=>g b a c d e),rest⟩
theorem kE.reads{w:World}{a:Nat}{x:KD}(b:kE w a x):ax w 1 x.A x.q.length (ak x.q)/\x.q.length<=x.c/\(x.A=none->x.q.length=0/\x.c=0):=by
 obtain⟨f,g,a,c,-,d,e,-⟩:=Own.reads (show w.ownsRow _ _ _ _ _ _ from b);(injection a with b _ f);rw[b,f];exact⟨e,c,d⟩
theorem ol.blk{w:World}{B a d c:Nat}{e:List KD}(f:ol w B (.slice (some ⟨c,0,none⟩) a d) a e):∃b,aL w c 142 b:=by
 rcases f.2.2 with⟨a,-⟩ |⟨d,c2,b,a,-,c,-⟩
 ·injection a with a;cases a
 ·injection a with a
  (injection a with a);(injection a with a);subst a;exact⟨b,c⟩
theorem TN{a:World}{b:Nat}{c d:Array Value}(e:aL a b 142 c)(f:aL a b 5 d):False:=by
 have a:=e.symm.trans f;simp at a
theorem ol.off{S:Nat->Prop}{c d:World}{a e:Nat}{v:Value}{f:List KD}(b:ol c a v e f)(h:au S c d)(i:∀g,S g->g < a):ol d a v e f:=by
 obtain⟨a,c,d⟩:=b;refine⟨a,c,?_⟩
 rcases d with b |⟨a,c,e,f,g,j,k,l,m,n⟩
 ·exact .inl b
 ·exact .inr ⟨a,c,e,f,g,aL.kept j h (λb=>by have:=i a b;omega),k,l,m,n⟩
theorem ol.reads{w:World}{d n:Nat}{e:Value}{f:List KD}(g:ol w d e n f):∃a b,e=.slice a n b/\n<=b/\b<=maxLen/\(a=none->n=0/\b=0)/\VU w a n f/\∀c,a=some c->d<=c.block:=by
 obtain⟨a,b,d,e,f,h,i,j⟩:=Own.reads g.2;exact⟨a,b,d,e,f,h,⟨g.1,i⟩,λc d=>(j c d).1⟩
theorem wH{g d:World}{e b:Nat}{h f:Value}{c:List KD}{a:KD}(i:rC g e 142 33 h b 1 (c.flatMap iC) (iC a) f d)(j:c.length=b):ol d e f (b+1) (c++[a]):=by
 refine⟨by rw[List.length_append,j];rfl,?_⟩;have:=i.own;rwa[List.flatMap_append,show[a].flatMap iC=iC a by simp]
theorem NF{c d:World}{f g h i j:Nat}{e k:Value}{l m:List Value}(a:rC c f g h e i j l m k d):au (λb=>some b=e.ownBlock) c d:=⟨a.grow.os,a.grow.tape,a.grow.output,a.grow.size,λb c d=>a.grow.block b c d⟩
theorem yT{d:World}{b e:Nat}{c:Value}{f:List KD}(g:ol d b c e f):∀a,c.ownBlock=some a->b<=a:=λa b=>by
 rcases g.2.2 with⟨c,-⟩ |⟨d,f,h,e,i,-⟩
 ·rw[c]at b;cases b
 ·rw[e]at b
  have c:some d=some a:=b;(injection c with c);omega
theorem wm(a:World){b:List Value}(c:b.length=33):ax (a.alloc (.cells ([b].flatten).toArray 142)) 33 (some ⟨a.heap.size,0,none⟩) 1 b:=by
 have d:aL (a.alloc (.cells ([b].flatten).toArray 142)) a.heap.size 142 ([b].flatten).toArray:=aL.new _ _ _;refine⟨by rw[c],λ_=>⟨a.heap.size,0,rfl,by simp,λc u b=>?_⟩⟩;rw[d.cell];simpa using b
theorem Ih:(prog.info? 142).map (·.size)=some 33:=by kernel_rfl
theorem HZ:((prog.info? 142).bind (·.zero)).isSome=true:=by kernel_rfl
theorem NY(a:List (Nat×Value)):prog.built 142 a=Instr.fill (#[((0:Nat),(32:Nat)),(32,1)][·]?) (List.replicate 32 (Value.int .u8 0)++[Value.slice none 0 0]).toArray a:=by kernel_rfl
theorem EF(a:aj)(hx:a.length=32)(b:Option Addr)(c d:Nat)(e:World):(Instr.build 142 #[(0,.agg (ak a).toArray),(1,.slice b c d)]).run prog e=.ok (.agg (ak a++[Value.slice b c d]).toArray) e:=by
 refine run_build e _ _ _ ?_;rw[NY];have e:=gT (place:=(#[((0:Nat),(32:Nat)),(32,1)][·]?)) (i:=0) (v:=.agg (ak a).toArray) (xs:=ak a) (old:=List.replicate 32 (Value.int .u8 0)) (pre:=[]) (post:=[Value.slice none 0 0]) (rest:=[(1,.slice b c d)]) rfl rfl (by rw[aB,hx]) rfl aZ;have f:=gT (place:=(#[((0:Nat),(32:Nat)),(32,1)][·]?)) (i:=1) (v:=Value.slice b c d) (xs:=[Value.slice b c d]) (old:=[Value.slice none 0 0]) (pre:=ak a) (post:=[]) (rest:=[]) rfl rfl rfl (by rw[aB,hx]) rfl;simp only[List.nil_append,List.append_nil]at e f;rw[e,f,pK]
theorem Ja{a:World}{b:Nat}(c:Nat)(d:Array KD)(e:Array Obj):au (·=b) a (sortWorldK iC 33 a b 0 c d e):=by
 refine⟨rfl,rfl,rfl,?_,λc a b=>?_⟩
 ·unfold sortWorldK Sort.putRowK Sort.putRow
  rw[Sort.size_grow];unfold Sort.mapBlock;rw[Array.size_modify];exact Nat.le_add_right _ _
 ·unfold sortWorldK Sort.putRowK Sort.putRow
  rw[Sort.heap_grow_old _ _ (by unfold Sort.mapBlock;rw[Array.size_modify];exact a)];unfold Sort.mapBlock;rw[Array.getElem?_modify,if_neg (λa=>b a.symm)];rfl
theorem PD(b:List KD)(c i d g:Nat)(e:c<=2199023255552)(a:World)(h:ol a i (.slice (some ⟨d,0,none⟩) c g) c b):
  Calls prog 64 #[.slice (some ⟨d,0,none⟩) c g,.func (.func 62) #[] #[]] a λj f=>j=.returned (.tuple #[])/\∃e:List KD,Hid (e.Perm b/\e.Pairwise λk l=>aT (jF l) (jF k)=false)/\Hid (ol f i (.slice (some ⟨d,0,none⟩) c g) c e)/\Hid (au (·=d) a f):=by
 obtain⟨e,k⟩:=h.blk
 have l:∀e a,(callFunc 62 e).run prog a=.ok (.enter 62 e) a:=enters_of func62 bH rfl
 have e:b.toArray.size=c:=by rw[List.size_toArray,h.1]
 have i:=AnyQ.slices_SortFunc Tryz.sortHeld 33 (λ_=>rfl) (λ_=>rfl) iC lX zf Xf Yk 62 #[] d 0 g b.toArray a l (Jd d 0 _ a) (Ny h.2) k.lt (by rw[e];omega)
 simp only[e]at i
 change Calls _ 64 _ _ _ at i
 refine i.mono λj f ⟨l,c,d,g,m,hs,k⟩=>?_
 have i:Sort.PermIn 0 b.toArray.size b.toArray c:=e ▸ m
 have j:Sort.SortedIn (ltOf Xf) 0 b.toArray.size c:=e ▸ hs
 obtain⟨b,m,n⟩:=JX i j
 refine⟨l,c.toList,⟨m,n⟩,?_,?_⟩
 ·show ol f _ _ _ _
  rw[k];exact⟨by rw[b,e],Ky h.2 d c (by rw[<-Array.length_toList,b,e]) g⟩
 ·show au _ a f
  rw[k];exact Ja d c g
def gZ(w:World)(R:Nat)(l:List KD):Prop:=∃A c,aL w R 139 #[.slice A l.length c]/\l.length<=c/\VU w A l.length l/\∀x∈l,ax w 1 x.A x.q.length (ak x.q)/\x.q.length<=x.c/\(x.A=none->x.q.length=0/\x.c=0)
theorem gZ.below{w b:World}{R:Nat}{c:List KD}(h:gZ w R c)(a:av w b):gZ b R c:=by
 obtain⟨e,f,b,g,i,c⟩:=h;exact⟨e,f,(a.block _ b.lt).trans b,g,i.below a,λd hx=>⟨(c d hx).1.below a,(c d hx).2⟩⟩
theorem Ux:(prog.info? 23).map (·.size)=some 32:=by kernel_rfl
theorem X9{a:List KD}{c:aj}{b:Nat}(hs:bN jF a)(e:wS a c b false):∀f∈a,jF f≠c:=λf hx d=>by
 (have g:¬(a[b]?).map jF=some c:=by simpa using e.found.symm);have c:=hx;rw[<-List.take_append_drop b a]at c
 rcases Aj.1 c with c | c
 ·have:=e.low f c
  rw[d,gJ]at this;cases this
 ·obtain⟨f,h,rfl⟩:=List.getElem_of_mem c
  rw[List.length_drop]at h;rw[List.getElem_drop]at d;by_cases h0:f=0
  ·subst h0
   apply g;rw[List.getElem?_eq_getElem ah,Option.map_some];exact congrArg some d
  ·have c:aT (jF (a[b]'ah)) (jF a[b+f])=true:=Ep hs ah ah
   have f:=e.high (a[b]'ah) (by rw[<-List.getElem_cons_drop ah];exact List.mem_cons_self);rw[d,f]at c;cases c
theorem Xk{a:List KD}{e:aj}{b:Nat}(f:wS a e b true):∃c,a[b]?=some c/\jF c=e:=by
 (have d:(a[b]?).map jF=some e:=by simpa using f.found.symm);cases hx:a[b]? with
 | none=>rw[hx]at d;cases d
 | some c=>rw[hx]at d;exact⟨c,rfl,AL d⟩
def Pn(l:List KD)(d:aj)(w:World)(e:Ending)(w':World):Prop:=av w w'/\(((∀x∈l,jF x≠d)/\e=.returned (.slice none 0 0))\/∃x∈l,jF x=d/\e=.returned (.slice x.A x.q.length x.c))
theorem Ti(e:List KD)(j:e.length<=64)(o:bN jF e)(a:aj)(hd:a.length=32)(R:Nat)(d:World)(p:gZ d R e):
  Calls prog 127 #[.pointer (some ⟨R,0,none⟩),.agg (ak a).toArray] d (Pn e a d):=by
 obtain⟨b,h⟩:=aS (d.alloc (.cells (ak a).toArray 23))
 have q:Hid (aL b d.heap.size 23 (ak a).toArray):=h.out ▸ aL.new _ _ _
 have f:Hid (av d b):=h.out ▸ Below.aJ d _
 have x:=h.out
 obtain⟨g,r⟩:=aS (e.length)
 obtain⟨k,l,i,s,m,y⟩:=p.below f
 rw[r.out]at i s m j
 have t:Hid (∀c,av b c->c.cell? ⟨R,0,none⟩=some (.slice k g l)):=λc n=>((n.block _ i.lt).trans i |> λu:aL c R 139 #[.slice k g l]=>u.cell 0)
 have u:=AA m
 have v:=AA o
 have z:=AA hd
 have w:=AA j
 have A:Hid ((prog.info? 23).map (·.size)=some (ak a).toArray.size):=Ux.trans (congrArg some (by rw[List.size_toArray,aB,hd]))
 clear h p i s m y o hd j
 go_enter func127,ntmps127
 go_upto_region 1 with fail
 clear x
 have aD:Hid (av b b.drew):=(Below.refl _ _).drew
 refine dI (λc=>av b c) 11 ?_
 refine aH 0 aD ?_
 refine aH 1 aD ?_
 refine aH 2 aD ?_
 refine eG 3 aD (λc h=>t c h) ?_
 refine eO 4 rfl aD (λc h=>gM 23 (.tmp 3) rfl (d.heap.size) rfl 23 ((ak a).toArray) (0,0) _ (((h.block _ q.lt).trans q)) AB rfl A) ?_
 refine aU 5 ?_
 refine cK (R:=λi h=>∃(c:Nat) (d:Bool),i=.tuple #[.int .i64 (c:Int),.bool d]/\wS e a c d/\Below b.drew.heap.size b.drew h) func214 ((TP e g (aC w) v a z k l b.drew (u.below aD)).mono λm h j=>by obtain⟨c,d,a,b,n⟩:=j;exact⟨_,a,c,d,rfl,b,n⟩) ?_
 rintro a h ⟨c,d,rfl,b,e⟩
 replace b:=AA b
 have a:=aQ aD e
 clear e
 refine aV a ?_
 refine aH 6 a ?_
 refine aH 7 a ?_
 refine aH 8 a ?_
 refine aH 9 a ?_
 refine aH 10 a ?_
 refine bT ?_
 cases d with
 | false=>
  have d:=AA (X9 v b);go_wp2_with fail;go_ret;exact⟨f.trans (a.mono f.size),.inl ⟨d,rfl⟩⟩
 | true=>
  obtain⟨d,hx,e⟩:=Xk b;replace hx:=AA hx;replace e:=AA e;have b:Hid (c < g):=r.out ▸ (AU.1 hx).1;have i:(c:Int) < (g:Int):=aC b;have g:(0:Int)<=(c:Int):=ah;have g:(c:Int)<=64:=dn b w;obtain⟨g,i,c,j,b⟩:=(u.below a).at_ hx;subst c;have g:=b 32 _ (TB d);have c:=t h a;obtain⟨h,c⟩:=aS (d.q.length);rw[c.out]at g;have g:=AA (Ab hx);clear b;go_wp2_with fail;go_ret;exact⟨f.trans (a.mono f.size),.inr ⟨d,g,e,by rw[c.out];rfl⟩⟩
