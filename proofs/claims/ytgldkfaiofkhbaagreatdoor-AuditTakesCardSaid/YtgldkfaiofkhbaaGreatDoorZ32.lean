import Derived.Test.YtgldkfaiofkhbaaGreatDoorZ31
import Derived.Test.YtgldkfaiofkhbaaGreatDoorZ25
import Derived.Test.YtgldkfaiofkhbaaGreatDoorZ22
namespace Go.Proofs.YtgldkfaiofkhbaaGreatDoor
open Go Go.RowKit Go.Proofs.Tryz
set_option maxRecDepth 100000
set_option maxHeartbeats 16000000
def nV(s:Int)(H h:bE)(x y:Int)(ds:List aj):Int:=
 if fG x y ds=none\/x≠H.size\/y≠h.size then 170 else kC s H.root h.root x y ds
def dJ(s:Int)(H h:bE)(x y:Int)(ds:List aj):Int:=
 if h.log≠H.log then 173 else if h.size < H.size then 172 else if oq h H=true then 0 else if h.size=H.size\/h.clock < H.clock then 173 else nV s H h x y ds
def fJ(s least:Int)(es:List aj)(H h:bE)(ss:List aj)(x y:Int)(ds:List aj):Int:=
 if(iq es h ss least).2≠0 then(iq es h ss least).2 else dJ s H h x y ds
def KI(s least:Int)(es:List aj)(H h:bE)(ss:List aj)(x y:Int)(ds:List aj):Bool:=decide (fJ s least es H h ss x y ds=0)&&!oq h H
def w9(s least:Int)(R:Nat)(h:bE)(v:Value):List Value:=[.int .i64 s,.int .i64 least,.pointer (some ⟨R,0,none⟩)]++aN h v
theorem FQ{s least:Int}{R:Nat}{h:bE}(b:h.Ok)(d:Value):(w9 s least R h d).length=102:=by unfold w9;rw[List.length_append,dY b];rfl
theorem QM{s least:Int}{R:Nat}{h:bE}(d:Value)(b:Nat)(u:Value)(e:(aN h d)[b]?=some u):(w9 s least R h d)[3+b]?=some u:=by
 unfold w9;rw[List.getElem?_append_right aZ,List.length_cons,List.length_cons,List.length_cons,List.length_nil,show 3+b - (0+1+1+1)=b by omega];exact e
structure gN(w:World)(a:Nat)(s least:Int)(R:Nat)(h:bE)(A:Option Addr)(n c:Nat)(ss:List aj):Prop where
 ok:h.Ok
 nil:A=none->n=0/\c=0
 few:n<=16
 blk:aL w a 126 (w9 s least R h (.slice A n c)).toArray
 rA:kD w A n ss
section
variable {w w':World} {a:Nat} {s least:Int} {R:Nat} {h:bE} {A:Option Addr} {n c:Nat} {ss:List aj}
theorem gN.below(k:gN w a s least R h A n c ss)(b:av w w'):gN w' a s least R h A n c ss:=⟨k.ok,k.nil,k.few,(b.block _ k.blk.lt).trans k.blk,k.rA.below b⟩
theorem kD.kept{S:Nat->Prop}(b:kD w A n ss)(e:au S w w')(f:∀d g,A=some ⟨d,g,none⟩->¬S d):kD w' A n ss:=⟨b.len,b.all,b.rd.kept e f⟩
theorem gN.kept{S:Nat->Prop}(b:gN w a s least R h A n c ss)(d:au S w w')(f:¬S a)(g:∀e i,A=some ⟨e,i,none⟩->¬S e):gN w' a s least R h A n c ss:=⟨b.ok,b.nil,b.few,b.blk.kept d f,b.rA.kept d g⟩
theorem gN.width(b:gN w a s least R h A n c ss):w.cell? ⟨a,0,none⟩=some (.int .i64 s):=by rw[b.blk.cell 0];rfl
theorem gN.wants(b:gN w a s least R h A n c ss):w.cell? ⟨a,1,none⟩=some (.int .i64 least):=by rw[b.blk.cell 1];rfl
theorem gN.ring(b:gN w a s least R h A n c ss):w.cell? ⟨a,2,none⟩=some (.pointer (some ⟨R,0,none⟩)):=by rw[b.blk.cell 2];rfl
theorem gN.note(d:gN w a s least R h A n c ss)(b:Nat)(u:Value)(e:(aN h (.slice A n c))[b]?=some u):w.cell? ⟨a,3+b,none⟩=some u:=by
 rw[d.blk.cell (3+b),List.getElem?_toArray];exact QM _ b u e
theorem gN.head(b:gN w a s least R h A n c ss)(j:Nat)(u:Value)(d:(aI h)[j]?=some u):w.cell? ⟨a,3+j,none⟩=some u:=by
 refine b.note j u ?_;have:=lN (h:=h) (.slice A n c) j u d;rwa[Nat.zero_add]at this
theorem gN.row(b:gN w a s least R h A n c ss):w.cell? ⟨a,101,none⟩=some (.slice A n c):=b.note 98 _ (mJ b.ok _)
end
theorem TV{s least:Int}{R:Nat}{h b:bE}(f:h.Ok)(g:b.Ok)(e d:Value):((w9 s least R h e).toArray.toList.take 3++(aN b d).toArray.toList++(w9 s least R h e).toArray.toList.drop (3+(aN b d).toArray.size)).toArray=(w9 s least R b d).toArray:=by
 (have i:(aN b d).toArray.size=99:=by rw[List.size_toArray,dY g]);have b:(w9 s least R h e).drop (3+99)=[]:=List.drop_of_length_le (by rw[FQ f];omega);rw[i,List.toList_toArray,List.toList_toArray,b,List.append_nil];congr 1
def zA(a:Nat)(s least:Int)(R:Nat)(es:List aj)(H h:bE)(rs:List aj)(x y:Int)(ds:List aj)(w w':World):Prop:=
 (KI s least es H h rs x y ds=false/\av w w')\/(KI s least es H h rs x y ds=true/\au (·=a) w w'/\∃(A':Option Addr) (n' c':Nat),gN w' a s least R h A' n' c' rs/\∀b,A'=some b->w.heap.size<=b.block)
def zB(a:Nat)(s least:Int)(R:Nat)(es:List aj)(H h:bE)(rs:List aj)(x y:Int)(ds:List aj)(w:World)(e:Ending)(w':World):Prop:=
 e=.returned (.int .i64 (fJ s least es H h rs x y ds))/\zA a s least R es H h rs x y ds w w'
theorem zB.kept{a:Nat}{s least:Int}{R:Nat}{b:List aj}{d h:bE}{e:List aj}{x f:Int}{g:List aj}{w w':World}{i:Ending}(j:zB a s least R b d h e x f g w i w'):au (·=a) w w':=by
 rcases j.2 with⟨-,b⟩ |⟨-,d,-⟩
 ·exact au.of_below b
 ·exact d
theorem KA{d:Nat->Prop}{w w':World}{b n:Nat}{e:Value}{f:List aj}(h:ji w b e n f)(i:au d w w')(j:∀g,d g->g < b):ji w' b e n f:=by
 obtain⟨b,d,e,f⟩:=h;refine⟨b,d,e,?_⟩
 rcases f with h |⟨b,c,d,e,g,k,l,m,o,p⟩
 ·exact .inl h
 ·exact .inr ⟨b,c,d,e,g,aL.kept k i (λf=>by have:=j b f;omega),l,m,o,p⟩
def wQ(h:bE)(n:Nat)(ss:List aj)(w:World)(e:Ending)(w':World):Prop:=∃(A':Option Addr) (c':Nat),e=.returned (.agg (aN h (.slice A' n c')).toArray)/\ji w' w.heap.size (.slice A' n c') n ss/\av w w'
theorem wQ.jD{e:bE}{n a:Nat}{f:List aj}{b c:World}{g:Ending}{d:Option Addr}(h:g=.returned (.agg (aN e (.slice d n a)).toArray))(i:ji c b.heap.size (.slice d n a) n f)(j:av b c):wQ e n f b g c:=⟨d,a,h,i,j⟩
theorem UB{d:World}{e:Option Addr}{b:Nat}{a:List aj}(c:kD d e b a):nI a/\a.length=b:=⟨c.all,c.len⟩
theorem FE(h:bE)(g:h.Ok)(j:List aj)(a:Nat)(r:a<=2199023255552)(d:Option Addr)(e:Nat)(n:d=none->a=0/\e=0)(b:World)(m:kD b d a j):
  Calls prog 68 #[.agg (aN h (.slice d a e)).toArray] b (wQ h a j b):=by
 obtain⟨s,t,v,w,x⟩:=bV Fj
 obtain⟨c,i⟩:∃c,Hid ((b.alloc (.cells (aN h (.slice d a e)).toArray 39)).alloc (.cells Dm 39)=c):=⟨_,AA rfl⟩
 have f:(b.alloc (.cells (aN h (.slice d a e)).toArray 39)).alloc (.cells zeroCells39 39)=c:=i
 have y:Hid (b.heap.size+2=c.heap.size):=by show _=_;rw[<-i.out];simp
 have k:Hid (fC c b.heap.size h d a e j):=i.out ▸ (fC.new m).below (Below.aJ _ _)
 have z:Hid (aL c (b.heap.size+1) 39 Dm):=by
  show aL _ _ _ _;rw[<-i.out];have:=aL.new (b.alloc (.cells (aN h (.slice d a e)).toArray 39)) 39 Dm;rwa[show(b.alloc (.cells (aN h (.slice d a e)).toArray 39)).heap.size=b.heap.size+1 by simp]at this
 have l:Hid (av b c):=i.out ▸ (Below.aJ b _).alloc aZ _
 have A:Hid ((prog.info? 36).map (·.size)=some (aI h).length):=by show _=_;rw[bQ g];exact iT
 have o:=AA (λf=>jR g f)
 have B:=AA (λf=>zY g f)
 have C:=AA (λd a e=>qL (h:=h) d a e)
 have D:=AA (λd a e f=>J9 g d a e f)
 have q:=AA (UB m)
 have E:Hid (0+a<=maxLen):=by show _<=_;unfold maxLen;omega
 have F:Hid ((0+a)*64<=140737488355328):=by show _<=_;omega
 have G:=AA n
 have H:=AA (k.row g)
 clear i g n m r
 go_enter func68,ntmps68
 go_upto_region 1 with fail
 have aD:Hid (au (·=b.heap.size+1) c c.drew):=(au.refl _ c).drew
 refine dI (λf=>au (·=b.heap.size+1) c f) 7 ?_
 refine aH 0 aD ?_
 refine eO 1 rfl aD (λf g=>ku 36 (.tmp 3) rfl (b.heap.size) (0) rfl (aI h) _ ((λi u m=>(au.cell g (p:=⟨b.heap.size,0+i,none⟩) k.blk.lt aZ).trans (k.head i u m))) AQ rfl A) ?_
 refine aH 2 aD ?_
 refine eG 3 aD (λf g=>(au.cell g (p:=⟨b.heap.size,98,none⟩) k.blk.lt aZ).trans H) ?_
 refine aU 4 ?_
 refine gW _ (.const (.slice none 0 0)) (.tmp 6) 37 rfl c.heap.size 57 s (.agg kW) 64 64 Ar t v w x rfl aR (.slice none 0 0) 0 (([]:List aj).flatMap ak) rfl (Aa _ _ _ _) d a e (j.flatMap ak) rfl k.rA.rd.drew G (mg j) E F (AJ _) (λi r m=>?_)
 obtain⟨d,j⟩:=lV (xs:=[]) m (Below.refl c.heap.size c.drew) (AJ _) (ji.nil _ _) q.1 q.2
 rw[Nat.zero_add,List.nil_append]at d
 obtain⟨k,n,rfl,-⟩:=ji.reads d
 replace d:=AA d
 have e:=AA<|((Below.refl _ c).drew).trans j
 have i:Hid (au (·=b.heap.size+1) c r):=au.of_below e
 have b:=bf e z
 clear m j
 refine aV i ?_
 refine eO 5 rfl i (λf g=>fe 39 #[(0,.tmp 4),(1,.tmp 7)] rfl #[(0,.agg (aI h).toArray),(1,.slice k a n)] (by first| rfl |(simp[Act.eval];done)) _ (D k a n f)) ?_
 refine aU 6 ?_
 refine fM b (o _) (B _) (C _ _ _) ?_
 intro c b a
 have f:=AA<|(KA d a (λg c=>by have:=y.out;omega)).base l.size
 have d:=AA<|(l.trans (e.mono l.size)).trans (au.aW a (BF _) (l.trans (e.mono l.size)).size)
 have e:=AA<|i.trans a (λg _ c=>c)
 replace b:=AA b
 clear a
 refine aV e ?_
 refine bT ?_
 go_wp2_with fail
 refine gI b (o _) Am ?_
 exact wQ.jD rfl f d
theorem Lx(d:Nat)(e f:Int)(R:Nat)(a:bE)(g:Option Addr)(h i:Nat)(j:List aj)(b:World)(c:gN b d e f R a g h i j):
  bq 18 #[.pointer (some ⟨d,0,none⟩)] b (.agg (aI a).toArray):=by
 obtain⟨e,d⟩:=aS (b.alloc (.cells tL 36))
 have f:b.alloc (.cells zeroCells36 36)=e:=d
 have f:Hid (aL e b.heap.size 36 tL):=d.out ▸ aL.new b _ _
 have g:Hid (av b e):=d.out ▸ Below.aJ b _
 have i:=AA (c.below g)
 have e:Hid ((prog.info? 36).map (·.size)=some (aI a).length):=by show _=_;rw[bQ c.ok];exact iT
 have h:Hid ((prog.info? 36).map (·.size)=some (aI a).toArray.size):=by show _=_;rw[List.size_toArray];exact e
 have j:Hid (tL.size=(aI a).toArray.size):=yx.trans (show 98=(aI a).length from(bQ c.ok).symm)
 have k:Hid ((aI a).toArray.all (λl=>l.oneCell')=true):=by show _=_;rw[List.all_toArray];exact List.all_eq_true.2 (sD a)
 clear d c
 go_enter func18,ntmps18
 go_wp2_with (first
  |((rw[aF 7];refine bS i.head e AQ ?_))
  |(rw[iE 36 2];refine wpList_store_row (o:=⟨none,_,_,_,_,_⟩) rfl 36 (.tmp 2) (.tmp 7) rfl b.heap.size (aI a).toArray rfl rfl 36 tL f h j k ?_))
 refine gI (setRow_heap _ _ _ _ _ _ f) h AQ ?_
 exact⟨rfl,below_setRow g (AJ _) _⟩
theorem Lu(f:Nat)(g i:Int)(R:Nat)(h:bE)(c:Option Addr)(b d:Nat)(k:List aj)(a:World)(e:gN a f g i R h c b d k):
  Calls prog 19 #[.pointer (some ⟨f,0,none⟩)] a (wQ h b k a):=by
 obtain⟨g,i⟩:=aS (a.alloc (.cells Dm 39))
 have f:a.alloc (.cells zeroCells39 39)=g:=i
 have m:Hid (aL g a.heap.size 39 Dm):=i.out ▸ aL.new a _ _
 have j:Hid (av a g):=i.out ▸ Below.aJ a _
 have f:=AA (e.below j)
 have p:Hid ((prog.info? 39).map (·.size)=some (aN h (.slice c b d)).length):=by show _=_;have:=jR e.ok (.slice c b d);rw[List.size_toArray]at this;exact this
 have n:=AA (λl=>jR e.ok l)
 have q:=AA (λl=>zY e.ok l)
 have l:=AA (λc b d=>qL (h:=h) c b d)
 clear i e
 go_enter func19,ntmps19
 go_wp2_with (first
  |((rw[aF 6];refine bS f.note p Am ?_))
  |(go_at_call 68;refine(FE h f.ok k b (aC f.few) c d f.nil g f.rA).mono ?_;rintro f e ⟨g,c2,rfl,c,d⟩;have e:=AA<|c.base j.size;have e:=aQ j d;have i:=bf d m;have k:=AA c;have p:=AA m.lt;clear c d)
  |(rw[iE 39 2];refine fZ (o:=⟨none,_,_,_,_,_⟩) rfl 39 (.tmp 2) (.tmp 7) rfl a.heap.size (aN h (.slice g b c2)).toArray rfl rfl 39 Dm i (n _) (q _) (l _ _ _) ?_;intro c a b;have c:=AA<|(KA k b (λd f=>by have:=p.out;omega)).base j.size;have d:=AA<|e.trans (au.aW b (AJ _) e.size);replace a:=AA a;clear b))
 refine gI a (n _) Am ?_
 exact wQ.jD rfl c d
theorem wV:prog.eqGuardType prog.depth 36=false:=by kernel_rfl
theorem xV:prog.eqGuardType prog.depth 23=false:=by kernel_rfl
theorem xN:(prog.info? 46).map (·.size)=some 3:=by kernel_rfl
theorem mP:(prog.info? 23).map (·.size)=some 32:=by kernel_rfl
structure Gn(cs:Array Value):Prop where
 size:(prog.info? 36).map (·.size)=some cs.size
 zero:tL.size=cs.size
 one:cs.all (λv=>v.oneCell')=true
theorem mK{a:bE}(b:a.Ok):Gn (aI a).toArray:=⟨by rw[List.size_toArray,bQ b];exact iT,yx.trans (show 98=(aI a).length from(bQ b).symm),by rw[List.all_toArray];exact List.all_eq_true.2 (sD a)⟩
theorem Uh{b:List aj}{e:bE}{d:List aj}{a:Int}(c:(iq b e d a).2=0):d.length<=16:=by
 unfold iq at c;by_cases b:a < 1\/16 < a
 ·rw[if_pos b]at c;exact absurd c aR
 rw[if_neg b]at c;by_cases a:(lI e d).2=0
 ·rcases qM e d d.length rfl with⟨-,b⟩ |⟨-,-,b⟩ |⟨-,-,b⟩ |⟨-,-,-,-,b⟩ |⟨-,-,f,-⟩
  ·rw[b]at a;cases a
  ·rw[b]at a;cases a
  ·rw[b]at a;cases a
  ·rw[b]at a;cases a
  ·exact f
 ·rw[if_neg a]at c;exact absurd c aR
theorem oV{p:Nat}{e f:Int}{q:Nat}{g:List aj}{b c:bE}{h:List aj}{i j:Int}{k:List aj}{l m:World}{n:Ending}{d:Int}(o:fJ e f g b c h i j k=d)(a:d≠0\/oq c b=true)(r:n=.returned (.int .i64 d))(s:av l m):zB p e f q g b c h i j k l n m:=by
 refine⟨by rw[o];exact r,.inl ⟨?_,s⟩⟩;unfold KI;rw[o]
 rcases a with a | a
 ·rw[decide_eq_false a];rfl
 ·rw[a];simp
theorem Rj{b:Nat}{e f:Int}{i:Nat}{o:List aj}{g:bE}{u:Option Addr}{v w:Nat}{x:List aj}{c:bE}{j:List aj}{p q:Int}{r:List aj}{h k l:World}{a:Ending}{m:Option Addr}{d n:Nat}(y:gN h b e f i g u v w x)(z:c.Ok)(A:d<=16)(s:fJ e f o g c j p q r=0)(B:oq c g=false)(C:a=.returned (.int .i64 0))(D:av h k)(E:ji k h.heap.size (.slice m d n) d j)(t:au (·=b) k l)(F:aL l b 126 (w9 e f i c (.slice m d n)).toArray):zB b e f i o g c j p q r h a l:=by
 obtain⟨h,i,e,-,-,f,g,c⟩:=ji.reads E;(injection e with h _ i);subst h i;have e:=y.blk.lt;refine⟨by rw[s];exact C,.inr ⟨?_,(au.of_below D).trans t (λe _ a=>a),m,d,n,⟨z,f,A,F,g.kept t (λe h a=>?_)⟩,c⟩⟩
 ·unfold KI
  rw[s,B];rfl
 ·have:=c _ a
  show ¬e=b
  dsimp only at this
  omega
theorem yI(γ:List aj)(δ:List KD)(ç:(δ.map (·.q)).Perm γ)(è:bN jF δ)(é:δ.length<=64)(ê:∀d∈δ,lT d.q.length=true)(q:Nat)(s least:Int)(R:Nat)(b:bE)(Δ:Option Addr)(Θ Ξ:Nat)(ë:List aj)(h:bE)(T:h.Ok)(E:List aj)(m:Nat)(r:Option Addr)(z:Nat)(Ò:r=none->m=0/\z=0)(d e:Int)(g:List aj)(F:Option Addr)(A c2:Nat)(ì:A < 140737488355328)(w:World)(Φ:bn w)(Ó:gZ w R δ)(U:gN w q s least R b Δ Θ Ξ ë)(Ô:kD w r m E)(í:j6 w F A g):
  Calls prog 17 #[.pointer (some ⟨q,0,none⟩),.agg (aN h (.slice r m z)).toArray,.agg (eP d e F A c2)] w (zB q s least R γ b h E d e g w):=by
 unfold eP
 obtain⟨L,Ψ⟩:∃L,Hid ((w.alloc (.cells (aN h (.slice r m z)).toArray 39)).alloc (.cells #[Value.int .i64 d,Value.int .i64 e,Value.slice F A c2] 46)=L):=⟨_,AA rfl⟩
 have Õ:(w.alloc (.cells (aN h (.slice r m z)).toArray 39)).heap.size=w.heap.size+1:=by simp
 have Ω:Hid (fC L w.heap.size h r m z E):=by show fC _ _ _ _ _ _ _;rw[<-Ψ.out];exact(fC.new Ô).below (Below.aJ _ _)
 have î:Hid (aL L (w.heap.size+1) 46 #[Value.int .i64 d,Value.int .i64 e,Value.slice F A c2]):=by
  show aL _ _ _ _;rw[<-Ψ.out,<-Õ];exact aL.new _ _ _
 have À:Hid (av w L):=by show Below _ _ _;rw[<-Ψ.out];exact(Below.aJ w _).alloc (by rw[Õ];omega) _
 have Č:=Ψ.out
 have ρ:=AA (U.below À)
 have č:=AA U
 have Ď:Hid (∀a,av w a->bn a):=λa n=>Φ.below n Φ.1
 have Ĩ:Hid (∀a,av w a->gZ a R δ):=λa n=>Ó.below n
 have ï:Hid (∀a,av w a->j6 a F A g):=λa n=>í.below n
 have Ö:Hid (∀a,av w a->gN a q s least R b Δ Θ Ξ ë):=λa n=>U.below n
 have v:=AA T
 have M:=AA U.ok
 have ď:=AA Ò
 have ð:Hid (∀a,av w a->kD a r m E->Calls prog 65 #[.pointer (some ⟨R,0,none⟩),.agg (aN h (.slice r m z)).toArray,.int .i64 least] a (JB γ h E least a)):=λa n Đ=>L8 γ δ ç è é ê h T E m r z Ò least R a (Φ.below n Φ.1) (Ó.below n) Đ
 have đ:=AA Ô.len
 have ñ:Hid ((prog.info? 39).map (·.size)=some (aN h (.slice r m z)).toArray.size):=jR T _
 have ĩ:=AA (λÁ=>zY T Á)
 have Ē:=AA (λΔ Θ Ξ=>qL (h:=h) Δ Θ Ξ)
 have ē:Hid ((prog.info? 36).map (·.size)=some (aI b).length):=by show _=_;rw[bQ U.ok];exact iT
 have Ĕ:Hid ((prog.info? 36).map (·.size)=some (aI h).length):=by show _=_;rw[bQ T];exact iT
 have x:=AA (mK U.ok)
 have y:=AA (mK T)
 have ò:=AA T.log
 have ó:=AA U.ok.log
 have ĕ:=AA ì
 obtain⟨σ,Â⟩:=aS ((iq γ h E least).2)
 have ô:Hid (¬σ=0->fJ s least γ b h E d e g=σ):=λB=>by unfold fJ;rw[Â.out,if_pos B]
 have õ:Hid (σ=0->fJ s least γ b h E d e g=dJ s b h d e g):=λB=>by unfold fJ;rw[Â.out,if_neg (λV=>V B)]
 have ö:=AA ρ.ring
 have ø:=AA ρ.wants
 clear Ψ Φ Ó U Ô í T Ò ç è é ê Õ ì
 go_enter func17,ntmps17
 go_upto_region 1 with fail
 have aD:Hid (av L L.drew):=(Below.refl _ _).drew
 refine dI (λa=>av L a) 15 ?_
 refine aH 0 aD ?_
 refine aH 1 aD ?_
 refine aH 2 aD ?_
 refine eG 3 aD (λa l=>(l.cell (p:=⟨q,2,none⟩) ρ.blk.lt).trans ö) ?_
 refine eO 4 rfl aD (λa l=>gM 39 (.tmp 4) rfl (w.heap.size) rfl 39 ((aN h (.slice r m z)).toArray) (0,0) _ ((show aL a w.heap.size 39 (aN h (.slice r m z)).toArray from(l.block _ Ω.blk.lt).trans Ω.blk)) Am rfl ñ) ?_
 refine aH 5 aD ?_
 refine aH 6 aD ?_
 refine aH 7 aD ?_
 refine eG 8 aD (λa l=>(l.cell (p:=⟨q,1,none⟩) ρ.blk.lt).trans ø) ?_
 refine fP 9 (λK f=>?_)
 refine cK (R:=λÁ τ=>(∃u,Á=.tuple #[u,.int .i64 σ])/\av L τ) Bn ((ð _ (À.trans (aD.mono À.size)) (Ω.below aD).rA).mono λÃ τ ⟨u,Ø,n,_⟩=>⟨_,Ø,⟨u,by rw[Â.out]⟩,aD.trans (n.mono aD.size)⟩) ?_
 rintro Ī c ⟨⟨u,rfl⟩,k⟩
 replace k:=AA k
 go_simp
 refine f _ _ k ?_
 clear f K
 refine aH 10 k ?_
 refine aH 11 k ?_
 refine aH 12 k ?_
 refine aH 13 k ?_
 refine aH 14 k ?_
 refine bT ?_
 have Ù:=aQ À k
 have Ú:=AA (Ω.below k)
 have ù:=bf k î
 have ú:=AA (ρ.below k)
 clear k aD Č Ω î ρ ö ø À
 by_cases Í:¬(σ=0)
 ·go_wp2_with fail
  go_ret;exact oV (ô Í) (.inl Í) rfl Ù
 have Ė:σ=0:=Decidable.not_not.1 Í
 subst Ė
 clear Í ô
 have û:Hid (m<=16):=by show _<=_;rw[<-đ.out];exact Uh Â
 have ε:=AA (õ rfl)
 clear õ Â ð
 go_upto_region 4 with fail
 go_cut [9,10]from 30 to 37 (λÁ u wr=>∃G H,Á=.pointer (some ⟨G,0,none⟩)/\u=.pointer (some ⟨H,0,none⟩)/\Hid (aL wr G 36 (aI b).toArray)/\Hid (aL wr H 36 (aI h).toArray)/\Hid (av c wr))
 case first=>
  have aD:Hid (av c c.drew):=(Below.refl _ _).drew;refine dI (λa=>av c a) 11 ?_;refine aH 0 aD ?_;refine aH 1 aD ?_;refine aH 2 aD ?_;refine aH 3 aD ?_;refine eO 4 rfl aD (λa l=>ku 36 (.tmp 33) rfl (q) (3) rfl (aI b) _ ((ú.below l).head) AQ rfl ē) ?_;refine aH 5 aD ?_;refine eO 6 rfl aD (λa l=>ku 36 (.tmp 35) rfl (w.heap.size) (0) rfl (aI h) _ ((Ú.below l).head) AQ rfl Ĕ) ?_;refine iP (i:=7) (j:=8) rfl rfl (by kernel_rfl) (by rfl) (by rfl) (λK f=>?_) (λK f=>?_)
  ·have k:=AA (aD.alloc aD.size (.cells zeroCells36 36))
   go_simp;refine f _ _ k ?_;clear f K;refine fP 8 (λK f=>?_);have N:=AA (k.alloc k.size (.cells zeroCells36 36));go_simp;refine f _ _ N ?_;clear f K;(have Ä:(c.alloc (.cells zeroCells36 36)).heap.size=c.heap.size+1:=by simp);have Û:Hid (aL ((c.alloc (.cells zeroCells36 36)).alloc (.cells zeroCells36 36)).drew c.heap.size 36 tL):=((aL.new c _ _).alloc _).drew;(have Ü:Hid (aL ((c.alloc (.cells zeroCells36 36)).alloc (.cells zeroCells36 36)).drew (c.heap.size+1) 36 tL):=by show aL _ _ _ _;rw[<-Ä];exact(aL.new _ _ _).drew);replace N:Hid (av c ((c.alloc (.cells zeroCells36 36)).alloc (.cells zeroCells36 36)).drew):=(((Below.refl _ c).alloc (AJ _) _).alloc (by simp) _).drew;clear Ä;generalize((c.alloc (.cells zeroCells36 36)).alloc (.cells zeroCells36 36)).drew=ė at*;refine fP 9 (λK f=>?_);refine fM Û x.size x.zero x.one ?_;intro O ζ η;have θ:Hid (av c O):=N.trans (au.aW η (by omega) N.size);have Ý:Hid (aL O (c.heap.size+1) 36 tL):=aL.kept Ü η (by omega);replace ζ:=AA ζ;clear η;go_simp;refine f _ _ θ ?_;clear f K;refine fP 10 (λK f=>?_);refine fM Ý y.size y.zero y.one ?_;intro υ ι κ;have Å:Hid (av c υ):=θ.trans (au.aW κ (by omega) θ.size);have Þ:Hid (aL υ c.heap.size 36 (aI b).toArray):=aL.kept ζ κ (by omega);replace ι:=AA ι;clear κ;go_simp;refine f _ _ Å ?_;clear f K;refine bT ?_;go_wp2_with fail;go_meet
   case rel=>exact⟨_,_,rfl,rfl,Þ,ι,Å⟩
  ·have k:=AA (aD.alloc aD.size (.cells zeroCells36 36))
   go_simp;refine f _ _ k ?_;clear f K;refine fP 7 (λK f=>?_);have N:=AA (k.alloc k.size (.cells zeroCells36 36));go_simp;refine f _ _ N ?_;clear f K;(have Ä:(c.alloc (.cells zeroCells36 36)).heap.size=c.heap.size+1:=by simp);have Û:Hid (aL ((c.alloc (.cells zeroCells36 36)).alloc (.cells zeroCells36 36)).drew c.heap.size 36 tL):=((aL.new c _ _).alloc _).drew;(have Ü:Hid (aL ((c.alloc (.cells zeroCells36 36)).alloc (.cells zeroCells36 36)).drew (c.heap.size+1) 36 tL):=by show aL _ _ _ _;rw[<-Ä];exact(aL.new _ _ _).drew);replace N:Hid (av c ((c.alloc (.cells zeroCells36 36)).alloc (.cells zeroCells36 36)).drew):=(((Below.refl _ c).alloc (AJ _) _).alloc (by simp) _).drew;clear Ä;generalize((c.alloc (.cells zeroCells36 36)).alloc (.cells zeroCells36 36)).drew=ė at*;refine fP 9 (λK f=>?_);refine fM Ü x.size x.zero x.one ?_;intro O ζ η;(have θ:=AA<|N.trans (au.aW η ah N.size));(have Ý:=AA<|aL.kept Û η ah);replace ζ:=AA ζ;clear η;go_simp;refine f _ _ θ ?_;clear f K;refine aU 10 ?_;refine fM Ý y.size y.zero y.one ?_;intro υ ι κ;(have Å:=AA<|θ.trans (au.aW κ ah θ.size));(have Þ:=AA<|aL.kept ζ κ ah);replace ι:=AA ι;clear κ;refine aV Å ?_;refine bT ?_;go_wp2_with fail;go_meet
   case rel=>exact⟨_,_,rfl,rfl,Þ,ι,Å⟩
 case rest=>
  obtain⟨G,H,rfl,rfl,I,J,Î⟩:=hcut;obtain⟨W,rfl⟩:=fB wc;have μ:=aQ Ù Î;have ü:=AA (Ú.below Î);have ß:=bf Î ù;clear Î Ù Ú ù ú;(have P:=AA<|rT _ _ ò ó W);(have ν:Hid (∀j u,(ak h.log)[j]?=some u->W.cell? ⟨H,0+j,none⟩=some u):=λj u C=>by rw[J.out.cell (0+j),List.getElem?_toArray];exact jb j u C);(have ξ:Hid (∀j u,(ak b.log)[j]?=some u->W.cell? ⟨G,0+j,none⟩=some u):=λj u C=>by rw[I.out.cell (0+j),List.getElem?_toArray];exact jb j u C);(have φ:Hid ((prog.info? 23).map (·.size)=some (ak h.log).length):=by show _=_;rw[aB,ò.out];exact mP);(have χ:Hid ((prog.info? 23).map (·.size)=some (ak b.log).length):=by show _=_;rw[aB,ó.out];exact mP);(have Ę:W.cell? ⟨H,32,none⟩=some (.int .i64 h.size):=by rw[J.out.cell 32,List.getElem?_toArray];exact bZ v);(have ę:W.cell? ⟨G,32,none⟩=some (.int .i64 b.size):=by rw[I.out.cell 32,List.getElem?_toArray];exact bZ M);(have Ě:W.cell? ⟨H,97,none⟩=some (.int .i64 h.clock):=by rw[J.out.cell 97,List.getElem?_toArray];exact fo v);(have ě:W.cell? ⟨G,97,none⟩=some (.int .i64 b.clock):=by rw[I.out.cell 97,List.getElem?_toArray];exact fo M);(have Q:=AA<|Cj h b v M W);by_cases t:h.log=b.log
  ·have X:=AY t
   rw[X]at P;by_cases Y:h.size < b.size
   ·have D:Hid (dJ s b h d e g=172):=by show _=_;unfold dJ;rw[if_neg (λB=>B t),if_pos Y]
    replace t:=AA t;clear X
    go_wp2_with (first
  |((rw[aF 39];refine bS ν φ AB ?_))
  |((rw[aF 41];refine bS ξ χ AB ?_))
  |(rw[aF 42];refine iw (P) xV ?_)
  |((rw[aF 50];refine aM J y.size AQ ?_))
  |((rw[aF 51];refine aM I x.size AQ ?_))
  |(rw[aF 52];refine iw (Q) wV ?_))
    go_ret
    exact oV (ε.trans D) (.inl aR) rfl μ
   have à:=eq_false Y
   cases hhb:oq h b with
   | true=>
    rw[hhb]at Q;(have D:Hid (dJ s b h d e g=0):=by show _=_;unfold dJ;rw[if_neg (λB=>B t),if_neg Y,if_pos hhb]);have á:=AA hhb;clear t X Y hhb
    go_wp2_with (first
  |((rw[aF 39];refine bS ν φ AB ?_))
  |((rw[aF 41];refine bS ξ χ AB ?_))
  |(rw[aF 42];refine iw (P) xV ?_)
  |((rw[aF 50];refine aM J y.size AQ ?_))
  |((rw[aF 51];refine aM I x.size AQ ?_))
  |(rw[aF 52];refine iw (Q) wV ?_))
    go_ret
    exact oV (ε.trans D) (.inr á) rfl μ
   | false=>
    rw[hhb]at Q;by_cases Z:h.size=b.size\/h.clock < b.clock
    ·have D:Hid (dJ s b h d e g=173):=by show _=_;unfold dJ;rw[if_neg (λB=>B t),if_neg Y,if_neg (by rw[hhb];decide),if_pos Z]
     clear t X Y hhb;by_cases Æ:h.size=b.size
     ·have Ï:(h.size==b.size)=true:=by simpa using Æ
      clear Æ Z à;have à:(h.size < b.size)=False:=eq_false (aC (eq_of_beq Ï))
      go_wp2_with (first
  |((rw[aF 39];refine bS ν φ AB ?_))
  |((rw[aF 41];refine bS ξ χ AB ?_))
  |(rw[aF 42];refine iw (P) xV ?_)
  |((rw[aF 50];refine aM J y.size AQ ?_))
  |((rw[aF 51];refine aM I x.size AQ ?_))
  |(rw[aF 52];refine iw (Q) wV ?_))
      go_ret
      exact oV (ε.trans D) (.inl aR) rfl μ
     ·have Ï:(h.size==b.size)=false:=by simpa using Æ
      have ý:=Z.resolve_left Æ;clear Æ Z
      go_wp2_with (first
  |((rw[aF 39];refine bS ν φ AB ?_))
  |((rw[aF 41];refine bS ξ χ AB ?_))
  |(rw[aF 42];refine iw (P) xV ?_)
  |((rw[aF 50];refine aM J y.size AQ ?_))
  |((rw[aF 51];refine aM I x.size AQ ?_))
  |(rw[aF 52];refine iw (Q) wV ?_))
      go_ret
      exact oV (ε.trans D) (.inl aR) rfl μ
    ·have D:Hid (dJ s b h d e g=nV s b h d e g):=by show _=_;unfold dJ;rw[if_neg (λB=>B t),if_neg Y,if_neg (by rw[hhb];decide),if_neg Z]
     (have Ï:(h.size==b.size)=false:=by have:=mt Or.inl Z;simpa using this);have ý:=eq_false (mt Or.inr Z);have á:=AA hhb;have Ç:=AA (ε.trans D);clear t X Y hhb Z ε D;have Ĝ:Hid (∀a,av w a->Calls prog 66 #[.agg #[Value.int .i64 d,Value.int .i64 e,Value.slice F A c2]] a λÃ τ=>∃þ ĝ È Ð,Ã=.returned (.tuple #[.slice þ È.length ĝ,.int .i64 Ð])/\ax τ 1 þ È.length (ak È)/\((fG d e g=some È/\Ð=0)\/(fG d e g=none/\È=[]/\Ð=170))/\av a τ):=λa n=>Dc d e g F A c2 a (ï a n)
     go_upto_region 14 with(first
  |((rw[aF 39];refine bS ν φ AB ?_))
  |((rw[aF 41];refine bS ξ χ AB ?_))
  |(rw[aF 42];refine iw (P) xV ?_)
  |((rw[aF 50];refine aM J y.size AQ ?_))
  |((rw[aF 51];refine aM I x.size AQ ?_))
  |(rw[aF 52];refine iw (Q) wV ?_)
  |((rw[aF 67];refine aM ß xN BD ?_))
  |(go_at_call 66;refine(Ĝ _ μ).mono ?_;rintro Ã O ⟨ī,Ĭ,ĭ,Ð,rfl,-,Ğ,ψ⟩;have α:=aQ μ ψ;have ÿ:=AA (ü.below ψ);have É:=bf ψ ß;have â:=bf ψ I;have ã:=bf ψ J;have Į:=É.cell 0;have į:=É.cell 1;have ğ:O.cell? ⟨H,32,none⟩=some (.int .i64 h.size):=(by rw[ã.out.cell 32,List.getElem?_toArray];exact bZ v);have Ġ:O.cell? ⟨G,32,none⟩=some (.int .i64 b.size):=(by rw[â.out.cell 32,List.getElem?_toArray];exact bZ M);clear ψ ß ü))
     clear à Ï ý Ę ę Ě ě P ν ξ Q
     rcases Ğ with⟨ο,rfl⟩ |⟨ο,rfl,rfl⟩
     ·by_cases ω:d=b.size
      ·by_cases Ê:e=h.size
       ·have β:Hid (nV s b h d e g=kC s b.root h.root d e g):=by show _=_;unfold nV;rw[if_neg];rintro(V | V | V);rw[ο]at V;cases V;exact V ω;exact V Ê
        have ä:=AA (Ç.trans β);subst ω Ê;obtain⟨Ā,ā⟩:=aS (kC s b.root h.root b.size h.size g);rw[ā.out]at ä
        have ġ:Hid (∀a,av w a->bq 67 #[.int .i64 s,.agg (ak b.root).toArray,.agg (ak h.root).toArray,.agg #[Value.int .i64 b.size,Value.int .i64 h.size,Value.slice F A c2]] a (.int .i64 Ā)):=λa n=>by
         have:=Jw s b.root h.root M.root v.root b.size h.size g F A c2 ĕ a (Ď a n) (ï a n);rw[ā.out]at this;exact this
        (have Ģ:Hid ((prog.info? 23).map (·.size)=some (ak b.root).length):=by show _=_;rw[aB,M.out.root];exact mP);(have ģ:Hid ((prog.info? 23).map (·.size)=some (ak h.root).length):=by show _=_;rw[aB,v.out.root];exact mP);(have Ă:Hid (∀j u,(ak h.root)[j]?=some u->O.cell? ⟨H,33+j,none⟩=some u):=λj u C=>by rw[ã.out.cell (33+j),List.getElem?_toArray];exact gL v j u C);(have ă:Hid (∀j u,(ak b.root)[j]?=some u->O.cell? ⟨G,33+j,none⟩=some u):=λj u C=>by rw[â.out.cell (33+j),List.getElem?_toArray];exact gL M j u C);have Ą:=AA â.lt;have ą:=AA ã.lt;clear ο β Ç;go_upto_region 16 with fail;clear ğ Ġ;refine cB (aA O) (aA.jD ((Below.refl _ _).drew)) ?_;(iterate 3 refine aG ?_);refine bC (λa l=>(Ö a (α.trans (l.below.mono α.size))).width) ?_;refine aG ?_;refine dh G (33) (ak b.root) (λa l=>(λj u C=>(l.below.cell (p:=⟨G,33+j,none⟩) Ą).trans (ă j u C))) Ģ AB ?_;refine aG ?_;refine dh H (33) (ak h.root) (λa l=>(λj u C=>(l.below.cell (p:=⟨H,33+j,none⟩) ą).trans (Ă j u C))) ģ AB ?_;refine gu (λa l=>(show aL a (w.heap.size+1) 46 #[Value.int .i64 b.size,Value.int .i64 h.size,Value.slice F A c2]from(l.below.block _ É.lt).trans É)) xN BD ?_;refine cZ func67 (λa l=>((ġ a (α.trans (l.below.mono α.size))).mono λÃ τ ⟨Ø,n⟩=>⟨Ø,l.next n⟩)) ?_;refine aG ?_;refine bR ?_;intro υ Ć;have å:=AA Ć.below;have Ñ:=aQ α å;have ć:=AA (ÿ.below å);clear Ć å ă Ă Ą ą É ÿ;by_cases æ:Ā=0
        ·subst æ
         have Γ:=AA (Ö υ Ñ)
         go_wp2_with (first
  |((rw[aF 101];refine aM ć.blk ñ Am ?_))
  |(go_at_call 68;refine(FE h v E m (aC û) r z ď υ ć.rA).mono ?_;rintro Ã Ë ⟨Γ,Ì,rfl,Ĉ,ĉ⟩;have Ċ:=aQ Ñ ĉ;have Ĥ:=AA<|Ĉ.base Ñ.size;have ċ:=AA<|(Ö Ë Ċ).blk;have ĥ:=AA (TV (s:=s) (least:=least) (R:=R) M v (.slice Δ Θ Ξ) (.slice Γ m Ì));clear Ĉ ĉ)
  |(rw[iE 39 104];refine dO (o:=⟨none,_,_,_,_,_⟩) rfl 39 (.tmp 104) (.tmp 102) rfl q 3 (aN h (.slice Γ m Ì)).toArray rfl rfl 126 _ ċ (jR v _) (by rw[List.size_toArray,List.size_toArray,dY v.out,FQ M.out];decide) (Ē _ _ _) ?_;rw[ĥ.out];have Ħ:Hid (aL (Ë.setRow q (w9 s least R h (.slice Γ m Ì)).toArray) q 126 (w9 s least R h (.slice Γ m Ì)).toArray):=setRow_heap _ _ _ _ _ _ ċ;have ħ:Hid (au (·=q) Ë (Ë.setRow q (w9 s least R h (.slice Γ m Ì)).toArray)):=au.setRow (S:=(·=q)) (au.refl _ Ë) rfl _))
         go_ret
         exact Rj č v û ä á rfl Ċ Ĥ ħ Ħ
        ·have İ:=æ
         go_wp2_with fail;go_ret;exact oV ä (.inl æ) rfl Ñ
       ·have β:Hid (nV s b h d e g=170):=by show _=_;unfold nV;rw[if_pos (.inr (.inr Ê))]
        (have ı:(e==h.size)=false:=by simpa using Ê);subst ω;clear ο Ê;go_wp2_with fail;go_ret;exact oV (Ç.trans β) (.inl aR) rfl α
      ·have β:Hid (nV s b h d e g=170):=by show _=_;unfold nV;rw[if_pos (.inr (.inl ω))]
       (have Ĵ:(d==b.size)=false:=by simpa using ω);clear ο ω;go_wp2_with fail;go_ret;exact oV (Ç.trans β) (.inl aR) rfl α
     ·have β:Hid (nV s b h d e g=170):=by show _=_;unfold nV;rw[if_pos (.inl ο)]
      clear ο;go_wp2_with fail;go_ret;exact oV (Ç.trans β) (.inl aR) rfl α
  ·have X:=AP t
   rw[X]at P;(have D:Hid (dJ s b h d e g=173):=by show _=_;unfold dJ;rw[if_pos t]);clear t X
   go_wp2_with (first
  |((rw[aF 39];refine bS ν φ AB ?_))
  |((rw[aF 41];refine bS ξ χ AB ?_))
  |(rw[aF 42];refine iw (P) xV ?_)
  |((rw[aF 50];refine aM J y.size AQ ?_))
  |((rw[aF 51];refine aM I x.size AQ ?_))
  |(rw[aF 52];refine iw (Q) wV ?_))
   go_ret
   exact oV (ε.trans D) (.inl aR) rfl μ
def Tq(s:Int)(H:bE)(ev:aj)(x1 x2:Int)(ds:List aj):Int:=if x1≠H.size then 170 else jW s H.root ev x1 x2 ds
theorem gN.MC{b:World}{c:Nat}{f g:Int}{h:Nat}{d:bE}{i:Option Addr}{j k:Nat}{l:List aj}(e:gN b c f g h d i j k l)(a:Nat)(u:Value)(m:(ak d.root)[a]?=some u):b.cell? ⟨c,36+a,none⟩=some u:=by
 have:=e.head (33+a) u (gL e.ok a u m);rwa[<-Nat.add_assoc]at this
theorem gN.indexAt{b:World}{c:Nat}{f g:Int}{h:Nat}{d:bE}{i:Option Addr}{j k:Nat}{l:List aj}(e:gN b c f g h d i j k l)(a:Nat)(u:Value)(m:(ak d.index)[a]?=some u):b.cell? ⟨c,68+a,none⟩=some u:=by
 have:=e.head (65+a) u (jA e.ok a u m);rwa[<-Nat.add_assoc]at this
theorem gN.Ez{a:World}{b:Nat}{e f:Int}{g:Nat}{c:bE}{h:Option Addr}{i j:Nat}{k:List aj}(d:gN a b e f g c h i j k):a.cell? ⟨b,35,none⟩=some (.int .i64 c.size):=d.head 32 _ (bZ d.ok)
theorem sP:(prog.info? 48).map (·.size)=some 3:=by kernel_rfl
theorem Jy(y:Nat)(i N:Int)(O:Nat)(d:bE)(P:Option Addr)(Q R:Nat)(S:List aj)(j:aj)(g:Nat)(B:j.length=g)(C:g < 140737488355328)(r:Option Addr)(c1:Nat)(D:g<=c1)(E:r=none->g=0/\c1=0)(c f:Int)(l:List aj)(n:Option Addr)(m c2:Nat)(F:m < 140737488355328)(e:World)(z:bn e)(v:gN e y i N O d P Q R S)(G:ax e 1 r g (ak j))(H:j6 e n m l):
  bq 20 #[.pointer (some ⟨y,0,none⟩),.slice r g c1,.agg (eP c f n m c2)] e (.int .i64 (Tq i d j c f l)):=by
 unfold eP
 obtain⟨s,w⟩:=aS (e.alloc (.cells #[Value.int .i64 c,Value.int .i64 f,Value.slice n m c2] 48))
 have I:Hid (aL s e.heap.size 48 #[Value.int .i64 c,Value.int .i64 f,Value.slice n m c2]):=w.out ▸ aL.new e _ _
 have p:Hid (av e s):=w.out ▸ Below.aJ e _
 have W:=w.out
 have x:=AA<|λa (k:av e a)=>v.below k
 have J:Hid (∀a,av e a->bq 69 #[.int .i64 i,.agg (ak d.root).toArray,.slice r g c1,.agg #[Value.int .i64 c,Value.int .i64 f,Value.slice n m c2]] a (.int .i64 (jW i d.root j c f l))):=λa k=>Lv i d.root v.ok.root j g B C r c1 D E c f l n m c2 F a (z.below k z.1) (G.below k) (H.below k)
 have T:Hid ((prog.info? 23).map (·.size)=some (ak d.root).length):=by show _=_;rw[aB,v.ok.root];exact mP
 have A:Hid (∀a,av s a->aL a e.heap.size 48 #[Value.int .i64 c,Value.int .i64 f,Value.slice n m c2]):=λa k=>(k.block _ I.lt).trans I
 clear w z v B C D E F G H
 by_cases hx:c=d.size
 ·have q:Hid (Tq i d j c f l=jW i d.root j c f l):=by show _=_;unfold Tq;rw[if_neg (λg=>g hx)]
  obtain⟨X,K⟩:=aS (jW i d.root j c f l);rw[K.out]at q J;rw[q.out];(have o:(c !=d.size)=false:=by simp[hx]);replace o:=AA o;clear hx q K;(go_enter func20,ntmps20);go_upto_region 1 with fail;refine cB (aA s) (aA.jD ((Below.refl _ _).drew)) ?_;refine aG ?_;refine bC (λa b=>(A a b.below).cell 0) ?_;(iterate 5 refine aG ?_);refine bC (λa b=>gN.Ez (x a (p.trans (b.below.mono p.size)))) ?_;refine bC (λa b=>o.out) ?_;refine bR ?_;intro L t;have u:=AA t.below;have h:=aQ p u;clear t;go_wp2_with fail;go_upto_region 3 with fail;refine cB (aA L) (aA.jD ((Below.refl _ _).drew)) ?_;(iterate 3 refine aG ?_);refine bC (λa b=>(x a (h.trans (b.below.mono h.size))).width) ?_;(iterate 5 refine aG ?_);refine dh y (36) (ak d.root) (λa b=>gN.MC (x a (h.trans (b.below.mono h.size)))) T AB ?_;refine aG ?_;refine gu (λa b=>A a (u.trans (b.below.mono u.size))) sP Bz ?_;refine cZ func69 (λa b=>((J a (h.trans (b.below.mono h.size))).mono λY Z ⟨U,k⟩=>⟨U,b.next k⟩)) ?_;refine aG ?_;refine bR ?_;intro α M;(have V:=AA<|h.trans (M.below.mono h.size));clear M;go_wp2_with fail;go_ret;exact⟨rfl,V⟩
 ·have q:Tq i d j c f l=170:=by unfold Tq;rw[if_pos hx]
  rw[q];(have o:(c !=d.size)=true:=by simpa using hx);replace o:=AA o;clear hx q;(go_enter func20,ntmps20);go_upto_region 1 with fail;refine cB (aA s) (aA.jD ((Below.refl _ _).drew)) ?_;refine aG ?_;refine bC (λa b=>(A a b.below).cell 0) ?_;(iterate 5 refine aG ?_);refine bC (λa b=>gN.Ez (x a (p.trans (b.below.mono p.size)))) ?_;refine bC (λa b=>o.out) ?_;refine bR ?_;intro L t;have u:=AA t.below;have h:=aQ p u;clear t;go_wp2_with fail;go_ret;exact⟨rfl,h⟩
def EM(s least:Int)(K:Value)(h:bE)(v:Value):List Value:=[.int .i64 s,.int .i64 least,K]++aN h v
def Ll(p:Value)(s least:Int)(K:Value)(h:bE)(v:Value):List Value:=[p,.int .i64 s,.int .i64 least,K]++aN h v
theorem wh{s least:Int}{K:Value}{h:bE}(a:h.Ok)(v:Value):(EM s least K h v).length=102:=by unfold EM;rw[List.length_append,dY a];rfl
theorem Pg{p:Value}{s least:Int}{K:Value}{h:bE}(a:h.Ok)(b:Value):(Ll p s least K h b).length=103:=by unfold Ll;rw[List.length_append,dY a];rfl
theorem TK{p:Value}{s least:Int}{K:Value}{h:bE}(b:Value)(a:Nat)(u:Value)(d:(aN h b)[a]?=some u):(Ll p s least K h b)[4+a]?=some u:=by
 unfold Ll;rw[List.getElem?_append_right aZ,List.length_cons,List.length_cons,List.length_cons,List.length_cons,List.length_nil,show 4+a - (0+1+1+1+1)=a by omega];exact d
theorem kD.pY{a:Nat->Prop}{w w':World}{A:Option Addr}{n:Nat}{ss:List aj}(b:kD w A n ss)(e:au a w w')(f:0 < n->∀d i,A=some ⟨d,i,none⟩->¬a d):kD w' A n ss:=by
 by_cases h0:0 < n
 ·exact kD.kept b e (f h0)
 ·have a:=b.len
  obtain rfl:n=0:=ah;obtain rfl:ss=[]:=Ap a;exact kD.oI _ _
theorem EC{w:World}{A:Option Addr}{n:Nat}{ss:List aj}(a:kD w A n ss)(h0:0 < n)(b d:Nat)(e:A=some ⟨b,d,none⟩):b < w.heap.size:=by
 obtain⟨f,j,b,d,-⟩:=a.at_ (i:=0) (t:=ss[0]'(by rw[a.len];exact h0)) (AV _);rw[e]at b;cases b;exact d
theorem gN.pY{b:Nat->Prop}{w w':World}{d:Nat}{s least:Int}{e:Nat}{h:bE}{A:Option Addr}{n c:Nat}{ss:List aj}(a:gN w d s least e h A n c ss)(f:au b w w')(j:¬b d)(k:0 < n->∀i l,A=some ⟨i,l,none⟩->¬b i):gN w' d s least e h A n c ss:=⟨a.ok,a.nil,a.few,a.blk.kept f j,kD.pY a.rA f k⟩
structure fQ(w:World)(g:Nat)(p:Value)(s least:Int)(K:Value)(h:bE)(A:Option Addr)(n c:Nat)(ss:List aj):Prop where
 ok:h.Ok
 blk:aL w g 43 (Ll p s least K h (.slice A n c)).toArray
 rA:kD w A n ss
section
variable {w w':World} {g:Nat} {p:Value} {s least:Int} {K:Value} {h:bE} {A:Option Addr} {n c:Nat} {ss:List aj}
theorem fQ.below(k:fQ w g p s least K h A n c ss)(a:av w w'):fQ w' g p s least K h A n c ss:=⟨k.ok,(a.block _ k.blk.lt).trans k.blk,k.rA.below a⟩
theorem fQ.kept{S:Nat->Prop}(a:fQ w g p s least K h A n c ss)(b:au S w w')(e:¬S g)(f:0 < n->∀d i,A=some ⟨d,i,none⟩->¬S d):fQ w' g p s least K h A n c ss:=⟨a.ok,a.blk.kept b e,kD.pY a.rA b f⟩
theorem fQ.Eg(a:fQ w g p s least K h A n c ss):w.cell? ⟨g,0,none⟩=some p:=by rw[a.blk.cell 0];rfl
theorem fQ.width(a:fQ w g p s least K h A n c ss):w.cell? ⟨g,1,none⟩=some (.int .i64 s):=by rw[a.blk.cell 1];rfl
theorem fQ.wants(a:fQ w g p s least K h A n c ss):w.cell? ⟨g,2,none⟩=some (.int .i64 least):=by rw[a.blk.cell 2];rfl
theorem fQ.keys(a:fQ w g p s least K h A n c ss):w.cell? ⟨g,3,none⟩=some K:=by rw[a.blk.cell 3];rfl
theorem fQ.note(b:fQ w g p s least K h A n c ss)(a:Nat)(u:Value)(d:(aN h (.slice A n c))[a]?=some u):w.cell? ⟨g,4+a,none⟩=some u:=by
 rw[b.blk.cell (4+a),List.getElem?_toArray];exact TK _ a u d
theorem fQ.head(a:fQ w g p s least K h A n c ss)(j:Nat)(u:Value)(b:(aI h)[j]?=some u):w.cell? ⟨g,4+j,none⟩=some u:=by
 refine a.note j u ?_;have:=lN (h:=h) (.slice A n c) j u b;rwa[Nat.zero_add]at this
theorem fQ.row(a:fQ w g p s least K h A n c ss):w.cell? ⟨g,102,none⟩=some (.slice A n c):=a.note 98 _ (mJ a.ok _)
theorem fQ.MC(b:fQ w g p s least K h A n c ss)(a:Nat)(u:Value)(d:(ak h.root)[a]?=some u):w.cell? ⟨g,37+a,none⟩=some u:=by
 have:=b.head (33+a) u (gL b.ok a u d);rwa[<-Nat.add_assoc]at this
theorem fQ.indexAt(b:fQ w g p s least K h A n c ss)(a:Nat)(u:Value)(d:(ak h.index)[a]?=some u):w.cell? ⟨g,69+a,none⟩=some u:=by
 have:=b.head (65+a) u (jA b.ok a u d);rwa[<-Nat.add_assoc]at this
theorem fQ.Ez(a:fQ w g p s least K h A n c ss):w.cell? ⟨g,36,none⟩=some (.int .i64 h.size):=a.head 32 _ (bZ a.ok)
end
theorem VO{p:Value}{s least:Int}{K:Value}{h a:bE}(e:h.Ok)(f:a.Ok)(d b:Value):((Ll p s least K h d).toArray.toList.take 4++(aN a b).toArray.toList++(Ll p s least K h d).toArray.toList.drop (4+(aN a b).toArray.size)).toArray=(Ll p s least K a b).toArray:=by
 (have i:(aN a b).toArray.size=99:=by rw[List.size_toArray,dY f]);have a:(Ll p s least K h d).drop (4+99)=[]:=List.drop_of_length_le (by rw[Pg e];omega);rw[i,List.toList_toArray,List.toList_toArray,a,List.append_nil];congr 1
def wP(g:Nat)(p:Value)(s least:Int)(K:Value)(es:List aj)(H h:bE)(rs:List aj)(A':Option Addr)(n' c':Nat)(x y:Int)(ds:List aj)(w w':World):Prop:=
 (KI s least es H h rs x y ds=false/\av w w')\/(KI s least es H h rs x y ds=true/\au (·=g) w w'/\fQ w' g p s least K h A' n' c' rs)
def Ob(g:Nat)(p:Value)(s least:Int)(K:Value)(es:List aj)(H h:bE)(rs:List aj)(A':Option Addr)(n' c':Nat)(x y:Int)(ds:List aj)(w:World)(e:Ending)(w':World):Prop:=
 e=.returned (.int .i64 (fJ s least es H h rs x y ds))/\wP g p s least K es H h rs A' n' c' x y ds w w'
theorem Jv(a:Nat)(b e:Int)(R:Nat)(f:bE)(g:Option Addr)(h i:Nat)(j:List aj)(c:World)(d:gN c a b e R f g h i j):
  bq 59 #[.pointer (some ⟨a,0,none⟩)] c (.int .i64 b):=by
 have a:=d.width
 clear d
 go_enter func59,ntmps59
 go_wp2_with fail
 go_ret
 exact⟨rfl,Below.refl _ _⟩
theorem TG{b:World}{f a:Nat}{c:Value}{d:List aj}{e:Option Addr}{g:Nat}(h:ji b f c a d)(i:c=.slice e a g):kD b e a d:=by
 obtain⟨c,d,a,-,-,-,b,-⟩:=ji.reads h;rw[i]at a;(injection a with c _ _);rw[c];exact b
theorem qB(r n:Nat)(m o:Int)(R:Nat)(K:Value)(c:bE)(s:Option Addr)(g t:Nat)(p:Option Addr)(q:Nat)(i:List aj)(d:World)(b:gN d n m o R c s g t i)(e:fQ d r (.pointer (some ⟨n,0,none⟩)) m o K c p g q i):
  bq 13 #[.pointer (some ⟨r,0,none⟩)] d (.bool true):=by
 have u:=AA<|λa (h:av d a)=>b.below h
 have j:=AA<|λa (h:av d a)=>e.below h
 have x:=AA b.ok
 have y:=AA b.few
 have z:Hid ((prog.info? 36).map (·.size)=some (aI c).length):=by show _=_;rw[bQ b.ok];exact iT
 have A:Hid ((prog.info? 39).map (·.size)=some (aN c (.slice p g q)).length):=by show _=_;have:=jR b.ok (.slice p g q);rw[List.size_toArray]at this;exact this
 have B:Hid (∀a,(binOp .eql 36 (.agg (aI c).toArray) (.agg (aI c).toArray)).run prog a=.ok (.bool true) a):=λa=>by rw[Cj c c b.ok b.ok,ND]
 clear b e
 go_enter func13,ntmps13
 go_upto_region 1 with fail
 have aD:Hid (av d d.drew):=(Below.refl _ _).drew
 refine dI (λa=>av d a) 39 ?_
 refine aH 0 aD ?_
 refine aH 1 aD ?_
 refine aH 2 aD ?_
 refine eG 3 aD (λa e=>fQ.Eg (j a e)) ?_
 refine aH 5 aD ?_
 refine aH 6 aD ?_
 refine aH 7 aD ?_
 refine aH 8 aD ?_
 refine eG 9 aD (λa e=>fQ.width (j a e)) ?_
 refine aU 4 ?_
 refine cK (R:=λk f=>k=.int .i64 m/\av d f) func59 ((Jv n m o R c s g t i _ (u _ aD)).mono λv f ⟨l,h⟩=>⟨_,l,rfl,aD.trans (h.mono aD.size)⟩) ?_
 rintro w C ⟨rfl,b⟩
 replace b:=AA b
 refine aV b ?_
 refine aH 10 b ?_
 refine aH 11 b ?_
 refine aH 12 b ?_
 refine aH 13 b ?_
 refine aH 14 b ?_
 refine eG 15 b (λa e=>fQ.Eg (j a e)) ?_
 refine aH 17 b ?_
 refine aH 18 b ?_
 refine aH 19 b ?_
 refine aH 20 b ?_
 refine aH 21 b ?_
 refine eO 22 rfl b (λa e=>ku 36 (.tmp 24) rfl (r) (4) rfl (aI c) _ ((j a e).head) AQ rfl z) ?_
 refine aU 16 ?_
 refine cK (R:=λk f=>k=.agg (aI c).toArray/\av d f) func18 ((Lx n m o R c s g t i _ (u _ b)).mono λv f ⟨l,h⟩=>⟨_,l,rfl,b.trans (h.mono b.size)⟩) ?_
 rintro w z ⟨rfl,b⟩
 replace b:=AA b
 refine aV b ?_
 refine eO 23 rfl b (λa e=>iN rfl rfl rfl wV (B a)) ?_
 refine aH 24 b ?_
 refine aH 25 b ?_
 refine aH 26 b ?_
 refine aH 27 b ?_
 refine aH 28 b ?_
 refine eG 29 b (λa e=>fQ.Eg (j a e)) ?_
 refine aH 31 b ?_
 refine aH 32 b ?_
 refine aH 33 b ?_
 refine aH 34 b ?_
 refine eO 35 rfl b (λa e=>ku 39 (.tmp 37) rfl (r) (4) rfl (aN c (.slice p g q)) _ ((j a e).note) Am rfl A) ?_
 refine aU 30 ?_
 refine cK (R:=λk f=>(∃a c2,k=.agg (aN c (.slice a g c2)).toArray/\kD f a g i)/\av d f) func19 ((Lu n m o R c s g t i _ (u _ b)).mono λv f ⟨a,c2,l,e,h⟩=>⟨_,l,⟨a,c2,rfl,TG e rfl⟩,b.trans (h.mono b.size)⟩) ?_
 rintro w m ⟨⟨a,c2,rfl,e⟩,b⟩
 replace b:=AA b
 replace e:=AA e
 refine aV b ?_
 refine aU 36 ?_
 refine cK (R:=λk f=>k=.bool true/\av d f) func32 ((J7 c x i g (aC y) a p c2 q m e (j _ b).rA).mono λv f ⟨l,h⟩=>⟨_,l,rfl,b.trans (h.mono b.size)⟩) ?_
 rintro w b ⟨rfl,a⟩
 replace a:=AA a
 refine aV a ?_
 refine aH 37 a ?_
 refine aH 38 a ?_
 refine bT ?_
 go_wp2_with fail
 go_ret
 exact⟨rfl,a⟩
def Uf(s:Int)(log:aj):bE:=⟨log,0,vk s,bU s 256,0⟩
theorem Oh(a:Int){b:aj}(c:b.length=32):(Uf a b).Ok:=⟨c,eT _ _ (eU _) (fD a).2,jL a 256,(show(-9223372036854775808:Int)<=0/\(0:Int)<=9223372036854775807 by decide),(show(-9223372036854775808:Int)<=0/\(0:Int)<=9223372036854775807 by decide)⟩
def DC(least:Int):Int:=if least < 1\/16 < least then 1 else 0
def Od(s:Int)(log:aj)(least:Int)(R:Nat)(w:World)(e:Ending)(w':World):Prop:=∃v k,e=.returned (.tuple #[v,.int .i64 k])/\av w w'/\k=DC least/\(k≠0->v=.pointer none)/\(k=0->∃a,v=.pointer (some ⟨a,0,none⟩)/\w.heap.size<=a/\gN w' a (cl s) least R (Uf (cl s) log) none 0 0 [])
theorem Sg{f:Int}{g:aj}{a:Int}{h:Nat}{c d:World}{e:Ending}(b:a < 1\/16 < a)(i:e=.returned (.tuple #[.pointer none,.int .i64 1]))(j:av c d):Od f g a h c e d:=⟨_,_,i,j,by unfold DC;rw[if_pos b],λ_=>rfl,λb=>by cases b⟩
theorem U9{c:Int}{g:aj}{a:Int}{h b:Nat}{d e:World}{i:Ending}(f:¬(a < 1\/16 < a))(j:i=.returned (.tuple #[.pointer (some ⟨b,0,none⟩),.int .i64 0]))(k:av d e)(l:d.heap.size<=b)(m:gN e b (cl c) a h (Uf (cl c) g) none 0 0 []):Od c g a h d i e:=⟨_,_,j,k,by unfold DC;rw[if_neg f],λf=>absurd rfl f,λ_=>⟨b,rfl,l,m⟩⟩
theorem NZ(a:List (Nat×Value)):prog.built 36 a=Instr.fill (#[((0:Nat),(32:Nat)),(32,1),(33,32),(65,32),(97,1)][·]?) (List.replicate 32 (Value.int .u8 0)++([Value.int .i64 0]++(List.replicate 32 (Value.int .u8 0)++(List.replicate 32 (Value.int .u8 0)++[Value.int .i64 0])))).toArray a:=by kernel_rfl
theorem PS(a b z:aj)(hx:a.length=32)(e:b.length=32)(h:z.length=32)(c:World):(Instr.build 36 #[(0,.agg (ak a).toArray),(2,.agg (ak b).toArray),(3,.agg (ak z).toArray)]).run prog c=.ok (.agg (aI ⟨a,0,b,z,0⟩).toArray) c:=by
 refine run_build c _ _ _ ?_;rw[NZ];(have c:∀d:aj,d.length=32->(ak d).length=32:=λd f=>by rw[aB,f]);have f:=gT (place:=(#[((0:Nat),(32:Nat)),(32,1),(33,32),(65,32),(97,1)][·]?)) (i:=0) (v:=.agg (ak a).toArray) (xs:=ak a) (old:=List.replicate 32 (Value.int .u8 0)) (pre:=[]) (post:=[Value.int .i64 0]++(List.replicate 32 (Value.int .u8 0)++(List.replicate 32 (Value.int .u8 0)++[Value.int .i64 0]))) (rest:=[(2,.agg (ak b).toArray),(3,.agg (ak z).toArray)]) rfl rfl (c a hx) rfl aZ;have g:=gT (place:=(#[((0:Nat),(32:Nat)),(32,1),(33,32),(65,32),(97,1)][·]?)) (i:=2) (v:=.agg (ak b).toArray) (xs:=ak b) (old:=List.replicate 32 (Value.int .u8 0)) (pre:=ak a++[Value.int .i64 0]) (post:=List.replicate 32 (Value.int .u8 0)++[Value.int .i64 0]) (rest:=[(3,.agg (ak z).toArray)]) rfl rfl (c b e) (by rw[List.length_append,c a hx];rfl) aZ;have d:=gT (place:=(#[((0:Nat),(32:Nat)),(32,1),(33,32),(65,32),(97,1)][·]?)) (i:=3) (v:=.agg (ak z).toArray) (xs:=ak z) (old:=List.replicate 32 (Value.int .u8 0)) (pre:=ak a++[Value.int .i64 0]++ak b) (post:=[Value.int .i64 0]) (rest:=[]) rfl rfl (c z h) (by rw[List.length_append,List.length_append,c a hx,c b e];rfl) aZ;rw[pK]at d;simp only[List.nil_append,List.append_assoc]at f g d;rw[f,g,d];rfl
theorem QI(a:List (Nat×Value)):prog.built 126 a=Instr.fill (#[((0:Nat),(1:Nat)),(1,1),(2,1),(3,99)][·]?) ([Value.int .i64 0]++([Value.int .i64 0]++([Value.pointer none]++Dm.toList))).toArray a:=by kernel_rfl
theorem UK(b c:Int)(d:Nat){a:bE}(j:a.Ok)(v:Value)(e:World):(Instr.build 126 #[(0,.int .i64 b),(1,.int .i64 c),(2,.pointer (some ⟨d,0,none⟩)),(3,.agg (aN a v).toArray)]).run prog e=.ok (.agg (w9 b c d a v).toArray) e:=by
 refine run_build e _ _ _ ?_;rw[QI];have f:=gT (place:=(#[((0:Nat),(1:Nat)),(1,1),(2,1),(3,99)][·]?)) (i:=0) (v:=.int .i64 b) (xs:=[.int .i64 b]) (old:=[Value.int .i64 0]) (pre:=[]) (post:=[Value.int .i64 0]++([Value.pointer none]++Dm.toList)) (rest:=[(1,.int .i64 c),(2,.pointer (some ⟨d,0,none⟩)),(3,.agg (aN a v).toArray)]) rfl rfl rfl rfl rfl;have g:=gT (place:=(#[((0:Nat),(1:Nat)),(1,1),(2,1),(3,99)][·]?)) (i:=1) (v:=.int .i64 c) (xs:=[.int .i64 c]) (old:=[Value.int .i64 0]) (pre:=[.int .i64 b]) (post:=[Value.pointer none]++Dm.toList) (rest:=[(2,.pointer (some ⟨d,0,none⟩)),(3,.agg (aN a v).toArray)]) rfl rfl rfl rfl rfl;have h:=gT (place:=(#[((0:Nat),(1:Nat)),(1,1),(2,1),(3,99)][·]?)) (i:=2) (v:=.pointer (some ⟨d,0,none⟩)) (xs:=[.pointer (some ⟨d,0,none⟩)]) (old:=[Value.pointer none]) (pre:=[.int .i64 b,.int .i64 c]) (post:=Dm.toList) (rest:=[(3,.agg (aN a v).toArray)]) rfl rfl rfl rfl rfl;have e:=gT (place:=(#[((0:Nat),(1:Nat)),(1,1),(2,1),(3,99)][·]?)) (i:=3) (v:=.agg (aN a v).toArray) (xs:=aN a v) (old:=Dm.toList) (pre:=[.int .i64 b,.int .i64 c,.pointer (some ⟨d,0,none⟩)]) (post:=[]) (rest:=[]) rfl rfl (dY j v) rfl (by rw[Array.length_toList];exact yw);rw[pK]at e;simp only[List.nil_append,List.append_nil,List.cons_append]at f g h e;simp only[List.nil_append,List.cons_append];rw[f,g,h,e];rfl
theorem Ml:(prog.info? 126).map (·.size)=some 102:=by kernel_rfl
theorem Oa(g:Int)(f:aj)(h:f.length=32)(u:Int)(R:Nat)(b:World)(d:bn b):
  Calls prog 9 #[.int .i64 g,.agg (ak f).toArray,.pointer (some ⟨R,0,none⟩),.int .i64 u] b (Od g f u R b):=by
 have p:=AA<|Below.aJ b (.cells (ak f).toArray 23)
 by_cases a:u < 1
 ·go_enter func9,ntmps9
  go_wp2_with fail;go_ret2;exact Sg (.inl a) rfl p
 by_cases e:16 < u
 ·have t:=eq_false a
  (go_enter func9,ntmps9);go_wp2_with fail;go_ret2;exact Sg (.inr e) rfl p
 have t:=eq_false a
 have C:=eq_false e
 have Q:Hid (¬(u < 1\/16 < u)):=λc=>by rcases c with c | c<;>contradiction
 clear a e
 obtain⟨k,M⟩:=aS (cl g)
 obtain⟨q,m⟩:=aS (vk k)
 obtain⟨r,n⟩:=aS (bU k 256)
 have v:Hid (q.length=32):=m.out ▸ eT _ _ (eU _) (fD k).2
 have x:Hid (r.length=32):=n.out ▸ jL k 256
 have E:Hid (Uf k f=⟨f,0,q,r,0⟩):=by show _=_;rw[<-m.out,<-n.out];rfl
 have y:Hid ((⟨f,0,q,r,0⟩:bE).Ok):=E.out ▸ Oh k h
 have J:Hid (∀a,av b a->bq 48 #[.int .i64 k] a (.agg (ak q).toArray)):=λa e=>by
  have:=CZ k a (d.below e d.1);rw[<-m.out];exact this
 have F:=AA<|λa e=>by
  have:=NN k a (d.below e d.1);rw[n.out]at this;exact this
 have A:=AA (λa=>PS f q r h v x a)
 have D:=AA (bI f h)
 obtain⟨w,z⟩:∃w:bE,Hid (w=⟨f,0,q,r,0⟩):=⟨_,AA rfl⟩
 rw[<-z.out]at A y E
 have s:=AA (mK y)
 have N:=AA (λa=>PO y a)
 have O:=AA (λl a=>UK k u R y.out l a)
 have G:Hid ((prog.info? 126).map (·.size)=some (w9 k u R w (.slice none 0 0)).toArray.size):=by show _=_;rw[List.size_toArray,FQ y.out];exact Ml
 have B:=AA<|aL.new b 23 (ak f).toArray
 clear d m n v x z h
 go_enter func9,ntmps9
 go_upto_region 3 with fail
 try clear t C
 generalize b.alloc (.cells (ak f).toArray 23)=h at*
 go_cut [0]from 21 to 24 (λl wr=>l=.int .i64 k/\Hid (h=wr))
 case first=>
  have d:min (max g 1) 32=k:=by
   have c:=M.out;unfold cl cu at c
   split at c
   ·omega
   ·split at c<;>omega
  replace d:=AA d;clear J F A s N O G E y;go_wp2_with fail;go_meet
  case rel=>exact⟨by rw[d.out],rfl⟩
 case rest=>
  obtain⟨rfl,c⟩:=hcut;obtain rfl:=c.out;clear c;go_upto_region 4 with fail
  go_cut [10]from 24 to 30 (λl wr=>∃L,l=.pointer (some ⟨L,0,none⟩)/\Hid (aL wr L 36 (aI w).toArray)/\Hid (av h wr))
  case first=>
   have aD:Hid (av h h.drew):=(Below.refl _ _).drew;refine dI (λa=>av h a) 8 ?_;refine eO 0 rfl aD (λa G=>gM 23 (.tmp 5) rfl (b.heap.size) rfl 23 ((ak f).toArray) (0,0) _ ((show aL a b.heap.size 23 (ak f).toArray from(G.block _ B.lt).trans B)) AB rfl D) ?_;refine aH 1 aD ?_;refine aH 3 aD ?_;refine iP (i:=2) (j:=6) rfl rfl bH (by rfl) (by rfl) (λK t=>?_) (λK t=>?_)
   ·refine cK (R:=λl c=>l=.agg (ak q).toArray/\av h c/\Below (h.drew).heap.size (h.drew) c) func48 ((J _ (p.trans ((aD).mono p.size))).mono λH c ⟨v,e⟩=>⟨_,v,rfl,aD.trans (e.mono aD.size),e⟩) ?_
    rintro I z ⟨rfl,m,b⟩;replace m:=AA m;replace b:=AA b;clear b;go_simp;refine t _ _ m ?_;clear t K;refine iP (i:=4) (j:=6) rfl rfl bH (by rfl) (by rfl) (λK t=>?_) (λK t=>?_)
    ·refine cK (R:=λl c=>l=.agg (ak r).toArray/\av h c/\Below (z).heap.size (z) c) Bo ((F _ (p.trans ((m).mono p.size))).mono λH c ⟨v,e⟩=>⟨_,v,rfl,m.trans (e.mono m.size),e⟩) ?_
     rintro I B ⟨rfl,d,b⟩;replace d:=AA d;replace b:=AA b;clear b;go_simp;refine t _ _ d ?_;clear t K;refine eO 5 rfl d (λa G=>fe 36 #[(0,.tmp 24),(2,.tmp 26),(3,.tmp 28)] rfl #[(0,.agg (ak f).toArray),(2,.agg (ak q).toArray),(3,.agg (ak r).toArray)] (by first| rfl |(simp[Act.eval];done)) _ (A a)) ?_;refine aU 6 ?_;have g:=AA (d.alloc d.size (.cells tL 36));have n:Hid (aL (B.alloc (.cells tL 36)) B.heap.size 36 tL):=aL.new _ _ _;refine aV g ?_;refine aU 7 ?_;refine fM (n) s.size s.zero s.one ?_;intro P C D;(have x:=AA<|g.trans (au.aW D (d.size) g.size));refine aV x ?_;refine bT ?_;go_wp2_with fail;go_meet
     case rel=>exact⟨_,rfl,C,x⟩
    ·have d:=AA (m.alloc m.size (.cells tL 36))
     have n:Hid (aL (z.alloc (.cells tL 36)) z.heap.size 36 tL):=aL.new _ _ _;go_simp;refine t _ _ d ?_;clear t K;refine aU 4 ?_;refine cK (R:=λl c=>l=.agg (ak r).toArray/\av h c/\Below ((z.alloc (.cells tL 36))).heap.size ((z.alloc (.cells tL 36))) c) Bo ((F _ (p.trans ((d).mono p.size))).mono λH c ⟨v,e⟩=>⟨_,v,rfl,d.trans (e.mono d.size),e⟩) ?_;rintro I z ⟨rfl,g,b⟩;replace g:=AA g;replace b:=AA b;replace n:=AA ((b.block _ (aL.lt n)).trans n);clear b;refine aV g ?_;refine eO 5 rfl g (λa G=>fe 36 #[(0,.tmp 24),(2,.tmp 26),(3,.tmp 28)] rfl #[(0,.agg (ak f).toArray),(2,.agg (ak q).toArray),(3,.agg (ak r).toArray)] (by first| rfl |(simp[Act.eval];done)) _ (A a)) ?_;refine aU 7 ?_;refine fM (n) s.size s.zero s.one ?_;intro P C D;(have x:=AA<|g.trans (au.aW D (m.size) g.size));refine aV x ?_;refine bT ?_;go_wp2_with fail;go_meet
     case rel=>exact⟨_,rfl,C,x⟩
   ·have m:=AA (aD.alloc aD.size (.cells tL 36))
    have n:Hid (aL (h.drew.alloc (.cells tL 36)) h.heap.size 36 tL):=aL.new _ _ _;go_simp;refine t _ _ m ?_;clear t K;refine aU 2 ?_;refine cK (R:=λl c=>l=.agg (ak q).toArray/\av h c/\Below ((h.drew.alloc (.cells tL 36))).heap.size ((h.drew.alloc (.cells tL 36))) c) func48 ((J _ (p.trans ((m).mono p.size))).mono λH c ⟨v,e⟩=>⟨_,v,rfl,m.trans (e.mono m.size),e⟩) ?_;rintro I B ⟨rfl,d,b⟩;replace d:=AA d;replace b:=AA b;replace n:=AA ((b.block _ (aL.lt n)).trans n);clear b;refine aV d ?_;refine aU 4 ?_;refine cK (R:=λl c=>l=.agg (ak r).toArray/\av h c/\Below (B).heap.size (B) c) Bo ((F _ (p.trans ((d).mono p.size))).mono λH c ⟨v,e⟩=>⟨_,v,rfl,d.trans (e.mono d.size),e⟩) ?_;rintro I z ⟨rfl,g,b⟩;replace g:=AA g;replace b:=AA b;replace n:=AA ((b.block _ (aL.lt n)).trans n);clear b;refine aV g ?_;refine eO 5 rfl g (λa G=>fe 36 #[(0,.tmp 24),(2,.tmp 26),(3,.tmp 28)] rfl #[(0,.agg (ak f).toArray),(2,.agg (ak q).toArray),(3,.agg (ak r).toArray)] (by first| rfl |(simp[Act.eval];done)) _ (A a)) ?_;refine aU 7 ?_;refine fM (n) s.size s.zero s.one ?_;intro P C D;(have x:=AA<|g.trans (au.aW D (aD.size) g.size));refine aV x ?_;refine bT ?_;go_wp2_with fail;go_meet
    case rel=>exact⟨_,rfl,C,x⟩
  case rest=>
  obtain⟨L,rfl,c,b⟩:=hcut;obtain⟨a,rfl⟩:=fB wc;have a:=aQ p b;clear b
  go_wp2_with (first
  |((rw[aF 33];refine aM c s.size AQ ?_))
  |(rw[bY 34];refine iY (o:=⟨some 34,_,_,_,_,_⟩) rfl 39 #[(0,.tmp 33)] rfl #[(0,.agg (aI w).toArray)] (by first| rfl |(simp[Act.eval,Act.put];done)) (.agg (aN w (.slice none 0 0)).toArray) (N _) ?_)
  |(rw[bY 35];refine iY (o:=⟨some 35,_,_,_,_,_⟩) rfl 126 #[(0,.tmp 30),(1,.tmp 31),(2,.tmp 32),(3,.tmp 34)] rfl #[(0,.int .i64 k),(1,.int .i64 u),(2,.pointer (some ⟨R,0,none⟩)),(3,.agg (aN w (.slice none 0 0)).toArray)] (by first| rfl |(simp[Act.eval,Act.put];done)) (.agg (w9 k u R w (.slice none 0 0)).toArray) (O _ _) ?_))
  go_ret2;refine U9 Q rfl (a.alloc a.size _) a.size ?_;rw[M.out,E.out];exact⟨y,λ_=>⟨rfl,rfl⟩,AX _,aL.new _ _ _,kD.oI _ _⟩
theorem Gb(a:Int)(c:World)(e:a < 9223372036854775808):
  bq 112 #[.int .i64 a,.int .i64 256] c (.agg (ak (bU a 256)).toArray):=by
 obtain⟨b,hx⟩:=aS (bU a 256)
 have d:Hid (b.length=32):=hx.out ▸ jL a 256
 have f:=AA<|λg=>u6 a g e
 have j:Hid ((kF a 257)[256]?=some b):=by show _=_;rw[wK a ah,hx.out]
 have g:=AA<|Below.aJ c (.cells bF 23)
 have h:=AA<|aL.new c 23 bF
 have k:Hid ((prog.info? 23).map (·.size)=some (ak b).length):=by show _=_;rw[aB,d.out];exact oC
 have c:=AA (bI b d)
 have l:Hid ((bF:Array Value).size=(ak b).toArray.size):=by show _=_;simp[aB,d.out,bF]
 have m:=AA (bO b)
 rw[hx.out]
 clear e hx
 go_enter func112,ntmps112
 go_wp2_with (first
  |(go_at_call 183;refine(f _).mono ?_;rintro e i ⟨n,o,rfl,d,b⟩;have n:=bf b h;have e:=aQ g b;obtain⟨q,r,o,p,i⟩:=(EU d (tH a 257) (nX a 257) _ _ rfl).at_ j;cases o;have a:=AA i;clear p i d b h g f)
  |((rw[aF 13];refine bS a k AB ?_))
  |(rw[bA 23 4];refine dB n c l m ?_;intro d a b;have d:=AA<|e.trans (au.aW b (AJ _) e.size);replace a:=AA a;clear b))
 refine gI a c AB ?_
 exact⟨rfl,d⟩
abbrev Qv(x y z:aj):bE:=⟨x,0,y,z,0⟩
def bL:aj:=List.replicate 32 0#8
theorem fV:bL.length=32:=List.length_replicate ..
theorem NE{a b z:aj}(hx:a.length=32)(c:b.length=32)(d:z.length=32):(Qv a b z).Ok:=⟨hx,c,d,(show(-9223372036854775808:Int)<=0/\(0:Int)<=9223372036854775807 by decide),(show(-9223372036854775808:Int)<=0/\(0:Int)<=9223372036854775807 by decide)⟩
def mR(x y z:aj):Array Value:=(aN (Qv x y z) (.slice none 0 0)).toArray
theorem LV:zeroCells39=mR bL bL bL:=by kernel_rfl
theorem WJ{b a c z:aj}(hx:b.length=32)(d:a.length=32):((mR b c z).toList.take 0++(ak a).toArray.toList++(mR b c z).toList.drop (0+(ak a).toArray.size)).toArray=mR a c z:=by
 (have b:(ak a).toArray.size=32:=by simp[aB,d]);rw[b];unfold mR aN aI;simp only[List.append_assoc,List.take_zero,List.nil_append];rw[List.drop_left' (by rw[aB,hx])]
theorem RQ{a c b z:aj}(hx:a.length=32)(d:c.length=32)(e:b.length=32):((mR a c z).toList.take 33++(ak b).toArray.toList++(mR a c z).toList.drop (33+(ak b).toArray.size)).toArray=mR a b z:=by
 (have f:(ak b).toArray.size=32:=by simp[aB,e]);(have e:(mR a c z).toList=(ak a++[.int .i64 0])++(ak c++(ak z++([.int .i64 0]++[.slice none 0 0]))):=by unfold mR aN aI;simp);(have c:(mR a b z).toList=(ak a++[.int .i64 0])++(ak b++(ak z++([.int .i64 0]++[.slice none 0 0]))):=by unfold mR aN aI;simp);(have b:(ak a++[Value.int .i64 0]).length=33:=by rw[List.length_append,aB,hx];rfl);rw[f,e,List.take_left' b,<-List.drop_drop,List.drop_left' b,List.drop_left' (by rw[aB,d]),List.toList_toArray,List.append_assoc,<-c]
theorem RP{a b z c:aj}(hx:a.length=32)(d:b.length=32)(e:z.length=32)(f:c.length=32):((mR a b z).toList.take 65++(ak c).toArray.toList++(mR a b z).toList.drop (65+(ak c).toArray.size)).toArray=mR a b c:=by
 (have g:(ak c).toArray.size=32:=by simp[aB,f]);(have f:(mR a b z).toList=(ak a++([.int .i64 0]++ak b))++(ak z++([.int .i64 0]++[.slice none 0 0])):=by unfold mR aN aI;simp);(have h:(mR a b c).toList=(ak a++([.int .i64 0]++ak b))++(ak c++([.int .i64 0]++[.slice none 0 0])):=by unfold mR aN aI;simp);(have c:(ak a++([Value.int .i64 0]++ak b)).length=65:=by rw[List.length_append,List.length_append,aB,aB,hx,d];rfl);rw[g,f,List.take_left' c,<-List.drop_drop,List.drop_left' c,List.drop_left' (by rw[aB,e]),List.toList_toArray,List.append_assoc,<-h]
theorem o6{a b z:aj}(hx:a.length=32)(c:b.length=32)(d:z.length=32):(mR a b z).size=99:=by unfold mR;rw[List.size_toArray,dY (NE hx c d)]
theorem uU:(prog.info? 41).map (·.size)=some 102:=by kernel_rfl
def uO:Array Value:=(EM 0 0 (.slice none 0 0) (Qv bL bL bL) (.slice none 0 0)).toArray
theorem ou:uO.size=102:=by unfold uO;rw[List.size_toArray,wh (NE fV fV fV)]
theorem zF:zeroCells41=uO:=by kernel_rfl
theorem TI(a:List (Nat×Value)):prog.built 41 a=Instr.fill (#[((0:Nat),(1:Nat)),(1,1),(2,1),(3,99)][·]?) ([Value.int .i64 0]++([Value.int .i64 0]++([Value.slice none 0 0]++Dm.toList))).toArray a:=by kernel_rfl
theorem Mv(b c:Int)(d:Option Addr)(e f:Nat){a:bE}(l:a.Ok)(v:Value)(g:World):(Instr.build 41 #[(0,.int .i64 b),(1,.int .i64 c),(2,.slice d e f),(3,.agg (aN a v).toArray)]).run prog g=.ok (.agg (EM b c (.slice d e f) a v).toArray) g:=by
 refine run_build g _ _ _ ?_;rw[TI];have h:=gT (place:=(#[((0:Nat),(1:Nat)),(1,1),(2,1),(3,99)][·]?)) (i:=0) (v:=.int .i64 b) (xs:=[.int .i64 b]) (old:=[Value.int .i64 0]) (pre:=[]) (post:=[Value.int .i64 0]++([Value.slice none 0 0]++Dm.toList)) (rest:=[(1,.int .i64 c),(2,.slice d e f),(3,.agg (aN a v).toArray)]) rfl rfl rfl rfl rfl;have j:=gT (place:=(#[((0:Nat),(1:Nat)),(1,1),(2,1),(3,99)][·]?)) (i:=1) (v:=.int .i64 c) (xs:=[.int .i64 c]) (old:=[Value.int .i64 0]) (pre:=[.int .i64 b]) (post:=[Value.slice none 0 0]++Dm.toList) (rest:=[(2,.slice d e f),(3,.agg (aN a v).toArray)]) rfl rfl rfl rfl rfl;have k:=gT (place:=(#[((0:Nat),(1:Nat)),(1,1),(2,1),(3,99)][·]?)) (i:=2) (v:=.slice d e f) (xs:=[.slice d e f]) (old:=[Value.slice none 0 0]) (pre:=[.int .i64 b,.int .i64 c]) (post:=Dm.toList) (rest:=[(3,.agg (aN a v).toArray)]) rfl rfl rfl rfl rfl;have g:=gT (place:=(#[((0:Nat),(1:Nat)),(1,1),(2,1),(3,99)][·]?)) (i:=3) (v:=.agg (aN a v).toArray) (xs:=aN a v) (old:=Dm.toList) (pre:=[.int .i64 b,.int .i64 c,.slice d e f]) (post:=[]) (rest:=[]) rfl rfl (dY l v) rfl (by rw[Array.length_toList];exact yw);rw[pK]at g;simp only[List.nil_append,List.append_nil,List.cons_append]at h j k g;simp only[List.nil_append,List.cons_append];rw[h,j,k,g];rfl
theorem zQ{a f:Int}{g c:Option Addr}{i j d e:Nat}{h:bE}:(EM a f (.slice g i j) h (.slice c d e)).toArray.all (λb=>b.oneCell')=true:=by
 rw[List.all_toArray];(refine List.all_eq_true.2 λb a=>?_);unfold EM at a
 rcases Aj.1 a with a | a
 ·simp only[List.mem_cons,List.not_mem_nil,or_false]at a
  rcases a with rfl | rfl | rfl<;>rfl
 ·have:=qL (h:=h) c d e
  rw[List.all_toArray]at this;exact List.all_eq_true.1 this b a
def QU(s:Int)(log:aj)(least:Int)(K:Value)(w:World)(e:Ending)(w':World):Prop:=∃v k,e=.returned (.tuple #[v,.int .i64 k])/\av w w'/\k=DC least/\v=.agg (if k=0 then(EM (cl s) least K (Uf (cl s) log) (.slice none 0 0)).toArray else uO)
theorem MU(v:Int)(ζ:v < 9223372036854775808)(b:aj)(F:b.length=32)(g:Int)(i:Option Addr)(j k:Nat)(l:World):
  Calls prog 47 #[.int .i64 v,.agg (ak b).toArray,.slice i j k,.int .i64 g] l (QU v b g (.slice i j k) l):=by
 obtain⟨a,G⟩:=aS ((l.alloc (.cells (ak b).toArray 23)).alloc (.cells uO 41))
 have O:(l.alloc (.cells (ak b).toArray 23)).heap.size=l.heap.size+1:=by simp
 have η:Hid (aL a l.heap.size 23 (ak b).toArray):=G.out ▸ (aL.new l _ _).alloc _
 have J:Hid (aL a (l.heap.size+1) 41 uO):=by
  show aL _ _ _ _;rw[<-G.out,<-O];exact aL.new _ _ _
 have p:Hid (Below l.heap.size l a):=G.out ▸ (Below.aJ l _).alloc (by rw[O];omega) _
 have Ξ:=AA J.lt
 have β:Hid ((prog.info? 41).map (·.size)=some uO.size):=by show _=_;rw[ou];exact uU
 have Φ:(l.alloc (.cells (ak b).toArray 23)).alloc (.cells zeroCells41 41)=a:=by rw[zF];exact G
 by_cases x:g < 1\/16 < g
 ·have K:DC g=1:=by unfold DC;rw[if_pos x]
  have υ:Hid (uO.all (λω=>ω.oneCell')=true):=zQ;by_cases φ:g < 1
  ·clear x G O ζ F
   (go_enter Bp,ntmps47);go_upto_region 2 with fail
   go_wp2_with (first
     |(rw[bA 41 8];refine dB J β rfl υ ?_;intro γ H P;have m:=AA<|p.trans (au.aW P ah p.size);replace H:=AA H;clear P))
   refine bodyPost_ret (di rfl _ _ (l.heap.size+1) 41 uO (0,0) _ rfl H BV rfl β) rfl ?_;exact⟨_,_,rfl,m,K.symm,rfl⟩
  ·have Ψ:=x.resolve_left φ
   have Γ:=eq_false φ;clear x G O ζ F;(go_enter Bp,ntmps47);go_upto_region 2 with fail
   go_wp2_with (first
     |(rw[bA 41 8];refine dB J β rfl υ ?_;intro γ H P;have m:=AA<|p.trans (au.aW P ah p.size);replace H:=AA H;clear P))
   refine bodyPost_ret (di rfl _ _ (l.heap.size+1) 41 uO (0,0) _ rfl H BV rfl β) rfl ?_;exact⟨_,_,rfl,m,K.symm,rfl⟩
 have K:DC g=0:=by unfold DC;rw[if_neg x]
 have Γ:=eq_false λθ=>x (.inl θ)
 have Ω:=eq_false λθ=>x (.inr θ)
 obtain⟨h,Q⟩:=aS (cl v)
 have χ:Hid (h < 9223372036854775808):=by
  show h < _;have I:=Q.out;unfold cl cu at I
  split at I
  ·omega
  ·split at I<;>omega
 obtain⟨c,δ⟩:=aS (vk h)
 obtain⟨e,ε⟩:=aS (bU h 256)
 have d:Hid (c.length=32):=δ.out ▸ xY h
 have n:Hid (e.length=32):=ε.out ▸ jL h 256
 have ι:Hid (Uf h b=Qv b c e):=by show _=_;rw[<-δ.out,<-ε.out];rfl
 have R:=AA<|NE F d n
 have κ:Hid (∀S,bq 111 #[.int .i64 h] S (.agg (ak c).toArray)):=λS=>by
  have:=uZ h S χ;rw[<-δ.out];exact this
 have μ:=AA<|λS=>by
  have:=Gb h S χ;rw[ε.out]at this;exact this
 have L:=AA (bI b F)
 have ν:=AA (bI c d)
 have ξ:=AA (bI e n)
 have ο:Hid ((prog.info? 39).map (·.size)=some (mR b c e).size):=by show _=_;rw[o6 F d.out n.out];exact Rt
 have M:Hid ((prog.info? 41).map (·.size)=some (EM h g (.slice i j k) (Qv b c e) (.slice none 0 0)).toArray.size):=by show _=_;rw[List.size_toArray,wh R.out];exact uU
 have ρ:Hid (uO.size=(EM h g (.slice i j k) (Qv b c e) (.slice none 0 0)).toArray.size):=ou.trans (show 102=(EM h g (.slice i j k) (Qv b c e) (.slice none 0 0)).length from(wh R _).symm)
 have f:=AA F
 have w:Hid (∀σ:aj,σ.length=32->(ak σ).toArray.size=32):=λσ hx=>by rw[List.size_toArray,aB,hx]
 clear x G O ζ F δ ε
 have Δ:(v < 1/\h=1)\/(¬v < 1/\32 < v/\h=32)\/(¬v < 1/\¬32 < v/\h=v):=by
  have I:=Q.out;unfold cl cu at I
  split at I
  ·omega
  ·split at I<;>omega
 rcases Δ with⟨N,rfl⟩ |⟨N,τ,rfl⟩ |⟨N,τ,rfl⟩
 ·go_enter Bp,ntmps47
  go_upto_region 7 with fail
  go_wp2_with (first
    |((rw[aF 22];refine aM ((η).alloc _) L AB ?_))
    |(rw[iE 23 24];refine dO (o:=⟨none,_,_,_,_,_⟩) rfl 23 (.tmp 24) (.tmp 22) rfl a.heap.size 0 (ak b).toArray rfl rfl 39 _ (show aL (a.alloc (.cells zeroCells39 39)) a.heap.size 39 (mR bL bL bL) by rw[<-LV];exact aL.new _ _ _) L (by rw[o6 (by first| exact fV | exact f.out | exact d.out) (by first| exact fV | exact d.out) fV,w.out _ (by first| exact f.out | exact d.out | exact n.out)];decide) (bO _) ?_;rw[WJ fV f.out];have y:Hid (aL ((a.alloc (.cells zeroCells39 39)).setRow a.heap.size (mR b bL bL)) a.heap.size 39 (mR b bL bL)):=setRow_heap _ _ _ _ _ _ (aL.new _ _ _);have z:Hid (Below a.heap.size a ((a.alloc (.cells zeroCells39 39)).setRow a.heap.size (mR b bL bL))):=below_setRow (Below.aJ a _) (AJ _) _;generalize(a.alloc (.cells zeroCells39 39)).setRow a.heap.size (mR b bL bL)=T at*)
    |(go_at_call 111;refine(κ T).mono ?_;rintro U q ⟨rfl,r⟩;have A:=bf r y;have V:=aQ z r;clear r y z)
    |(rw[iE 23 28];refine dO (o:=⟨none,_,_,_,_,_⟩) rfl 23 (.tmp 28) (.tmp 26) rfl a.heap.size 33 (ak c).toArray rfl rfl 39 _ A ν (by rw[o6 (by first| exact fV | exact f.out | exact d.out) (by first| exact fV | exact d.out) fV,w.out _ (by first| exact f.out | exact d.out | exact n.out)];decide) (bO _) ?_;rw[RQ f.out fV d.out];have B:Hid (aL (q.setRow a.heap.size (mR b c bL)) a.heap.size 39 (mR b c bL)):=setRow_heap _ _ _ _ _ _ A;have C:Hid (Below a.heap.size a (q.setRow a.heap.size (mR b c bL))):=below_setRow V (AJ _) _;generalize q.setRow a.heap.size (mR b c bL)=W at*)
    |(go_at_call 112;refine(μ W).mono ?_;rintro U s ⟨rfl,t⟩;have D:=bf t B;have X:=aQ C t;clear t B C)
    |(rw[iE 23 32];refine dO (o:=⟨none,_,_,_,_,_⟩) rfl 23 (.tmp 32) (.tmp 30) rfl a.heap.size 65 (ak e).toArray rfl rfl 39 _ D ξ (by rw[o6 (by first| exact fV | exact f.out | exact d.out) (by first| exact fV | exact d.out) fV,w.out _ (by first| exact f.out | exact d.out | exact n.out)];decide) (bO _) ?_;rw[RP f.out d.out fV n.out];have Y:Hid (aL (s.setRow a.heap.size (mR b c e)) a.heap.size 39 (mR b c e)):=setRow_heap _ _ _ _ _ _ D;have m:Hid (Below a.heap.size a (s.setRow a.heap.size (mR b c e))):=below_setRow X (AJ _) _;generalize s.setRow a.heap.size (mR b c e)=γ at*;have Z:=bf m J)
    |((rw[aF 36];refine aM Y ο Am ?_))
    |(rw[bY 37];refine iY (o:=⟨some 37,_,_,_,_,_⟩) rfl 41 #[(0,.tmp 33),(1,.tmp 34),(2,.tmp 35),(3,.tmp 36)] rfl #[(0,.int .i64 1),(1,.int .i64 g),(2,.slice i j k),(3,.agg (mR b c e))] (by first| rfl |(simp[Act.eval,Act.put];done)) (.agg (EM 1 g (.slice i j k) (Qv b c e) (.slice none 0 0)).toArray) (Mv 1 g i j k R _ _) ?_)
    |(rw[bA 41 8];refine dB Z M ρ zQ ?_;intro ψ u E;have α:=AA<|(p.trans (m.mono p.size)).trans (au.aW E ah (AZ p.size m.size));replace u:=AA u;clear E))
  refine bodyPost_ret (di rfl _ _ (l.heap.size+1) 41 (EM 1 g (.slice i j k) (Qv b c e) (.slice none 0 0)).toArray (0,0) _ rfl u BV rfl M) rfl ?_;exact⟨_,_,rfl,α,K.symm,by rw[if_pos rfl,Q.out,ι.out]⟩
 ·have Θ:=eq_false N
  clear N;(go_enter Bp,ntmps47);go_upto_region 7 with fail
  go_wp2_with (first
    |((rw[aF 22];refine aM ((η).alloc _) L AB ?_))
    |(rw[iE 23 24];refine dO (o:=⟨none,_,_,_,_,_⟩) rfl 23 (.tmp 24) (.tmp 22) rfl a.heap.size 0 (ak b).toArray rfl rfl 39 _ (show aL (a.alloc (.cells zeroCells39 39)) a.heap.size 39 (mR bL bL bL) by rw[<-LV];exact aL.new _ _ _) L (by rw[o6 (by first| exact fV | exact f.out | exact d.out) (by first| exact fV | exact d.out) fV,w.out _ (by first| exact f.out | exact d.out | exact n.out)];decide) (bO _) ?_;rw[WJ fV f.out];have y:Hid (aL ((a.alloc (.cells zeroCells39 39)).setRow a.heap.size (mR b bL bL)) a.heap.size 39 (mR b bL bL)):=setRow_heap _ _ _ _ _ _ (aL.new _ _ _);have z:Hid (Below a.heap.size a ((a.alloc (.cells zeroCells39 39)).setRow a.heap.size (mR b bL bL))):=below_setRow (Below.aJ a _) (AJ _) _;generalize(a.alloc (.cells zeroCells39 39)).setRow a.heap.size (mR b bL bL)=T at*)
    |(go_at_call 111;refine(κ T).mono ?_;rintro U q ⟨rfl,r⟩;have A:=bf r y;have V:=aQ z r;clear r y z)
    |(rw[iE 23 28];refine dO (o:=⟨none,_,_,_,_,_⟩) rfl 23 (.tmp 28) (.tmp 26) rfl a.heap.size 33 (ak c).toArray rfl rfl 39 _ A ν (by rw[o6 (by first| exact fV | exact f.out | exact d.out) (by first| exact fV | exact d.out) fV,w.out _ (by first| exact f.out | exact d.out | exact n.out)];decide) (bO _) ?_;rw[RQ f.out fV d.out];have B:Hid (aL (q.setRow a.heap.size (mR b c bL)) a.heap.size 39 (mR b c bL)):=setRow_heap _ _ _ _ _ _ A;have C:Hid (Below a.heap.size a (q.setRow a.heap.size (mR b c bL))):=below_setRow V (AJ _) _;generalize q.setRow a.heap.size (mR b c bL)=W at*)
    |(go_at_call 112;refine(μ W).mono ?_;rintro U s ⟨rfl,t⟩;have D:=bf t B;have X:=aQ C t;clear t B C)
    |(rw[iE 23 32];refine dO (o:=⟨none,_,_,_,_,_⟩) rfl 23 (.tmp 32) (.tmp 30) rfl a.heap.size 65 (ak e).toArray rfl rfl 39 _ D ξ (by rw[o6 (by first| exact fV | exact f.out | exact d.out) (by first| exact fV | exact d.out) fV,w.out _ (by first| exact f.out | exact d.out | exact n.out)];decide) (bO _) ?_;rw[RP f.out d.out fV n.out];have Y:Hid (aL (s.setRow a.heap.size (mR b c e)) a.heap.size 39 (mR b c e)):=setRow_heap _ _ _ _ _ _ D;have m:Hid (Below a.heap.size a (s.setRow a.heap.size (mR b c e))):=below_setRow X (AJ _) _;generalize s.setRow a.heap.size (mR b c e)=γ at*;have Z:=bf m J)
    |((rw[aF 36];refine aM Y ο Am ?_))
    |(rw[bY 37];refine iY (o:=⟨some 37,_,_,_,_,_⟩) rfl 41 #[(0,.tmp 33),(1,.tmp 34),(2,.tmp 35),(3,.tmp 36)] rfl #[(0,.int .i64 32),(1,.int .i64 g),(2,.slice i j k),(3,.agg (mR b c e))] (by first| rfl |(simp[Act.eval,Act.put];done)) (.agg (EM 32 g (.slice i j k) (Qv b c e) (.slice none 0 0)).toArray) (Mv 32 g i j k R _ _) ?_)
    |(rw[bA 41 8];refine dB Z M ρ zQ ?_;intro ψ u E;have α:=AA<|(p.trans (m.mono p.size)).trans (au.aW E ah (AZ p.size m.size));replace u:=AA u;clear E))
  refine bodyPost_ret (di rfl _ _ (l.heap.size+1) 41 (EM 32 g (.slice i j k) (Qv b c e) (.slice none 0 0)).toArray (0,0) _ rfl u BV rfl M) rfl ?_;exact⟨_,_,rfl,α,K.symm,by rw[if_pos rfl,Q.out,ι.out]⟩
 ·have Θ:=eq_false N
  have À:=eq_false τ;clear N τ;(go_enter Bp,ntmps47);go_upto_region 7 with fail
  go_wp2_with (first
    |((rw[aF 22];refine aM ((η).alloc _) L AB ?_))
    |(rw[iE 23 24];refine dO (o:=⟨none,_,_,_,_,_⟩) rfl 23 (.tmp 24) (.tmp 22) rfl a.heap.size 0 (ak b).toArray rfl rfl 39 _ (show aL (a.alloc (.cells zeroCells39 39)) a.heap.size 39 (mR bL bL bL) by rw[<-LV];exact aL.new _ _ _) L (by rw[o6 (by first| exact fV | exact f.out | exact d.out) (by first| exact fV | exact d.out) fV,w.out _ (by first| exact f.out | exact d.out | exact n.out)];decide) (bO _) ?_;rw[WJ fV f.out];have y:Hid (aL ((a.alloc (.cells zeroCells39 39)).setRow a.heap.size (mR b bL bL)) a.heap.size 39 (mR b bL bL)):=setRow_heap _ _ _ _ _ _ (aL.new _ _ _);have z:Hid (Below a.heap.size a ((a.alloc (.cells zeroCells39 39)).setRow a.heap.size (mR b bL bL))):=below_setRow (Below.aJ a _) (AJ _) _;generalize(a.alloc (.cells zeroCells39 39)).setRow a.heap.size (mR b bL bL)=T at*)
    |(go_at_call 111;refine(κ T).mono ?_;rintro U q ⟨rfl,r⟩;have A:=bf r y;have V:=aQ z r;clear r y z)
    |(rw[iE 23 28];refine dO (o:=⟨none,_,_,_,_,_⟩) rfl 23 (.tmp 28) (.tmp 26) rfl a.heap.size 33 (ak c).toArray rfl rfl 39 _ A ν (by rw[o6 (by first| exact fV | exact f.out | exact d.out) (by first| exact fV | exact d.out) fV,w.out _ (by first| exact f.out | exact d.out | exact n.out)];decide) (bO _) ?_;rw[RQ f.out fV d.out];have B:Hid (aL (q.setRow a.heap.size (mR b c bL)) a.heap.size 39 (mR b c bL)):=setRow_heap _ _ _ _ _ _ A;have C:Hid (Below a.heap.size a (q.setRow a.heap.size (mR b c bL))):=below_setRow V (AJ _) _;generalize q.setRow a.heap.size (mR b c bL)=W at*)
    |(go_at_call 112;refine(μ W).mono ?_;rintro U s ⟨rfl,t⟩;have D:=bf t B;have X:=aQ C t;clear t B C)
    |(rw[iE 23 32];refine dO (o:=⟨none,_,_,_,_,_⟩) rfl 23 (.tmp 32) (.tmp 30) rfl a.heap.size 65 (ak e).toArray rfl rfl 39 _ D ξ (by rw[o6 (by first| exact fV | exact f.out | exact d.out) (by first| exact fV | exact d.out) fV,w.out _ (by first| exact f.out | exact d.out | exact n.out)];decide) (bO _) ?_;rw[RP f.out d.out fV n.out];have Y:Hid (aL (s.setRow a.heap.size (mR b c e)) a.heap.size 39 (mR b c e)):=setRow_heap _ _ _ _ _ _ D;have m:Hid (Below a.heap.size a (s.setRow a.heap.size (mR b c e))):=below_setRow X (AJ _) _;generalize s.setRow a.heap.size (mR b c e)=γ at*;have Z:=bf m J)
    |((rw[aF 36];refine aM Y ο Am ?_))
    |(rw[bY 37];refine iY (o:=⟨some 37,_,_,_,_,_⟩) rfl 41 #[(0,.tmp 33),(1,.tmp 34),(2,.tmp 35),(3,.tmp 36)] rfl #[(0,.int .i64 h),(1,.int .i64 g),(2,.slice i j k),(3,.agg (mR b c e))] (by first| rfl |(simp[Act.eval,Act.put];done)) (.agg (EM h g (.slice i j k) (Qv b c e) (.slice none 0 0)).toArray) (Mv h g i j k R _ _) ?_)
    |(rw[bA 41 8];refine dB Z M ρ zQ ?_;intro ψ u E;have α:=AA<|(p.trans (m.mono p.size)).trans (au.aW E ah (AZ p.size m.size));replace u:=AA u;clear E))
  refine bodyPost_ret (di rfl _ _ (l.heap.size+1) 41 (EM h g (.slice i j k) (Qv b c e) (.slice none 0 0)).toArray (0,0) _ rfl u BV rfl M) rfl ?_;exact⟨_,_,rfl,α,K.symm,by rw[if_pos rfl,Q.out,ι.out]⟩
theorem LA(t:Nat)(k D:Int)(E:Nat)(c:bE)(F:Option Addr)(G H:Nat)(I:List aj)(g:ByteArray)(w:g.size < 140737488355327)(l:Bool)(m:Int)(ch h:aj)(u:ch.length=32)(hd:h.length=32)(o:Option Addr)(i c2:Nat)(n:List aj)(b:World)(v:bn b)(p:gN b t k D E c F G H I)(x:j6 b o i n):
  bq 57 #[.pointer (some ⟨t,0,none⟩),.agg (dH g l (dW m ch) h o i c2).toArray] b (.int .i64 (kN k c.index g l m ch h i n)):=by
 obtain⟨j,q⟩:∃j:Array Value,Hid ((dH g l (dW m ch) h o i c2).toArray=j):=⟨_,AA rfl⟩
 have J:Hid ((prog.info? 52).map (·.size)=some j.size):=by show _=_;rw[<-q.out,List.size_toArray,qd (dV u) hd];exact Ey
 have y:Hid (∀a,av b a->bq 120 #[.int .i64 k,.agg (ak c.index).toArray,.agg j] a (.int .i64 (kN k c.index g l m ch h i n))):=λa d=>by rw[<-q.out];exact PK c.index p.ok.index g w l m ch h u hd o i c2 k n a (v.below d v.1) (x.below d)
 rw[q.out]
 obtain⟨r,s⟩:=aS (b.alloc (.cells j 52))
 have z:Hid (aL r b.heap.size 52 j):=s.out ▸ aL.new b _ _
 have e:Hid (av b r):=s.out ▸ Below.aJ b _
 have O:=s.out
 have A:=AA<|λa (d:av b a)=>p.below d
 have K:Hid ((prog.info? 23).map (·.size)=some (ak c.index).length):=by show _=_;rw[aB,p.ok.index];exact mP
 have L:Hid (∀a,av r a->aL a b.heap.size 52 j):=λa d=>(d.block _ z.lt).trans z
 obtain⟨P,B⟩:=aS (kN k c.index g l m ch h i n)
 rw[B.out]at y ⊢
 clear s v p x w u hd q B
 go_enter func57,ntmps57
 go_upto_region 1 with fail
 refine cB (aA r) (aA.jD ((Below.refl _ _).drew)) ?_
 iterate 3 refine aG ?_
 refine bC (λa f=>(A a (e.trans (f.below.mono e.size))).width) ?_
 iterate 5 refine aG ?_
 refine dh t (68) (ak c.index) (λa f=>gN.indexAt (A a (e.trans (f.below.mono e.size)))) K AB ?_
 refine gu (λa f=>L a f.below) J Au ?_
 refine cZ func120 (λa f=>((y a (e.trans (f.below.mono e.size))).mono λQ R ⟨M,d⟩=>⟨M,f.next d⟩)) ?_
 refine aG ?_
 refine bR ?_
 intro S C
 have N:=AA<|e.trans (C.below.mono e.size)
 clear C
 go_wp2_with fail
 go_ret
 exact⟨rfl,N⟩
theorem Kr(t:Nat)(D:Value)(f E:Int)(K:Value)(c:bE)(F:Option Addr)(G H:Nat)(I:List aj)(g:ByteArray)(v:g.size < 140737488355327)(l:Bool)(m:Int)(ch h:aj)(u:ch.length=32)(hd:h.length=32)(o:Option Addr)(i c2:Nat)(n:List aj)(b:World)(w:f < 9223372036854775808)(p:fQ b t D f E K c F G H I)(x:j6 b o i n):
  bq 58 #[.pointer (some ⟨t,1,none⟩),.agg (dH g l (dW m ch) h o i c2).toArray] b (.int .i64 (kN f c.index g l m ch h i n)):=by
 obtain⟨j,q⟩:∃j:Array Value,Hid ((dH g l (dW m ch) h o i c2).toArray=j):=⟨_,AA rfl⟩
 have J:Hid ((prog.info? 52).map (·.size)=some j.size):=by show _=_;rw[<-q.out,List.size_toArray,qd (dV u) hd];exact Ey
 have y:Hid (∀a,av b a->bq 121 #[.int .i64 f,.agg (ak c.index).toArray,.agg j] a (.int .i64 (kN f c.index g l m ch h i n))):=λa k=>by rw[<-q.out];exact Im c.index p.ok.index g v l m ch h u hd o i c2 f n a w (x.below k)
 rw[q.out]
 obtain⟨r,s⟩:=aS (b.alloc (.cells j 52))
 have z:Hid (aL r b.heap.size 52 j):=s.out ▸ aL.new b _ _
 have d:Hid (av b r):=s.out ▸ Below.aJ b _
 have P:=s.out
 have A:=AA<|λa (k:av b a)=>p.below k
 have L:Hid ((prog.info? 23).map (·.size)=some (ak c.index).length):=by show _=_;rw[aB,p.ok.index];exact mP
 have M:Hid (∀a,av r a->aL a b.heap.size 52 j):=λa k=>(k.block _ z.lt).trans z
 obtain⟨Q,B⟩:=aS (kN f c.index g l m ch h i n)
 rw[B.out]at y ⊢
 clear s w p x v u hd q B
 go_enter func58,ntmps58
 go_upto_region 1 with fail
 refine cB (aA r) (aA.jD ((Below.refl _ _).drew)) ?_
 iterate 3 refine aG ?_
 refine bC (λa e=>fQ.width (A a (d.trans (e.below.mono d.size)))) ?_
 iterate 5 refine aG ?_
 refine dh t (69) (ak c.index) (λa e=>fQ.indexAt (A a (d.trans (e.below.mono d.size)))) L AB ?_
 refine gu (λa e=>M a e.below) J Au ?_
 refine cZ func121 (λa e=>((y a (d.trans (e.below.mono d.size))).mono λR S ⟨N,k⟩=>⟨N,e.next k⟩)) ?_
 refine aG ?_
 refine bR ?_
 intro T C
 have O:=AA<|d.trans (C.below.mono d.size)
 clear C
 go_wp2_with fail
 go_ret
 exact⟨rfl,O⟩
theorem IE(y:Nat)(O:Value)(g P:Int)(A:g < 9223372036854775808)(K:Value)(d:bE)(Q:Option Addr)(R S:Nat)(T:List aj)(j:aj)(h:Nat)(B:j.length=h)(C:h < 140737488355328)(r:Option Addr)(c1:Nat)(D:h<=c1)(E:r=none->h=0/\c1=0)(c e:Int)(k:List aj)(n:Option Addr)(l c2:Nat)(F:l < 1099511627776)(f:World)(v:fQ f y O g P K d Q R S T)(G:ax f 1 r h (ak j))(H:j6 f n l k):
  bq 56 #[.pointer (some ⟨y,1,none⟩),.slice r h c1,.agg (eP c e n l c2)] f (.int .i64 (Tq g d j c e k)):=by
 unfold eP
 obtain⟨s,w⟩:=aS (f.alloc (.cells #[Value.int .i64 c,Value.int .i64 e,Value.slice n l c2] 48))
 have I:Hid (aL s f.heap.size 48 #[Value.int .i64 c,Value.int .i64 e,Value.slice n l c2]):=w.out ▸ aL.new f _ _
 have p:Hid (av f s):=w.out ▸ Below.aJ f _
 have X:=w.out
 have x:=AA<|λa (m:av f a)=>v.below m
 have J:Hid (∀a,av f a->bq 119 #[.int .i64 g,.agg (ak d.root).toArray,.slice r h c1,.agg #[Value.int .i64 c,Value.int .i64 e,Value.slice n l c2]] a (.int .i64 (jW g d.root j c e k))):=λa m=>Kq g d.root v.ok.root j h B C r c1 D E c e k n l c2 F a A (G.below m) (H.below m)
 have U:Hid ((prog.info? 23).map (·.size)=some (ak d.root).length):=by show _=_;rw[aB,v.ok.root];exact mP
 have z:Hid (∀a,av s a->aL a f.heap.size 48 #[Value.int .i64 c,Value.int .i64 e,Value.slice n l c2]):=λa m=>(m.block _ I.lt).trans I
 clear w v B C D E F G H A
 by_cases hx:c=d.size
 ·have q:Hid (Tq g d j c e k=jW g d.root j c e k):=by show _=_;unfold Tq;rw[if_neg (λh=>h hx)]
  obtain⟨Y,L⟩:=aS (jW g d.root j c e k);rw[L.out]at q J;rw[q.out];(have o:(c !=d.size)=false:=by simp[hx]);replace o:=AA o;clear hx q L;(go_enter func56,ntmps56);go_upto_region 1 with fail;refine cB (aA s) (aA.jD ((Below.refl _ _).drew)) ?_;refine aG ?_;refine bC (λa b=>(z a b.below).cell 0) ?_;(iterate 5 refine aG ?_);refine bC (λa b=>fQ.Ez (x a (p.trans (b.below.mono p.size)))) ?_;refine bC (λa b=>o.out) ?_;refine bR ?_;intro M t;have u:=AA t.below;have i:=aQ p u;clear t;go_wp2_with fail;go_upto_region 3 with fail;refine cB (aA M) (aA.jD ((Below.refl _ _).drew)) ?_;(iterate 3 refine aG ?_);refine bC (λa b=>fQ.width (x a (i.trans (b.below.mono i.size)))) ?_;(iterate 5 refine aG ?_);refine dh y (37) (ak d.root) (λa b=>fQ.MC (x a (i.trans (b.below.mono i.size)))) U AB ?_;refine aG ?_;refine gu (λa b=>z a (u.trans (b.below.mono u.size))) sP Bz ?_;refine cZ func119 (λa b=>((J a (i.trans (b.below.mono i.size))).mono λZ α ⟨V,m⟩=>⟨V,b.next m⟩)) ?_;refine aG ?_;refine bR ?_;intro β N;(have W:=AA<|i.trans (N.below.mono i.size));clear N;go_wp2_with fail;go_ret;exact⟨rfl,W⟩
 ·have q:Tq g d j c e k=170:=by unfold Tq;rw[if_pos hx]
  rw[q];(have o:(c !=d.size)=true:=by simpa using hx);replace o:=AA o;clear hx q;(go_enter func56,ntmps56);go_upto_region 1 with fail;refine cB (aA s) (aA.jD ((Below.refl _ _).drew)) ?_;refine aG ?_;refine bC (λa b=>(z a b.below).cell 0) ?_;(iterate 5 refine aG ?_);refine bC (λa b=>fQ.Ez (x a (p.trans (b.below.mono p.size)))) ?_;refine bC (λa b=>o.out) ?_;refine bR ?_;intro M t;have u:=AA t.below;have i:=aQ p u;clear t;go_wp2_with fail;go_ret;exact⟨rfl,i⟩
