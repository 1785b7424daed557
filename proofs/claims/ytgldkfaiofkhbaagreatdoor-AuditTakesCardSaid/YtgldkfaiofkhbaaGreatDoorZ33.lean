import Derived.Test.YtgldkfaiofkhbaaGreatDoorZ32
import Derived.Test.YtgldkfaiofkhbaaGreatDoorZ28
import Derived.LaidEql
namespace Go.Proofs.YtgldkfaiofkhbaaGreatDoor
open Go Go.RowKit Go.Proofs.Tryz
set_option maxRecDepth 100000
set_option maxHeartbeats 32000000
theorem FO(c:Int)(a:aj)(d:Int)(b:World):
  bq 9 #[.int .i64 c,.agg (ak a).toArray,.pointer none,.int .i64 d] b (.tuple #[.pointer none,.int .i64 1]):=by
 have c:=AA<|Below.aJ b (.cells (ak a).toArray 23)
 go_enter func9,ntmps9
 go_wp2_with fail
 go_ret2
 exact⟨rfl,c⟩
theorem TJ(a:List (Nat×Value)):prog.built 43 a=Instr.fill (#[((0:Nat),(1:Nat)),(1,102)][·]?) ([Value.pointer none]++uO.toList).toArray a:=by kernel_rfl
theorem WE(b:Option Addr)(c d:Int)(K:Value){a:bE}(g:a.Ok)(v:Value)(e:World):(Instr.build 43 #[(0,.pointer b),(1,.agg (EM c d K a v).toArray)]).run prog e=.ok (.agg (Ll (.pointer b) c d K a v).toArray) e:=by
 refine run_build e _ _ _ ?_;rw[TJ];have f:=gT (place:=(#[((0:Nat),(1:Nat)),(1,102)][·]?)) (i:=0) (v:=.pointer b) (xs:=[.pointer b]) (old:=[Value.pointer none]) (pre:=[]) (post:=uO.toList) (rest:=[(1,.agg (EM c d K a v).toArray)]) rfl rfl rfl rfl rfl;have e:=gT (place:=(#[((0:Nat),(1:Nat)),(1,102)][·]?)) (i:=1) (v:=.agg (EM c d K a v).toArray) (xs:=EM c d K a v) (old:=uO.toList) (pre:=[.pointer b]) (post:=[]) (rest:=[]) rfl rfl (wh g v) rfl (by rw[Array.length_toList];exact ou);rw[pK]at e;simp only[List.nil_append,List.append_nil]at f e;rw[f,e];rfl
structure ru(w:World)(g a:Nat)(s least:Int)(R:Nat)(K:Value)(h:bE)(A:Option Addr)(n c:Nat)(A':Option Addr)(c':Nat)(ss:List aj):Prop where
 Eg:gN w a s least R h A n c ss
 JE:fQ w g (.pointer (some ⟨a,0,none⟩)) s least K h A' n c' ss
theorem ru.below{w a:World}{b d:Nat}{s e:Int}{R:Nat}{K:Value}{h:bE}{A:Option Addr}{n c:Nat}{f:Option Addr}{g:Nat}{i:List aj}(k:ru w b d s e R K h A n c f g i)(j:av w a):ru a b d s e R K h A n c f g i:=⟨k.Eg.below j,k.JE.below j⟩
def VT(s:Int)(log:aj)(ks:List aj)(least:Int)(K:Value)(w:World)(e:Ending)(w':World):Prop:=∃v,e=.returned (.tuple #[v,.bool true])/\av w w'/\(((gB ks≠0\/DC least≠0)/\v=.pointer none)\/(gB ks=0/\DC least=0/\∃g a R l wR,v=.pointer (some ⟨g,0,none⟩)/\(wR.heap.size<=a/\a < g/\g < w'.heap.size)/\(mV wR R R l/\w.heap.size<=R/\w.heap.size<=wR.heap.size/\av wR w')/\(l.map (·.q)).Perm ks/\bN jF l/\ru w' g a (cl s) least R K (Uf (cl s) log) none 0 0 none 0 []))
theorem KM(f:Int)(r:f < 9223372036854775808)(g:aj)(l:g.length=32)(j:List aj)(a:Nat)(n:j.length=a)(s:a<=1000)(c:Option Addr)(e:Nat)(b:Int)(d:World)(i:bn d)(p:gq d c j)(q:∀h∈j,h.length < 140737488355228):
  Calls prog 8 #[.int .i64 f,.agg (ak g).toArray,.slice c a e,.int .i64 b] d (VT f g j b (.slice c a e) d):=by
 obtain⟨M,m⟩:=aS (d.alloc (.cells (ak g).toArray 23))
 have u:Hid (aL M d.heap.size 23 (ak g).toArray):=m.out ▸ aL.new d _ _
 have R:Hid (Below d.heap.size d M):=m.out ▸ Below.aJ d _
 have w:=m.out
 have v:=AA<|λh (k:Below d.heap.size d h)=>KH j a n ah c e h (i.below k i.1) (p.below k) q
 obtain⟨Z,A⟩:=aS (gB j)
 have α:=AA<|λh k=>by
  have:=Ki j a n s c e h (p.below k) q;rw[A.out]at this;exact this
 have ζ:=AA<|λh (k:Below d.heap.size d h)=>i.below k i.1
 have β:=AA<|λh=>MU f r g l b c a e h
 have S:=AA l
 have N:=AA (bI g l)
 clear m i p q l n s r
 go_enter func8,ntmps8
 go_upto_region 2 with(first
  |(go_at_call 14;refine(v M R).mono ?_;rintro s T ⟨l,d,rfl,i,t,B,C⟩;replace t:=AA t;replace B:=AA B;replace C:=AA C;have D:=aQ R i;have O:=bf i u;clear i u))
 clear w v
 by_cases E:¬(d=0)
 ·obtain rfl:=B E
  have P:Hid (gB j≠0):=t.out ▸ E;obtain rfl:d=Z:=t.trans A;clear C B t A;have η:(d==0)=false:=by simpa using E
  go_wp2_with (first
  |(go_at_call 46;refine(α T D).mono ?_;rintro s Q ⟨rfl,l⟩;have U:=AA l;have F:=aQ D l;have u:=bf l O;clear l O)
  |((rw[aF 35];refine aM u N AB ?_))
  |(go_at_call 9;refine(FO f g b Q).mono ?_;rintro s V ⟨rfl,n⟩;have G:=aQ F n;have H:=bf n u;clear n u)
  |((rw[aF 43];refine aM H N AB ?_))
  |(go_at_call 47;refine(β V).mono ?_;rintro s v ⟨θ,y,rfl,w,p,i⟩;obtain⟨m,d⟩:∃m,Hid ((if y=0 then(EM (cl f) b (.slice c a e) (Uf (cl f) g) (.slice none 0 0)).toArray else uO)=m):=⟨_,AA rfl⟩;rw[d.out]at i;subst i;have q:Hid ((prog.info? 41).map (·.size)=some m.size):=(by show _=_;rw[<-d.out];split;(rw[List.size_toArray,wh (Oh _ S.out)];exact uU);(rw[ou];exact uU));have I:Hid (m.all (λW=>W.oneCell')=true):=(by show _=_;rw[<-d.out];split<;>exact zQ);replace p:=AA p;have i:=AA d.symm;have X:=AA w;have ι:=aQ G w;clear w d H)
  |(rw[bA 41 14];refine dB (show aL (v.alloc (.cells zeroCells41 41)) v.heap.size 41 uO by rw[<-zF];exact aL.new _ _ _) q (by have:=q.out;rw[uU]at this;rw[ou];exact AL this) I ?_;intro r x J;have K:=AA<|(Below.aJ v _).trans (au.aW J (AJ _) aZ);have L:=aQ X K;have z:=aQ G L;replace x:=AA x;clear J K))
  go_ret2;exact⟨_,rfl,z,.inl ⟨.inl P,rfl⟩⟩
 have Y:=Decidable.not_not.1 E
 obtain⟨κ,rfl,γ,δ,ε⟩:=C.out Y
 have P:Hid (gB j=0):=t.out ▸ Y
 obtain rfl:Z=0:=A.symm.trans P
 subst Y
 have Y:=AA γ
 have Z:=AA R.size
 have R:=AA δ
 have μ:=AA ε
 clear E t B C γ δ ε A
 generalize M.heap.size=B at*
 go_upto_region 6 with(first
  |(go_at_call 46;refine(α T D).mono ?_;rintro s Q ⟨rfl,l⟩;have U:=AA l;have F:=aQ D l;have u:=bf l O;clear l O)
  |((rw[aF 35];refine aM u N AB ?_))
  |(go_at_call 9;refine(Oa f g S b B Q (ζ Q F)).mono ?_;rintro s V ⟨C,l,rfl,n,j,t,A⟩;replace j:=AA j;replace t:=AA t;replace A:=AA A;have C:=F;have E:=aQ U n;have G:=aQ F n;have H:=bf n u;clear n u)
  |((rw[aF 43];refine aM H N AB ?_))
  |(go_at_call 47;refine(β V).mono ?_;rintro s v ⟨θ,y,rfl,w,p,i⟩;obtain⟨m,d⟩:∃m,Hid ((if y=0 then(EM (cl f) b (.slice c a e) (Uf (cl f) g) (.slice none 0 0)).toArray else uO)=m):=⟨_,AA rfl⟩;rw[d.out]at i;subst i;have q:Hid ((prog.info? 41).map (·.size)=some m.size):=(by show _=_;rw[<-d.out];split;(rw[List.size_toArray,wh (Oh _ S.out)];exact uU);(rw[ou];exact uU));have I:Hid (m.all (λW=>W.oneCell')=true):=(by show _=_;rw[<-d.out];split<;>exact zQ);replace p:=AA p;have i:=AA d.symm;have X:=AA w;have ι:=aQ G w;clear w d H)
  |(rw[bA 41 14];refine dB (show aL (v.alloc (.cells zeroCells41 41)) v.heap.size 41 uO by rw[<-zF];exact aL.new _ _ _) q (by have:=q.out;rw[uU]at this;rw[ou];exact AL this) I ?_;intro r x J;have K:=AA<|(Below.aJ v _).trans (au.aW J (AJ _) aZ);have L:=aQ X K;have z:=aQ G L;have C:=aQ E L;replace x:=AA x;clear J K))
 obtain rfl:y=l:=p.trans j.symm
 by_cases m:¬(y=0)
 ·obtain rfl:=t m
  have v:Hid (DC b≠0):=j.out ▸ m;(have η:(y==0)=false:=by simpa using m);clear j t A p i;go_wp2_with fail;go_ret2;exact⟨_,rfl,z,.inl ⟨.inr v,rfl⟩⟩
 have n:=Decidable.not_not.1 m
 obtain⟨l,rfl,E,w⟩:=A.out n
 have v:Hid (DC b=0):=j.out ▸ n
 subst n
 have d:=i.out
 rw[if_pos rfl]at d
 subst d
 obtain⟨d,n⟩:=aS (cl f)
 obtain⟨u,y⟩:=aS (Uf (cl f) g)
 rw[y.out,n.out]at w
 rw[y.out,n.out]at x q I
 clear j t A p i m
 have g:=AA (w.below L)
 have j:=AA g.ok
 have t:=AA g.blk.lt
 have A:=AA<|AZ U.size E
 have f:=q
 clear w q I E
 go_upto_region 13 with(first
  |((rw[aF 64];refine aM x f BV ?_))
  |(rw[bY 65];refine iY (o:=⟨some 65,_,_,_,_,_⟩) rfl 43 #[(0,.tmp 63),(1,.tmp 64)] rfl #[(0,.pointer (some ⟨l,0,none⟩)),(1,.agg (EM d b (.slice c a e) u (.slice none 0 0)).toArray)] (by first| rfl |(simp[Act.eval,Act.put];done)) (.agg (Ll (.pointer (some ⟨l,0,none⟩)) d b (.slice c a e) u (.slice none 0 0)).toArray) (WE (some ⟨l,0,none⟩) d b (.slice c a e) j _ _) ?_))
 obtain⟨i,m⟩:∃i,Hid (r.alloc (.cells (Ll (.pointer (some ⟨l,0,none⟩)) d b (.slice c a e) u (.slice none 0 0)).toArray 43)=i):=⟨_,AA rfl⟩
 have p:Hid (aL i r.heap.size 43 (Ll (.pointer (some ⟨l,0,none⟩)) d b (.slice c a e) u (.slice none 0 0)).toArray):=m.out ▸ aL.new _ _ _
 have f:Hid (Below r.heap.size r i):=m.out ▸ Below.aJ r _
 rw[m.out]
 have St:=AA (λh k=>qB r.heap.size l d b B (.slice c a e) u none 0 0 none 0 [] h ((g.below f).below k) (fQ.below ⟨j,p,kD.oI _ _⟩ k))
 go_wp2_with (first
  |(go_at_call 13;refine(St _ (Below.refl _ _)).mono ?_;rintro s a ⟨rfl,b⟩;have a:=AA b;have c:=AA<|(z.trans (f.mono z.size)).trans (b.mono (AZ z.size f.size));clear b St))
 go_ret2
 refine⟨_,rfl,c,.inr ⟨P,v,r.heap.size,l,B,κ,T,rfl,⟨A,t,?_⟩,⟨Y,Z,D.size,?_⟩,R,μ,?_⟩⟩
 ·have:=p.lt;have:=a.size;omega
 ·exact C.trans ((f.trans (a.mono f.size)).mono C.size)
 ·rw[n.out,<-n.out,y.out,n.out]
  exact⟨(g.below f).below a,fQ.below ⟨j,p,kD.oI _ _⟩ a⟩
theorem mH{p:Nat}{q:Value}{e f:Int}{K:Value}{g:List aj}{b c:bE}{h:List aj}{r:Option Addr}{s t:Nat}{i j:Int}{k:List aj}{l m:World}{n:Ending}{d:Int}(o:fJ e f g b c h i j k=d)(a:d≠0\/oq c b=true)(u:n=.returned (.int .i64 d))(v:av l m):Ob p q e f K g b c h r s t i j k l n m:=by
 refine⟨by rw[o];exact u,.inl ⟨?_,v⟩⟩;unfold KI;rw[o]
 rcases a with a | a
 ·rw[decide_eq_false a];rfl
 ·rw[a];simp
theorem PU{b:Nat}{l:Value}{f g:Int}{K:Value}{m:List aj}{h a:bE}{i:List aj}{c:Option Addr}{d n:Nat}{o p:Int}{q:List aj}{r j k:World}{e:Ending}(v:a.Ok)(s:fJ f g m h a i o p q=0)(w:oq a h=false)(x:e=.returned (.int .i64 0))(y:av r j)(z:kD j c d i)(A:0 < d->∀t B,c=some ⟨t,B,none⟩->¬t=b)(u:au (·=b) j k)(C:aL k b 43 (Ll l f g K a (.slice c d n)).toArray):Ob b l f g K m h a i c d n o p q r e k:=by
 refine⟨by rw[s];exact x,.inr ⟨?_,(au.of_below y).trans u (λa _ e=>e),⟨v,C,kD.pY z u A⟩⟩⟩;unfold KI;rw[s,w];rfl
theorem Ko(X:List aj)(Y:Nat)(Ā:X.length=Y)(ā:Y<=1000)(Ă:j4 X=true)(κ:Option Addr)(ρ:Nat)(ß:∀D∈X,D.length < 140737488355228)(E:Nat)(p:Value)(s least:Int)(à:s < 9223372036854775808)(a:bE)(Ã:Option Addr)(Ä Å:Nat)(ă:List aj)(h:bE)(σ:h.Ok)(μ:List aj)(j:Nat)(k:Option Addr)(w:Nat)(á:0 < j->∀Æ o,k=some ⟨Æ,o,none⟩->¬Æ=E)(e f:Int)(i:List aj)(M:Option Addr)(F c2:Nat)(â:F < 140737488355328)(c:World)(ã:gq c κ X)(τ:fQ c E p s least (.slice κ Y ρ) a Ã Ä Å ă)(ä:kD c k j μ)(å:j6 c M F i):
  Calls prog 53 #[.pointer (some ⟨E,1,none⟩),.agg (aN h (.slice k j w)).toArray,.agg (eP e f M F c2)] c (Ob E p s least (.slice κ Y ρ) X a h μ k j w e f i c):=by
 unfold eP
 obtain⟨Z,Θ⟩:∃Z,Hid ((c.alloc (.cells (aN h (.slice k j w)).toArray 39)).alloc (.cells #[Value.int .i64 e,Value.int .i64 f,Value.slice M F c2] 46)=Z):=⟨_,AA rfl⟩
 have Ñ:(c.alloc (.cells (aN h (.slice k j w)).toArray 39)).heap.size=c.heap.size+1:=by simp
 have Ξ:Hid (fC Z c.heap.size h k j w μ):=Θ.out ▸ (fC.new ä).below (Below.aJ _ _)
 have æ:Hid (aL Z (c.heap.size+1) 46 #[Value.int .i64 e,Value.int .i64 f,Value.slice M F c2]):=by
  show aL _ _ _ _;rw[<-Θ.out,<-Ñ];exact aL.new _ _ _
 have Φ:Hid (av c Z):=Θ.out ▸ (Below.aJ c _).alloc (by rw[Ñ];omega) _
 have Ą:=Θ.out
 have ω:=AA (τ.below Φ)
 have Ç:=AA<|λb (r:av c b)=>å.below r
 have ç:=AA<|λb (r:av c b)=>τ.below r
 have x:=AA σ
 have G:=AA τ.ok
 have ą:=AA á
 have è:=AA<|λb (r:av c b) (Ć:kD b k j μ)=>F6 X Y Ā ā Ă κ ρ h σ μ j k w least b Ć (ã.below r) ß
 have é:Hid ((prog.info? 39).map (·.size)=some (aN h (.slice k j w)).toArray.size):=jR σ _
 have ć:=AA (λÃ Ä Å=>qL (h:=h) Ã Ä Å)
 have Ĉ:Hid ((prog.info? 36).map (·.size)=some (aI a).length):=by show _=_;rw[bQ τ.ok];exact iT
 have α:Hid ((prog.info? 36).map (·.size)=some (aI h).length):=by show _=_;rw[bQ σ];exact iT
 have H:=AA (mK τ.ok)
 have ě:=AA (mK σ)
 have ê:=AA σ.log
 have ë:=AA τ.ok.log
 have ĉ:=AA â
 have Ċ:=AA à
 obtain⟨Ψ,È⟩:=aS ((iq X h μ least).2)
 have ì:Hid (¬Ψ=0->fJ s least X a h μ e f i=Ψ):=λA=>by unfold fJ;rw[È.out,if_pos A]
 have í:Hid (Ψ=0->fJ s least X a h μ e f i=dJ s a h e f i):=λA=>by unfold fJ;rw[È.out,if_neg (λD=>D A)]
 have î:=AA ω.keys
 have ï:=AA ω.wants
 clear Θ τ ä å σ Ñ â ã ß á à
 go_enter func53,ntmps53
 go_upto_region 1 with fail
 have aD:Hid (av Z Z.drew):=(Below.refl _ _).drew
 refine dI (λb=>av Z b) 15 ?_
 refine aH 0 aD ?_
 refine aH 1 aD ?_
 refine aH 2 aD ?_
 refine eG 3 aD (λb l=>(l.cell (p:=⟨E,3,none⟩) ω.blk.lt).trans î) ?_
 refine eO 4 rfl aD (λb l=>gM 39 (.tmp 4) rfl (c.heap.size) rfl 39 ((aN h (.slice k j w)).toArray) (0,0) _ ((show aL b c.heap.size 39 (aN h (.slice k j w)).toArray from(l.block _ Ξ.blk.lt).trans Ξ.blk)) Am rfl é) ?_
 refine aH 5 aD ?_
 refine aH 6 aD ?_
 refine aH 7 aD ?_
 refine eG 8 aD (λb l=>(l.cell (p:=⟨E,2,none⟩) ω.blk.lt).trans ï) ?_
 refine aU 9 ?_
 refine cK (R:=λÒ υ=>(∃u,Ò=.tuple #[u,.int .i64 Ψ])/\av Z υ) Bv ((è _ (Φ.trans (aD.mono Φ.size)) (Ξ.below aD).rA).mono λβ υ ⟨u,Ó,r,_⟩=>⟨_,Ó,⟨u,by rw[È.out]⟩,aD.trans (r.mono aD.size)⟩) ?_
 rintro Ĝ Ô ⟨⟨u,rfl⟩,y⟩
 replace y:=AA y
 refine aV y ?_
 refine aH 10 y ?_
 refine aH 11 y ?_
 refine aH 12 y ?_
 refine aH 13 y ?_
 refine aH 14 y ?_
 refine bT ?_
 have Õ:=aQ Φ y
 have ð:=AA (Ξ.below y)
 have ñ:=bf y æ
 have ò:=AA (ω.below y)
 clear y aD Ą Ξ æ ω î ï Φ
 by_cases É:¬(Ψ=0)
 ·go_wp2_with fail
  go_ret;exact mH (ì É) (.inl É) rfl Õ
 have ċ:=Decidable.not_not.1 É
 subst ċ
 clear É ì
 have φ:=AA (í rfl)
 clear í È è
 go_upto_region 4 with fail
 go_cut [9]from 26 to 31 (λÒ wr=>∃B,Ò=.pointer (some ⟨B,0,none⟩)/\Hid (aL wr B 36 (aI a).toArray)/\Hid (av Ô wr))
 case first=>
  have Č:=AA ò.head
  go_wp2_with (first
  |((rw[aF 30];refine bS Č Ĉ AQ ?_))
  |(rw[bA 36 9];refine dB (aL.new Ô _ _) H.size H.zero H.one ?_;intro ν č T;have Ď:=AA<|(Below.aJ Ô _).trans (au.aW T (AJ _) aZ);clear T))
  go_meet
  case rel=>exact⟨_,rfl,č,Ď⟩
 case rest=>
  obtain⟨B,rfl,m,n⟩:=hcut;obtain⟨ν,rfl⟩:=fB wc;have C:=aQ Õ n;have Ω:=AA (ð.below n);have ξ:=bf n ñ;clear n Õ ð ñ ò;(have I:=AA<|rT _ _ ê ë ν);have q:=AA Ω.head;(have U:=AA<|λg u (N:(ak h.log)[g]?=some u)=>q g u (by have:=jb (h:=h) g u N;rwa[Nat.zero_add]at this));(have V:Hid (∀g u,(ak a.log)[g]?=some u->ν.cell? ⟨B,0+g,none⟩=some u):=λg u N=>by rw[m.out.cell (0+g),List.getElem?_toArray];exact jb g u N);(have γ:Hid ((prog.info? 23).map (·.size)=some (ak h.log).length):=by show _=_;rw[aB,ê.out];exact mP);(have δ:Hid ((prog.info? 23).map (·.size)=some (ak a.log).length):=by show _=_;rw[aB,ë.out];exact mP);(have Ê:ν.cell? ⟨c.heap.size,32,none⟩=some (.int .i64 h.size):=by have:=q 32 _ (bZ x);rwa[Nat.zero_add]at this);(have ď:ν.cell? ⟨B,32,none⟩=some (.int .i64 a.size):=by rw[m.out.cell 32,List.getElem?_toArray];exact bZ G);(have Đ:ν.cell? ⟨c.heap.size,97,none⟩=some (.int .i64 h.clock):=by have:=q 97 _ (fo x);rwa[Nat.zero_add]at this);(have đ:ν.cell? ⟨B,97,none⟩=some (.int .i64 a.clock):=by rw[m.out.cell 97,List.getElem?_toArray];exact fo G);(have J:=AA<|Cj h a x G ν);by_cases t:h.log=a.log
  ·have ε:=AY t
   rw[ε]at I;by_cases W:h.size < a.size
   ·have L:Hid (dJ s a h e f i=172):=by show _=_;unfold dJ;rw[if_neg (λA=>A t),if_pos W]
    replace t:=AA t;clear ε
    go_wp2_with (first
  |((rw[aF 33];refine bS U γ AB ?_))
  |((rw[aF 35];refine bS V δ AB ?_))
  |(rw[aF 36];refine iw (I) xV ?_)
  |((rw[aF 50];refine bS q α AQ ?_))
  |((rw[aF 51];refine aM m H.size AQ ?_))
  |(rw[aF 52];refine iw (J) wV ?_))
    go_ret
    exact mH (φ.trans L) (.inl aR) rfl C
   have Ē:=eq_false W
   by_cases ζ:h.size=a.size
   ·have ó:(h.size==a.size)=true:=by simpa using ζ
    cases v:oq h a with
    | true=>
     rw[v]at J;(have L:Hid (dJ s a h e f i=0):=by show _=_;unfold dJ;rw[if_neg (λA=>A t),if_neg W,if_pos v]);have Ö:=AA v;clear t ε W v ζ
     go_wp2_with (first
  |((rw[aF 33];refine bS U γ AB ?_))
  |((rw[aF 35];refine bS V δ AB ?_))
  |(rw[aF 36];refine iw (I) xV ?_)
  |((rw[aF 50];refine bS q α AQ ?_))
  |((rw[aF 51];refine aM m H.size AQ ?_))
  |(rw[aF 52];refine iw (J) wV ?_))
     go_ret
     exact mH (φ.trans L) (.inr Ö) rfl C
    | false=>
     rw[v]at J;(have L:Hid (dJ s a h e f i=173):=by show _=_;unfold dJ;rw[if_neg (λA=>A t),if_neg W,if_neg (by rw[v];decide),if_pos (.inl ζ)]);clear t ε W v ζ
     go_wp2_with (first
  |((rw[aF 33];refine bS U γ AB ?_))
  |((rw[aF 35];refine bS V δ AB ?_))
  |(rw[aF 36];refine iw (I) xV ?_)
  |((rw[aF 50];refine bS q α AQ ?_))
  |((rw[aF 51];refine aM m H.size AQ ?_))
  |(rw[aF 52];refine iw (J) wV ?_))
     go_ret
     exact mH (φ.trans L) (.inl aR) rfl C
   have ó:(h.size==a.size)=false:=by simpa using ζ
   have v:oq h a=false:=by
    cases v:oq h a with
    | false=>rfl
    | true=>exact absurd (congrArg bE.size (Qu v)) ζ
   by_cases Ë:h.clock < a.clock
   ·have L:Hid (dJ s a h e f i=173):=by show _=_;unfold dJ;rw[if_neg (λA=>A t),if_neg W,if_neg (by rw[v];decide),if_pos (.inr Ë)]
    clear t ε W v ζ
    go_wp2_with (first
  |((rw[aF 33];refine bS U γ AB ?_))
  |((rw[aF 35];refine bS V δ AB ?_))
  |(rw[aF 36];refine iw (I) xV ?_)
  |((rw[aF 50];refine bS q α AQ ?_))
  |((rw[aF 51];refine aM m H.size AQ ?_))
  |(rw[aF 52];refine iw (J) wV ?_))
    go_ret
    exact mH (φ.trans L) (.inl aR) rfl C
   have L:Hid (dJ s a h e f i=nV s a h e f i):=by show _=_;unfold dJ;rw[if_neg (λA=>A t),if_neg W,if_neg (by rw[v];decide),if_neg (λD=>D.elim ζ Ë)]
   have ē:=eq_false Ë
   have Ö:=AA v
   have À:=AA (φ.trans L)
   clear t ε W v φ L ζ Ë
   have Ø:=AA (Ç c (Below.refl _ _)).2.1
   cases hcw:fG e f i with
   | some ĝ=>
    have ô:=AA (Gt Ø hcw)
    have Γ:Hid (∀b,av c b->Calls prog 38 #[.agg #[Value.int .i64 e,Value.int .i64 f,Value.slice M F c2]] b λβ υ=>∃χ T η,β=.returned (.slice (some χ) T η)/\av b υ):=λb r=>(su e f i M F c2 b (Ç b r)).mono (by
     rintro β υ ⟨õ,η,Æ,rfl,-,Ù,-,n,d⟩;rw[hcw]at n
     rcases n with n |⟨n,-,-⟩
     ·cases n
      cases õ with
      | none=>have y:=(Ù rfl).1;have Ğ:=ô.out;omega
      | some Ĕ=>exact⟨Ĕ,_,_,rfl,d⟩
     ·cases n)
    clear ô Ø;by_cases Δ:e=a.size
    ·by_cases Á:f=h.size
     ·have ο:Hid (nV s a h e f i=kC s a.root h.root e f i):=by show _=_;unfold nV;rw[if_neg];rintro(D | D | D);rw[hcw]at D;cases D;exact D Δ;exact D Á
      have Ú:=AA (À.trans ο);subst Δ Á;obtain⟨ö,Û⟩:=aS (kC s a.root h.root a.size h.size i);rw[Û.out]at Ú
      have ĕ:Hid (∀b,av c b->bq 118 #[.int .i64 s,.agg (ak a.root).toArray,.agg (ak h.root).toArray,.agg #[Value.int .i64 a.size,Value.int .i64 h.size,Value.slice M F c2]] b (.int .i64 ö)):=λb r=>by
       have:=IC s a.root h.root G.root x.root a.size h.size i M F c2 ĉ b Ċ (Ç b r);rw[Û.out]at this;exact this
      (have Ė:Hid ((prog.info? 23).map (·.size)=some (ak a.root).length):=by show _=_;rw[aB,G.out.root];exact mP);(have ė:Hid ((prog.info? 23).map (·.size)=some (ak h.root).length):=by show _=_;rw[aB,x.out.root];exact mP);clear hcw ο À Û
      go_upto_region 17 with(first
  |((rw[aF 33];refine bS U γ AB ?_))
  |((rw[aF 35];refine bS V δ AB ?_))
  |(rw[aF 36];refine iw (I) xV ?_)
  |((rw[aF 50];refine bS q α AQ ?_))
  |((rw[aF 51];refine aM m H.size AQ ?_))
  |(rw[aF 52];refine iw (J) wV ?_)
  |((rw[aF 59];refine aM ξ xN BD ?_))
  |(go_at_call 38;refine(Γ _ C).mono ?_;rintro β θ ⟨χ,T,η,rfl,d⟩;have Ì:=λψ=>Lib.run_eql_slice_nil (P:=prog) ψ 27 5 (some χ) T η 0 0 AR;have O:=aQ C d;have Q:=AA (Ω.below d);have z:=bf d ξ;have ι:=bf d m;have Í:=z.cell 0;have Î:=z.cell 1;have Ï:=(by have:=Q.head 32 _ (bZ x);rwa[Nat.zero_add]at this);have Ð:θ.cell? ⟨B,32,none⟩=some (.int .i64 a.size):=(by rw[ι.out.cell 32,List.getElem?_toArray];exact bZ G);clear d Ê q))
      have ø:=AA Q.head
      have ù:=AA<|λg u N=>by have:=ø (33+g) u (gL x g u N);rwa[Nat.zero_add]at this
      have ú:Hid (∀g u,(ak a.root)[g]?=some u->θ.cell? ⟨B,33+g,none⟩=some u):=λg u N=>by rw[ι.out.cell (33+g),List.getElem?_toArray];exact gL G g u N
      have û:=AA ι.lt
      have ü:=AA Q.blk.lt
      clear Ï Ð Ì ø Γ Ē ó ē ď Đ đ I U V J Í Î
      refine cB (aA θ) (aA.jD ((Below.refl _ _).drew)) ?_
      iterate 3 refine aG ?_
      refine bC (λb l=>fQ.width (ç b (O.trans (l.below.mono O.size)))) ?_
      refine aG ?_
      refine dh B (33) (ak a.root) (λb l=>(λg u N=>(l.below.cell (p:=⟨B,33+g,none⟩) û).trans (ú g u N))) Ė AB ?_
      iterate 2 refine aG ?_
      refine dh c.heap.size (33) (ak h.root) (λb l=>(λg u N=>(l.below.cell (p:=⟨c.heap.size,33+g,none⟩) ü).trans (ù g u N))) ė AB ?_
      refine gu (λb l=>(show aL b (c.heap.size+1) 46 #[Value.int .i64 a.size,Value.int .i64 h.size,Value.slice M F c2]from(l.below.block _ z.lt).trans z)) xN BD ?_
      refine cZ func118 (λb l=>((ĕ b (O.trans (l.below.mono O.size))).mono λβ υ ⟨Ó,r⟩=>⟨Ó,l.next r⟩)) ?_
      refine aG ?_
      refine bR ?_
      intro Â ý
      have Ü:=AA ý.below
      have Ý:=aQ O Ü
      have þ:=AA (Q.below Ü)
      clear ý Ü ú ù û ü z Q
      by_cases Þ:ö=0
      ·subst Þ
       go_wp2_with (first
  |((rw[aF 91];refine aM þ.blk é Am ?_))
  |(rw[iE 39 93];have ÿ:=AA<|(ç Â Ý).blk;have Ę:=AA (VO (p:=p) (s:=s) (least:=least) (K:=.slice κ Y ρ) G x (.slice Ã Ä Å) (.slice k j w));refine dO (o:=⟨none,_,_,_,_,_⟩) rfl 39 (.tmp 93) (.tmp 91) rfl E 4 (aN h (.slice k j w)).toArray rfl rfl 43 _ ÿ (jR x _) (by rw[List.size_toArray,List.size_toArray,dY x.out,Pg G.out];decide) (ć _ _ _) ?_;rw[Ę.out];have ę:Hid (aL (Â.setRow E (Ll p s least (.slice κ Y ρ) h (.slice k j w)).toArray) E 43 (Ll p s least (.slice κ Y ρ) h (.slice k j w)).toArray):=setRow_heap _ _ _ _ _ _ ÿ;have Ě:Hid (au (·=E) Â (Â.setRow E (Ll p s least (.slice κ Y ρ) h (.slice k j w)).toArray)):=au.setRow (S:=(·=E)) (au.refl _ Â) rfl _))
       go_ret
       exact PU x Ú Ö rfl Ý þ.rA ą Ě ę
      ·have ğ:=Þ
       go_wp2_with fail;go_ret;exact mH Ú (.inl Þ) rfl Ý
     ·have ο:Hid (nV s a h e f i=170):=by show _=_;unfold nV;rw[if_pos (.inr (.inr Á))]
      (have Ġ:(f==h.size)=false:=by simpa using Á);subst Δ;clear hcw Á
      go_wp2_with (first
  |((rw[aF 33];refine bS U γ AB ?_))
  |((rw[aF 35];refine bS V δ AB ?_))
  |(rw[aF 36];refine iw (I) xV ?_)
  |((rw[aF 50];refine bS q α AQ ?_))
  |((rw[aF 51];refine aM m H.size AQ ?_))
  |(rw[aF 52];refine iw (J) wV ?_)
  |((rw[aF 59];refine aM ξ xN BD ?_))
  |(go_at_call 38;refine(Γ _ C).mono ?_;rintro β θ ⟨χ,T,η,rfl,d⟩;have Ì:=λψ=>Lib.run_eql_slice_nil (P:=prog) ψ 27 5 (some χ) T η 0 0 AR;have O:=aQ C d;have Q:=AA (Ω.below d);have z:=bf d ξ;have ι:=bf d m;have Í:=z.cell 0;have Î:=z.cell 1;have Ï:=(by have:=Q.head 32 _ (bZ x);rwa[Nat.zero_add]at this);have Ð:θ.cell? ⟨B,32,none⟩=some (.int .i64 a.size):=(by rw[ι.out.cell 32,List.getElem?_toArray];exact bZ G);clear d Ê q))
      go_ret
      exact mH (À.trans ο) (.inl aR) rfl O
    ·have ο:Hid (nV s a h e f i=170):=by show _=_;unfold nV;rw[if_pos (.inr (.inl Δ))]
     (have ġ:(e==a.size)=false:=by simpa using Δ);clear hcw Δ
     go_wp2_with (first
  |((rw[aF 33];refine bS U γ AB ?_))
  |((rw[aF 35];refine bS V δ AB ?_))
  |(rw[aF 36];refine iw (I) xV ?_)
  |((rw[aF 50];refine bS q α AQ ?_))
  |((rw[aF 51];refine aM m H.size AQ ?_))
  |(rw[aF 52];refine iw (J) wV ?_)
  |((rw[aF 59];refine aM ξ xN BD ?_))
  |(go_at_call 38;refine(Γ _ C).mono ?_;rintro β θ ⟨χ,T,η,rfl,d⟩;have Ì:=λψ=>Lib.run_eql_slice_nil (P:=prog) ψ 27 5 (some χ) T η 0 0 AR;have O:=aQ C d;have Q:=AA (Ω.below d);have z:=bf d ξ;have ι:=bf d m;have Í:=z.cell 0;have Î:=z.cell 1;have Ï:=(by have:=Q.head 32 _ (bZ x);rwa[Nat.zero_add]at this);have Ð:θ.cell? ⟨B,32,none⟩=some (.int .i64 a.size):=(by rw[ι.out.cell 32,List.getElem?_toArray];exact bZ G);clear d Ê q))
     go_ret
     exact mH (À.trans ο) (.inl aR) rfl O
   | none=>
    have Γ:Hid (∀b,av c b->bq 38 #[.agg #[Value.int .i64 e,Value.int .i64 f,Value.slice M F c2]] b (.slice none 0 0)):=λb r=>(su e f i M F c2 b (Ç b r)).mono (by
     rintro β υ ⟨õ,η,Æ,rfl,-,Ù,-,n,d⟩;rw[hcw]at n
     rcases n with n |⟨-,rfl,rfl⟩
     ·cases n
     ·exact⟨by rw[(Ù rfl).2];rfl,d⟩)
    (have ο:Hid (nV s a h e f i=170):=by show _=_;unfold nV;rw[if_pos (.inl hcw)]);clear hcw Ø
    go_wp2_with (first
  |((rw[aF 33];refine bS U γ AB ?_))
  |((rw[aF 35];refine bS V δ AB ?_))
  |(rw[aF 36];refine iw (I) xV ?_)
  |((rw[aF 50];refine bS q α AQ ?_))
  |((rw[aF 51];refine aM m H.size AQ ?_))
  |(rw[aF 52];refine iw (J) wV ?_)
  |((rw[aF 59];refine aM ξ xN BD ?_))
  |(go_at_call 38;refine(Γ _ C).mono ?_;rintro β θ ⟨rfl,d⟩;have Ì:=λψ=>Lib.run_eql_slice_nil (P:=prog) ψ 27 5 none 0 0 0 0 AR;have O:=aQ C d;have Q:=AA (Ω.below d);have z:=bf d ξ;have ι:=bf d m;have Í:=z.cell 0;have Î:=z.cell 1;have Ï:=(by have:=Q.head 32 _ (bZ x);rwa[Nat.zero_add]at this);have Ð:θ.cell? ⟨B,32,none⟩=some (.int .i64 a.size):=(by rw[ι.out.cell 32,List.getElem?_toArray];exact bZ G);clear d Ê q))
    go_ret
    exact mH (À.trans ο) (.inl aR) rfl O
  ·have ε:=AP t
   rw[ε]at I;(have L:Hid (dJ s a h e f i=173):=by show _=_;unfold dJ;rw[if_pos t]);clear t ε
   go_wp2_with (first
  |((rw[aF 33];refine bS U γ AB ?_))
  |((rw[aF 35];refine bS V δ AB ?_))
  |(rw[aF 36];refine iw (I) xV ?_)
  |((rw[aF 50];refine bS q α AQ ?_))
  |((rw[aF 51];refine aM m H.size AQ ?_))
  |(rw[aF 52];refine iw (J) wV ?_))
   go_ret
   exact mH (φ.trans L) (.inl aR) rfl C
structure gy where
 kind:Int
 other:Bool
 h:bE
 A:Option Addr
 m:Nat
 c:Nat
 rs:List aj
 x:Int
 y:Int
 A2:Option Addr
 n2:Nat
 c2:Nat
 ds:List aj
 Ae:Option Addr
 ke:Nat
 ce:Nat
 ev:aj
 x1:Int
 x2:Int
 A3:Option Addr
 n3:Nat
 c3:Nat
 ds3:List aj
 QY:ByteArray
 f:Bool
 cnt:Int
 ch:aj
 d:aj
 A4:Option Addr
 n4:Nat
 c4:Nat
 Wp:List aj
def gy.idx(D:gy):List Value:=dH D.QY D.f (dW D.cnt D.ch) D.d D.A4 D.n4 D.c4
def dF(D:gy):List Value:=[.int .i64 D.kind,.bool D.other]++(aN D.h (.slice D.A D.m D.c)++([.int .i64 D.x,.int .i64 D.y,.slice D.A2 D.n2 D.c2]++([.slice D.Ae D.ke D.ce]++([.int .i64 D.x1,.int .i64 D.x2,.slice D.A3 D.n3 D.c3]++D.idx))))
structure nZ(w:World)(D:gy):Prop where
 ok:D.h.Ok
 rA:kD w D.A D.m D.rs
 WR:D.A=none->D.m=0/\D.c=0
 Xh:D.m<=D.c
 UY:j6 w D.A2 D.n2 D.ds
 cap2:D.n2<=D.c2
 Yi:D.ev.length=D.ke
 Xp:ax w 1 D.Ae D.ke (ak D.ev)
 VK:D.ke<=D.ce
 U8:D.Ae=none->D.ke=0/\D.ce=0
 Vn:D.ke < 140737488355328
 Xr:j6 w D.A3 D.n3 D.ds3
 Xi:D.n3<=D.c3
 VI:D.ch.length=32
 dl:D.d.length=32
 Yh:D.QY.size < 140737488355327
 Xq:j6 w D.A4 D.n4 D.Wp
 cap4:D.n4<=D.c4
theorem nZ.below{w w':World}{D:gy}(k:nZ w D)(a:av w w'):nZ w' D:={k with rA:=k.rA.below a,UY:=k.UY.below a,Xp:=k.Xp.below a,Xr:=k.Xr.below a,Xq:=k.Xq.below a}
structure uy(D:gy):Prop where
 m:D.m<=40
 n2:D.n2<=100
 n3:D.n3<=100
 n4:D.n4<=300
section
variable {w w':World} {p:Nat} {D:gy}
theorem qz(a:D.h.Ok)(b:D.ch.length=32)(hd:D.d.length=32):(dF D).length=176:=by
 have c:D.idx.length=68:=qd (dV b) hd;unfold dF;simp only[List.length_append,List.length_cons,List.length_nil,dY a,c]
theorem Mg(a:Nat)(u:Value)(b:(aN D.h (.slice D.A D.m D.c))[a]?=some u):(dF D)[2+a]?=some u:=by
 unfold dF;have c:=(AU.1 b).1;rw[List.getElem?_append_right aZ,List.length_cons,List.length_cons,List.length_nil,show 2+a - (0+1+1)=a by omega,List.getElem?_append_left c];exact b
theorem Mf(a:D.h.Ok)(b:Nat):(dF D)[101+b]?=([.int .i64 D.x,.int .i64 D.y,.slice D.A2 D.n2 D.c2]++([.slice D.Ae D.ke D.ce]++([.int .i64 D.x1,.int .i64 D.x2,.slice D.A3 D.n3 D.c3]++D.idx)))[b]?:=by
 unfold dF;rw[List.getElem?_append_right (by simp;omega),List.getElem?_append_right (by simp[dY a];omega),dY a];congr 1;simp;omega
structure dR(w:World)(p:Nat)(D:gy):Prop where
 blk:aL w p 54 (dF D).toArray
 ok:D.h.Ok
theorem dR.below(k:dR w p D)(a:av w w'):dR w' p D:=⟨(a.block _ k.blk.lt).trans k.blk,k.ok⟩
theorem dR.kept{S:Nat->Prop}(a:dR w p D)(b:au S w w')(c:¬S p):dR w' p D:=⟨a.blk.kept b c,a.ok⟩
theorem dR.kind(a:dR w p D):w.cell? ⟨p,0,none⟩=some (.int .i64 D.kind):=by rw[a.blk.cell 0];rfl
theorem dR.other(a:dR w p D):w.cell? ⟨p,1,none⟩=some (.bool D.other):=by rw[a.blk.cell 1];rfl
theorem dR.note(b:dR w p D)(a:Nat)(u:Value)(c:(aN D.h (.slice D.A D.m D.c))[a]?=some u):w.cell? ⟨p,2+a,none⟩=some u:=by
 rw[b.blk.cell (2+a),List.getElem?_toArray];exact Mg a u c
theorem dR.head(a:dR w p D)(j:Nat)(u:Value)(b:(aI D.h)[j]?=some u):w.cell? ⟨p,2+j,none⟩=some u:=by
 refine a.note j u ?_;have:=lN (h:=D.h) (.slice D.A D.m D.c) j u b;rwa[Nat.zero_add]at this
theorem dR.row(a:dR w p D):w.cell? ⟨p,100,none⟩=some (.slice D.A D.m D.c):=a.note 98 _ (mJ a.ok _)
theorem dR.rest(b:dR w p D)(a:Nat):w.cell? ⟨p,101+a,none⟩=([.int .i64 D.x,.int .i64 D.y,.slice D.A2 D.n2 D.c2]++([.slice D.Ae D.ke D.ce]++([.int .i64 D.x1,.int .i64 D.x2,.slice D.A3 D.n3 D.c3]++D.idx)))[a]?:=by
 rw[b.blk.cell (101+a),List.getElem?_toArray];exact Mf b.ok a
theorem dR.cx(a:dR w p D):w.cell? ⟨p,101,none⟩=some (.int .i64 D.x):=a.rest 0
theorem dR.cy(a:dR w p D):w.cell? ⟨p,102,none⟩=some (.int .i64 D.y):=a.rest 1
theorem dR.VE(a:dR w p D):w.cell? ⟨p,103,none⟩=some (.slice D.A2 D.n2 D.c2):=a.rest 2
theorem dR.cons(c:dR w p D)(a:Nat)(u:Value)(b:[Value.int .i64 D.x,.int .i64 D.y,.slice D.A2 D.n2 D.c2][a]?=some u):w.cell? ⟨p,101+a,none⟩=some u:=by
 rw[c.rest a,List.getElem?_append_left (List.getElem?_eq_some_iff.1 b).1];exact b
theorem dR.event(a:dR w p D):w.cell? ⟨p,104,none⟩=some (.slice D.Ae D.ke D.ce):=a.rest 3
theorem dR.Xa(d:dR w p D)(a:Nat)(u:Value)(b:[Value.int .i64 D.x1,.int .i64 D.x2,.slice D.A3 D.n3 D.c3][a]?=some u):w.cell? ⟨p,105+a,none⟩=some u:=by
 have c:=d.rest (4+a);rw[<-Nat.add_assoc]at c;rw[c,List.getElem?_append_right (by simp;omega),List.getElem?_append_right (by simp;omega),List.getElem?_append_left (by have:=(List.getElem?_eq_some_iff.1 b).1;simp at this ⊢;omega)];rw[<-b];congr 1;simp;omega
theorem dR.Yt(a:dR w p D):w.cell? ⟨p,107,none⟩=some (.slice D.A3 D.n3 D.c3):=a.Xa 2 _ rfl
theorem dR.idx(c:dR w p D)(a:Nat)(u:Value)(d:D.idx[a]?=some u):w.cell? ⟨p,108+a,none⟩=some u:=by
 have b:=c.rest (7+a);rw[<-Nat.add_assoc]at b;rw[b,List.getElem?_append_right (by simp;omega),List.getElem?_append_right (by simp;omega),List.getElem?_append_right (by simp;omega)];rw[<-d];congr 1;simp;omega
end
theorem WB:(prog.info? 48).map (·.size)=some 3:=by kernel_rfl
theorem M4(o m:Nat)(h p:Int)(F:h < 9223372036854775808)(y:Nat)(K:Value)(i:bE)(z:Option Addr)(q A:Nat)(B:Option Addr)(C:Nat)(r:List aj)(a:gy)(Q:a.kind≠1)(f:World)(u:bn f)(R:ru f o m h p y K i z q A B C r)(e:nZ f a)(hF:uy a):
  bq 12 #[.pointer (some ⟨o,0,none⟩),.agg (dF a).toArray] f (.bool true):=by
 obtain⟨v,D⟩:=aS (f.alloc (.cells (dF a).toArray 54))
 have S:Hid (dR v f.heap.size a):=⟨by rw[<-D.out];exact aL.new f _ _,e.ok⟩
 have g:Hid (av f v):=D.out ▸ Below.aJ f _
 have ε:=D.out
 have s:=AA<|λb (c:av v b)=>S.below c
 have j:=AA<|λb (c:av f b)=>R.below c
 have St:=AA (λb c=>qB o m h p y K i z q A B C r b (j b c).Eg (j b c).JE)
 have G:=AA<|λb (c:av f b)=>Jy m h p y i z q A r a.ev a.ke e.Yi e.Vn a.Ae a.ce e.VK e.U8 a.x1 a.x2 a.ds3 a.A3 a.n3 a.c3 (aC hF.n3) b (u.below c u.1) (j b c).Eg (e.Xp.below c) (e.Xr.below c)
 have H:=AA<|λb (c:av f b)=>IE o (.pointer (some ⟨m,0,none⟩)) h p F K i B q C r a.ev a.ke e.Yi e.Vn a.Ae a.ce e.VK e.U8 a.x1 a.x2 a.ds3 a.A3 a.n3 a.c3 (aC hF.n3) b (j b c).JE (e.Xp.below c) (e.Xr.below c)
 have I:Hid (∀b,av f b->bq 57 #[.pointer (some ⟨m,0,none⟩),.agg a.idx.toArray] b (.int .i64 (kN h i.index a.QY a.f a.cnt a.ch a.d a.n4 a.Wp))):=λb c=>LA m h p y i z q A r a.QY e.Yh a.f a.cnt a.ch a.d e.VI e.dl a.A4 a.n4 a.c4 a.Wp b (u.below c u.1) (j b c).Eg (e.Xq.below c)
 have J:Hid (∀b,av f b->bq 58 #[.pointer (some ⟨o,1,none⟩),.agg a.idx.toArray] b (.int .i64 (kN h i.index a.QY a.f a.cnt a.ch a.d a.n4 a.Wp))):=λb c=>Kr o (.pointer (some ⟨m,0,none⟩)) h p K i B q C r a.QY e.Yh a.f a.cnt a.ch a.d e.VI e.dl a.A4 a.n4 a.c4 a.Wp b F (j b c).JE (e.Xq.below c)
 have T:Hid ((prog.info? 48).map (·.size)=some [Value.int .i64 a.x1,.int .i64 a.x2,.slice a.A3 a.n3 a.c3].length):=WB
 have U:Hid ((prog.info? 52).map (·.size)=some a.idx.length):=by show _=_;unfold gy.idx;rw[qd (dV e.VI) e.dl];exact Ey
 obtain⟨V,W⟩:=aS (Tq h i a.ev a.x1 a.x2 a.ds3)
 obtain⟨X,Y⟩:=aS (kN h i.index a.QY a.f a.cnt a.ch a.d a.n4 a.Wp)
 rw[W.out]at G H
 rw[Y.out]at I J
 have β:(a.kind==1)=false:=by simpa using Q
 have γ:=S.kind
 have L:(V !=V)=false:=by simp
 have M:(X !=X)=false:=by simp
 obtain⟨E,Z⟩:=aS (a.kind)
 rw[Z.out]at β γ
 clear D u R e hF W Y Q F Z
 by_cases N:E=2
 ·subst N
  (go_enter func12,ntmps12);go_upto_region 15 with fail;clear I J;replace L:=AA L;refine cB (aA v) (aA.jD ((Below.refl _ _).drew)) ?_;(iterate 3 refine aG ?_);refine bC (λb d=>fQ.Eg (j b (g.trans (d.below.mono g.size))).JE) ?_;refine aG ?_;refine bC (λb d=>dR.event (s b d.below)) ?_;refine aG ?_;refine dh f.heap.size (105) ([Value.int .i64 a.x1,.int .i64 a.x2,.slice a.A3 a.n3 a.c3]) (λb d=>dR.Xa (s b d.below)) T Bz ?_;refine cZ func20 (λb d=>((G b (g.trans (d.below.mono g.size))).mono λt O ⟨n,c⟩=>⟨n,d.next c⟩)) ?_;(iterate 4 refine aG ?_);refine bC (λb d=>dR.event (s b d.below)) ?_;refine aG ?_;refine dh f.heap.size (105) ([Value.int .i64 a.x1,.int .i64 a.x2,.slice a.A3 a.n3 a.c3]) (λb d=>dR.Xa (s b d.below)) T Bz ?_;refine cZ func56 (λb d=>((H b (g.trans (d.below.mono g.size))).mono λt O ⟨n,c⟩=>⟨n,d.next c⟩)) ?_;refine bC (λb d=>L) ?_;refine bR ?_;intro δ w;(have k:=AA<|g.trans (w.below.mono g.size));clear w
  go_wp2_with (first
  |(go_at_call 13;refine(St _ k).mono ?_;rintro t α ⟨rfl,l⟩;have x:=aQ k l;clear l St))
  go_ret;exact⟨rfl,x⟩
 have ζ:(E==2)=false:=by simpa using N
 clear N
 by_cases P:E=3
 ·subst P
  (go_enter func12,ntmps12);go_upto_region 18 with fail;clear G H;replace M:=AA M;refine cB (aA v) (aA.jD ((Below.refl _ _).drew)) ?_;(iterate 3 refine aG ?_);refine bC (λb d=>fQ.Eg (j b (g.trans (d.below.mono g.size))).JE) ?_;refine aG ?_;refine dh f.heap.size (108) (a.idx) (λb d=>dR.idx (s b d.below)) U Au ?_;refine cZ func57 (λb d=>((I b (g.trans (d.below.mono g.size))).mono λt O ⟨n,c⟩=>⟨n,d.next c⟩)) ?_;(iterate 4 refine aG ?_);refine dh f.heap.size (108) (a.idx) (λb d=>dR.idx (s b d.below)) U Au ?_;refine cZ func58 (λb d=>((J b (g.trans (d.below.mono g.size))).mono λt O ⟨n,c⟩=>⟨n,d.next c⟩)) ?_;refine bC (λb d=>M) ?_;refine bR ?_;intro δ w;(have k:=AA<|g.trans (w.below.mono g.size));clear w
  go_wp2_with (first
  |(go_at_call 13;refine(St _ k).mono ?_;rintro t α ⟨rfl,l⟩;have x:=aQ k l;clear l St))
  go_ret;exact⟨rfl,x⟩
 have η:(E==3)=false:=by simpa using P
 clear P
 have k:=g
 go_enter func12,ntmps12
 go_wp2_with (first
  |(go_at_call 13;refine(St _ k).mono ?_;rintro t α ⟨rfl,l⟩;have x:=aQ k l;clear l St))
 go_ret
 exact⟨rfl,x⟩
def iJ:aj:=dw++List.replicate 32 0
def Qn:aj:=List.replicate 32 0++dw
theorem D8:iJ.length=64:=rfl
theorem D9:Qn.length=64:=rfl
theorem OC(a:World):(Instr.build 57 #[(0,.agg (ak dw).toArray)]).run prog a=.ok (.agg (ak iJ).toArray) a:=run_build a _ _ _ bH
theorem UH(a:World):(Instr.build 57 #[(1,.agg (ak dw).toArray)]).run prog a=.ok (.agg (ak Qn).toArray) a:=run_build a _ _ _ bH
theorem MZ{a:Nat}{d e:Int}{R:Nat}{f:List aj}{g h:bE}{i:List aj}{j k:Int}{l:List aj}{b c:World}(m:zA a d e R f g h i j k l b c):au (·=a) b c:=by
 rcases m with⟨-,a⟩ |⟨-,b,-⟩
 ·exact au.of_below a
 ·exact b
theorem MX{a:Nat}{d:Value}{e f:Int}{K:Value}{g:List aj}{h i:bE}{j:List aj}{k:Option Addr}{l m:Nat}{n o:Int}{p:List aj}{b c:World}(q:wP a d e f K g h i j k l m n o p b c):au (·=a) b c:=by
 rcases q with⟨-,a⟩ |⟨-,b,-⟩
 ·exact au.of_below a
 ·exact b
theorem Gf{b:Nat}{c:Value}{d e:Int}{K:Value}{f:List aj}{g h:bE}{i:List aj}{j:Option Addr}{k l:Nat}{m n:Int}{o:List aj}{a p:World}(q:wP b c d e K f g h i j k l m n o a.drew p):wP b c d e K f g h i j k l m n o a p:=by
 rcases q with⟨b,c⟩ |⟨b,d,e⟩
 ·exact .inl ⟨b,(Below.refl _ a).drew.trans c⟩
 ·exact .inr ⟨b,(au.refl _ a).drew.trans d (λf _ c=>c),e⟩
theorem Mk:(prog.info? 46).map (·.size)=some 3:=by kernel_rfl
structure Yf(T:TypeId)(Z cs:Array Value):Prop where
 size:(prog.info? T).map (·.size)=some cs.size
 zero:Z.size=cs.size
 one:cs.all (λv=>v.oneCell')=true
theorem X3(a b:Int)(c:Option Addr)(d e:Nat):Yf 46 #[Value.int .i64 0,Value.int .i64 0,Value.slice none 0 0] #[Value.int .i64 a,Value.int .i64 b,Value.slice c d e]:=⟨Mk,rfl,by simp;exact⟨rfl,rfl,rfl⟩⟩
theorem Wo{a:bE}(e:a.Ok)(b:Option Addr)(c d:Nat):Yf 39 Dm (aN a (.slice b c d)).toArray:=⟨jR e _,yw.trans (show 99=(aN a (.slice b c d)).length from(dY e _).symm),qL b c d⟩
def Ub(g a:Nat)(s least:Int)(R:Nat)(K:Value)(H:bE)(A:Option Addr)(n c:Nat)(A':Option Addr)(c':Nat)(ss:List aj)(D:gy)(w w':World):Prop:=
 au (λi=>i=a\/i=g) w w'/\(ru w' g a s least R K H A n c A' c' ss\/∃A7 c7,ru w' g a s least R K D.h A7 D.m c7 D.A D.c D.rs/\∀b,A7=some b->w.heap.size<=b.block)
theorem RV{e k h v:World}{i:List aj}{b c:Nat}{f g:Int}{R:Nat}{K:Value}{d:bE}{l:Option Addr}{m n:Nat}{o:Option Addr}{p:Nat}{q:List aj}{a:gy}(w:ru e b c f g R K d l m n o p q)(x:av e k)(z:c≠b)(A:a.rs.length=a.m)(B:zA c f g R i d a.h a.rs a.x a.y a.ds k h)(y:wP b (.pointer (some ⟨c,0,none⟩)) f g K i d a.h a.rs a.A a.m a.c a.x a.y a.ds h v):
  ∃r e h i s t u,ru v b c f g R K r e h i s t u/\((r=d/\e=l/\h=m/\i=n/\s=o/\t=p/\u=q)\/(r=a.h/\h=a.m/\s=a.A/\t=a.c/\u=a.rs/\∀j,e=some j->k.heap.size<=j.block)):=by
 rcases B with⟨f,r⟩ |⟨f,c,e,h,i,g,k⟩
 ·rcases y with⟨-,h⟩ |⟨c,-⟩
  ·exact⟨d,l,m,n,o,p,q,((w.below x).below r).below h,.inl ⟨rfl,rfl,rfl,rfl,rfl,rfl,rfl⟩⟩
  ·rw[f]at c;cases c
 ·rcases y with⟨c,-⟩ |⟨-,d,h⟩
  ·rw[f]at c;cases c
  ·have c:=g.rA.len.symm.trans A
   subst c;have c:=Ad w.JE.blk.lt x.size;exact⟨a.h,e,a.m,i,a.A,a.c,a.rs,⟨g.kept d z (λj f c=>by have:=k _ c;dsimp only at this;show ¬j=b;omega),h⟩,.inr ⟨rfl,rfl,rfl,rfl,rfl,k⟩⟩
theorem M0(E:List aj)(B:Nat)(Y:E.length=B)(δ:B<=1000)(ζ:j4 E=true)(F:Option Addr)(H:Nat)(η:∀f∈E,f.length < 140737488355228)(s:List KD)(ι:(s.map (·.q)).Perm E)(ο:bN jF s)(ρ:s.length<=64)(σ:∀x∈s,lT x.q.length=true)(p r:Nat)(τ:r≠p)(y z:Int)(υ:y < 9223372036854775808)(R:Nat)(J:bE)(A:Option Addr)(n c:Nat)(W:Option Addr)(α:Nat)(X:List aj)(a:gy)(t:a.kind=1)(hF:uy a)(h:World)(N:World->Prop)(K:∀(S:Nat->Prop) (d Q:World),N d->au S d Q->(∀e,S e->e=r\/e=p\/h.heap.size<=e)->N Q)(g:∀b,N b->bn b/\gq b F E/\gZ b R s/\nZ b a)(L:N h)(v:ru h p r y z R (.slice F B H) J A n c W α X)(φ:0 < n->∀j o,A=some ⟨j,o,none⟩->j≠p)(χ:0 < n->∀j o,W=some ⟨j,o,none⟩->j≠r)(O:0 < a.m->∀j o,a.A=some ⟨j,o,none⟩->j≠p):
  Calls prog 12 #[.pointer (some ⟨p,0,none⟩),.agg (dF a).toArray] h λd b=>d=.returned (.bool true)/\Ub p r y z R (.slice F B H) J A n c W α X a h b:=by
 obtain⟨C,w⟩:=aS (h.alloc (.cells (dF a).toArray 54))
 have i:=(g h L).2.2.2
 have M:Hid (dR C h.heap.size a):=⟨by rw[<-w.out];exact aL.new h _ _,i.ok⟩
 have Z:Hid (av h C):=w.out ▸ Below.aJ h _
 have Æ:=w.out
 have f:=AA M.blk.lt
 have I:Hid (r < h.heap.size/\p < h.heap.size):=⟨v.Eg.blk.lt,v.JE.blk.lt⟩
 have U:=AA<|λb (l:av h b)=>K (λ_=>False) h b L (au.of_below l) (λ_ κ=>κ.elim)
 have V:=AA<|λb (l:av h b)=>v.below l
 have D:=AA i.ok
 have f:=AA v.Eg.ok
 have θ:=AA hF.m
 have G:=AA hF.n2
 have ψ:=AA (λb (l:av h b)=>ME a.rs a.m (aC θ) a.A a.c iJ D8 b (g b (U b l)).2.2.2.rA)
 have ω:=AA (λb (l:av h b)=>MF a.ds a.n2 (aC G) a.A2 a.c2 dw nQ b (g b (U b l)).2.2.2.UY)
 have β:=AA Es
 have Γ:=AA (λb f (m:N b) (u:pX b f (a.rs++List.replicate 80 iJ))=>KS a.rs a.m (aC θ) f a.A a.c iJ D8 b (g b m).2.2.2.rA u)
 have Δ:=AA (λb q (m:N b) (u:tK b q (a.ds++List.replicate 80 dw))=>KT a.ds a.n2 (aC G) q a.A2 a.c2 dw nQ b (g b m).2.2.2.UY u)
 have Θ:=AA i.rA.all
 have γ:=AA i.rA.len
 have ε:=AA i.UY.2.1
 have P:=AA i.UY.1
 have Ξ:=AA (λb f (u:pX b f (a.rs++List.replicate 80 iJ))=>(by
  have:=(pX.rd u (nI.append_ Θ (nI.P6 80 D8))).oo a.m (by simp[γ.out])
  rwa[List.take_append_of_le_length (γ.out ▸ Nat.le_refl _),List.take_of_length_le (γ.out ▸ Nat.le_refl _)]at this:kD b (some ⟨f,0,none⟩) a.m a.rs))
 have Φ:=AA (λb q (u:tK b q (a.ds++List.replicate 80 dw))=>(by
  have:=(u.rd (ε.append_ (jk.P6 80 nQ))).oo a.n2 (by simp[P.out])
  rwa[List.take_append_of_le_length (P.out ▸ Nat.le_refl _),List.take_of_length_le (P.out ▸ Nat.le_refl _)]at this:j6 b (some ⟨q,0,none⟩) a.n2 a.ds))
 have Ψ:=AA<|λf q b (l:av h b) (P:pX b f (a.rs++List.replicate 80 iJ)) (ε:tK b q (a.ds++List.replicate 80 dw))=>yI E s ι ο ρ σ r y z R J A n c X a.h D a.rs a.m (some ⟨f,0,none⟩) (a.m+80) (λd=>by cases d) a.x a.y a.ds (some ⟨q,0,none⟩) a.n2 (a.n2+80) (aC G) b (g b (U b l)).1 (g b (U b l)).2.2.1 (V b l).Eg (Ξ b f P) (Φ b q ε)
 have Ω:=AA<|λb (m:N b) (l:fQ b p (.pointer (some ⟨r,0,none⟩)) y z (.slice F B H) J W n α X)=>Ko E B Y δ ζ F H η p (.pointer (some ⟨r,0,none⟩)) y z υ J W n α X a.h D a.rs a.m a.A a.c (λh0 j o d=>O h0 j o d) a.x a.y a.ds a.A2 a.n2 a.c2 (aC G) b (g b m).2.1 l (g b m).2.2.2.rA (g b m).2.2.2.UY
 have μ:=AA K
 have À:=AA g
 have Ç:=AA φ
 have ν:=AA χ
 have È:=AA O
 have ξ:=AA τ
 obtain⟨ε,Á⟩:=aS (fJ y z E J a.h a.rs a.x a.y a.ds)
 have É:Hid ((prog.info? 36).map (·.size)=some (aI a.h).length):=by show _=_;rw[bQ D.out];exact iT
 have Ê:Hid ((prog.info? 39).map (·.size)=some (aN a.h (.slice a.A a.m a.c)).length):=by show _=_;have:=jR D (.slice a.A a.m a.c);rw[List.size_toArray]at this;exact this
 have Ë:Hid ((prog.info? 46).map (·.size)=some [Value.int .i64 a.x,.int .i64 a.y,.slice a.A2 a.n2 a.c2].length):=Mk
 have Â:=AA (λ(f:Nat)=>sU (A:=some ⟨f,0,none⟩) (n:=a.m+80) (c:=a.m+80) (k:=a.m) ah (a.m:Int) rfl)
 have Ã:=AA (λ(q:Nat)=>vY (A:=some ⟨q,0,none⟩) (n:=a.n2+80) (c:=a.n2+80) (k:=a.n2) ah (a.n2:Int) rfl)
 have Ä:=AA (λf b=>J9 D (some ⟨f,0,none⟩) a.m (a.m+80) b)
 have Å:=M.kind
 rw[t]at Å
 clear w v hF t υ i Y δ ζ η ι ο ρ σ K g L φ χ O τ
 go_enter func12,ntmps12
 go_upto_region 3 with fail
 have aD:Hid (av C C.drew):=(Below.refl _ _).drew
 refine dI (λb=>av C b) 7 ?_
 refine aH 0 aD ?_
 refine aH 1 aD ?_
 refine eG 2 aD (λb i=>dR.row (M.below i)) ?_
 refine aU 3 ?_
 refine cK (R:=λm g=>m=.agg (ak dw).toArray/\av C g) Bg ((β _).mono λd g ⟨v,l⟩=>⟨_,v,rfl,aD.trans (l.mono aD.size)⟩) ?_
 rintro K Q ⟨rfl,s⟩
 replace s:=AA s
 refine aV s ?_
 refine eO 4 rfl s (λb i=>fe 57 #[(0,.tmp 18)] rfl #[(0,.agg (ak dw).toArray)] (by first| rfl |(simp[Act.eval];done)) _ (OC b)) ?_
 refine aU 5 ?_
 refine cK (R:=λm g=>∃w,m=.slice (some ⟨w,0,none⟩) (a.m+80) (a.m+80)/\h.heap.size<=w/\pX g w (a.rs++List.replicate 80 iJ)/\av C g) func50 ((ψ Q (Z.trans (s.mono Z.size))).mono λd g ⟨w,v,δ,u,t⟩=>⟨_,v,w,rfl,AZ (AZ Z.size s.size) δ,u,s.trans (t.mono s.size)⟩) ?_
 rintro K G ⟨f,rfl,L,Y,O⟩
 replace L:=AA L
 replace Y:=AA Y
 replace O:=AA O
 refine aV O ?_
 refine aH 6 O ?_
 refine bT ?_
 have P:=aQ Z O
 have Z:=AA (M.below O)
 clear O s aD ψ M Å Æ
 go_upto_region 4 with fail
 have aD:Hid (av G G.drew):=(Below.refl _ _).drew
 refine dI (λb=>av G b) 6 ?_
 refine aH 0 aD ?_
 refine aH 1 aD ?_
 refine eG 2 aD (λb i=>dR.VE (Z.below i)) ?_
 refine aU 3 ?_
 refine cK (R:=λm g=>m=.agg (ak dw).toArray/\av G g) Bg ((β _).mono λd g ⟨v,l⟩=>⟨_,v,rfl,aD.trans (l.mono aD.size)⟩) ?_
 rintro K M ⟨rfl,C⟩
 replace C:=AA C
 refine aV C ?_
 refine aU 4 ?_
 refine cK (R:=λm g=>∃w,m=.slice (some ⟨w,0,none⟩) (a.n2+80) (a.n2+80)/\G.heap.size<=w/\tK g w (a.ds++List.replicate 80 dw)/\av G g) func52 ((ω M (P.trans (C.mono P.size))).mono λd g ⟨w,v,δ,u,t⟩=>⟨_,v,w,rfl,AZ C.size δ,u,C.trans (t.mono C.size)⟩) ?_
 rintro K w ⟨q,rfl,G,ζ,u⟩
 replace G:=AA G
 replace ζ:=AA ζ
 replace u:=AA u
 refine aV u ?_
 refine aH 5 u ?_
 refine bT ?_
 have ι:=aQ P u
 have η:=AA (Z.below u)
 have υ:=AA (pX.below Y u)
 have φ:=AA<|AZ P.size G
 clear u C aD ω Z Y P G
 go_upto_region 5 with fail
 have C:=AA (Wo D (some ⟨f,0,none⟩) a.m (a.m+80))
 go_cut [7]from 26 to 36 (λm wr=>∃G:Nat,m=.pointer (some ⟨G,0,none⟩)/\Hid (aL wr G 39 (aN a.h (.slice (some ⟨f,0,none⟩) a.m (a.m+80))).toArray)/\Hid (av w wr)/\Hid (w.heap.size<=G))
 case first=>
  have aD:Hid (av w w.drew):=(Below.refl _ _).drew;refine dI (λb=>av w b) 12 ?_;refine aH 0 aD ?_;refine aH 1 aD ?_;refine eO 2 rfl aD (λb i=>ku 36 (.tmp 27) rfl (h.heap.size) (2) rfl (aI a.h) _ ((η.below i).head) AQ rfl É) ?_;refine aH 3 aD ?_;refine aH 4 aD ?_;refine aH 5 aD ?_;refine eG 6 aD (λb i=>dR.row (η.below i)) ?_;refine aH 7 aD ?_;refine eG 8 aD (λb i=>Â f b) ?_;refine eO 9 rfl aD (λb i=>fe 39 #[(0,.tmp 28),(1,.tmp 34)] rfl #[(0,.agg (aI a.h).toArray),(1,.slice (some ⟨f,0,none⟩) a.m (a.m+80))] (by first| rfl |(simp[Act.eval];done)) _ (Ä f b)) ?_;refine aU 10 ?_;have u:=AA (aD.alloc aD.size (.cells Dm 39));have ο:Hid (aL (w.drew.alloc (.cells Dm 39)) w.heap.size 39 Dm):=aL.new _ _ _;refine aV u ?_;refine aU 11 ?_;refine fM (ο) C.size C.zero C.one ?_;intro Å ρ w;(have Z:=AA<|u.trans (au.aW w (aD.size) u.size));refine aV Z ?_;refine bT ?_;go_wp2_with fail;go_meet
  case rel=>exact⟨_,rfl,ρ,Z,AJ _⟩
 case rest=>
  obtain⟨nq,rfl,σ,M,P⟩:=hcut;(have χ:=AA<|AZ ι.size P);obtain⟨P,rfl⟩:=fB wc;replace M:=M;have τ:=aQ ι M;have δ:=AA (η.below M);have ψ:=AA (pX.below υ M);have ω:=AA (tK.below ζ M);clear M ι η υ ζ;go_upto_region 6 with fail;have C:=AA (X3 a.x a.y (some ⟨q,0,none⟩) a.n2 (a.n2+80))
  go_cut [8]from 36 to 49 (λm wr=>∃G:Nat,m=.pointer (some ⟨G,0,none⟩)/\Hid (aL wr G 46 #[Value.int .i64 a.x,Value.int .i64 a.y,Value.slice (some ⟨q,0,none⟩) a.n2 (a.n2+80)])/\Hid (av P wr)/\Hid (P.heap.size<=G))
  case first=>
   have aD:Hid (av P P.drew):=(Below.refl _ _).drew;refine dI (λb=>av P b) 15 ?_;refine aH 0 aD ?_;refine aH 1 aD ?_;refine eG 2 aD (λb i=>dR.cx (δ.below i)) ?_;refine aH 3 aD ?_;refine aH 4 aD ?_;refine eG 5 aD (λb i=>dR.cy (δ.below i)) ?_;refine aH 6 aD ?_;refine aH 7 aD ?_;refine aH 8 aD ?_;refine eG 9 aD (λb i=>dR.VE (δ.below i)) ?_;refine aH 10 aD ?_;refine eG 11 aD (λb i=>Ã q b) ?_;refine aH 12 aD ?_;refine aU 13 ?_;have u:=AA (aD.alloc aD.size (.cells #[Value.int .i64 0,Value.int .i64 0,Value.slice none 0 0] 46));have ο:Hid (aL (P.drew.alloc (.cells #[Value.int .i64 0,Value.int .i64 0,Value.slice none 0 0] 46)) P.heap.size 46 #[Value.int .i64 0,Value.int .i64 0,Value.slice none 0 0]):=aL.new _ _ _;refine aV u ?_;refine aU 14 ?_;refine fM (ο) C.size C.zero C.one ?_;intro Å ρ w;(have Z:=AA<|u.trans (au.aW w (aD.size) u.size));refine aV Z ?_;refine bT ?_;go_wp2_with fail;go_meet
   case rel=>exact⟨_,rfl,ρ,Z,AJ _⟩
  case rest=>
   obtain⟨G,rfl,ι,u,C⟩:=hcut;(have ο:=AA<|AZ τ.size C);obtain⟨C,rfl⟩:=fB wc;have P:=aQ τ u;have ρ:=AA (δ.below u);have ζ:=AA (pX.below ψ u);have η:=AA (tK.below ω u);have υ:Hid (aL C nq 39 (aN a.h (.slice (some ⟨f,0,none⟩) a.m (a.m+80))).toArray):=(u.block _ σ.lt).trans σ;clear u τ δ ψ ω σ;have σ:=AA (Wo D (some ⟨f,0,none⟩) a.m (a.m+80));go_upto_region 7 with fail;have aD:Hid (au (·=r) C C.drew):=(au.refl _ C).drew;refine dI (λb=>au (·=r) C b) 8 ?_;refine aH 0 aD ?_;refine aH 1 aD ?_;refine aH 2 aD ?_;refine eG 3 aD (λb i=>fQ.Eg (fQ.kept (V C P).JE i (λd=>ξ d.symm) (λh0 j o d=>ν h0 j o d))) ?_;refine eO 4 rfl aD (λb i=>gM 39 (.tmp 7) rfl (nq) rfl 39 ((aN a.h (.slice (some ⟨f,0,none⟩) a.m (a.m+80))).toArray) (0,0) _ ((show aL b nq 39 (aN a.h (.slice (some ⟨f,0,none⟩) a.m (a.m+80))).toArray from aL.kept υ i (by have D:=I.1;have s:=χ.out;omega))) Am rfl σ.size) ?_;refine eO 5 rfl aD (λb i=>gM 46 (.tmp 8) rfl (G) rfl 46 (#[Value.int .i64 a.x,Value.int .i64 a.y,Value.slice (some ⟨q,0,none⟩) a.n2 (a.n2+80)]) (0,0) _ ((show aL b G 46 #[Value.int .i64 a.x,Value.int .i64 a.y,Value.slice (some ⟨q,0,none⟩) a.n2 (a.n2+80)]from aL.kept ι i (by have D:=I.1;have s:=ο.out;omega))) BD rfl Mk) ?_;refine aU 6 ?_;refine cK (R:=λm g=>m=.int .i64 ε/\zA r y z R E J a.h a.rs a.x a.y a.ds C.drew g) func17 ((Ψ f q C.drew (P.drew) (pX.below ζ (Below.refl _ _).drew) (tK.below η (Below.refl _ _).drew)).mono λd g Z=>⟨_,Z.1,by rw[Á.out],Z.2⟩) ?_;rintro K u ⟨rfl,δ⟩;replace δ:=AA δ;(have M:=AA<|aD.trans (MZ δ) (λe _ d=>d));refine aV M ?_;refine aH 7 M ?_;refine bT ?_;(have É:=AA<|aL.lt ζ);(have τ:=AA<|μ _ C u (U C P) M (λe d=>.inl d));have ψ:=AA (ρ.kept M (aC I.1));have ω:Hid (pX u f (a.rs++List.replicate 80 iJ)):=aL.kept ζ M (by have D:=I.1;have s:=L.out;omega);have Å:Hid (tK u q (a.ds++List.replicate 80 dw)):=aL.kept η M (by have D:=I.1;have s:=φ.out;omega);have Æ:=AA (fQ.kept (V C P).JE M (λd=>ξ d.symm) (λh0 j o d=>ν h0 j o d));(have G:Hid (∀b,au (·=p) u b->N b/\dR b h.heap.size a/\pX b f (a.rs++List.replicate 80 iJ)/\tK b q (a.ds++List.replicate 80 dw)):=λb t=>⟨μ _ u b τ t (λe d=>.inr (.inl d)),ψ.kept t (aC I.2),aL.kept ω t (by have D:=I.2;have s:=L.out;omega),aL.kept Å t (by have D:=I.2;have s:=φ.out;omega)⟩);clear aD ι υ σ η ζ ρ Â Ã Ä χ ο Ψ;(have N:(ε !=ε)=false:=by simp);replace N:=AA N;go_upto_region 8 with fail;have aD:Hid (au (·=p) u u.drew):=(au.refl _ u).drew;refine dI (λb=>au (·=p) u b) 29 ?_;refine aH 0 aD ?_;refine aH 1 aD ?_;refine aH 2 aD ?_;refine aH 3 aD ?_;refine aH 4 aD ?_;refine eO 5 rfl aD (λb i=>ku 39 (.tmp 60) rfl (h.heap.size) (2) rfl (aN a.h (.slice a.A a.m a.c)) _ ((G b i).2.1.note) Am rfl Ê) ?_;refine aH 6 aD ?_;refine eO 7 rfl aD (λb i=>ku 46 (.tmp 62) rfl (h.heap.size) (101) rfl ([Value.int .i64 a.x,.int .i64 a.y,.slice a.A2 a.n2 a.c2]) _ ((G b i).2.1.cons) BD rfl Ë) ?_;refine aU 8 ?_;refine cK (R:=λm g=>m=.int .i64 ε/\wP p (.pointer (some ⟨r,0,none⟩)) y z (.slice F B H) E J a.h a.rs a.A a.m a.c a.x a.y a.ds u g/\au (·=p) u g) func53 ((Ω u.drew (G _ aD).1 (Æ.below (Below.refl _ _).drew)).mono λd g Z=>⟨_,Z.1,by rw[Á.out],Gf Z.2,aD.trans (MX Z.2) (λe _ d=>d)⟩) ?_;rintro K Z ⟨rfl,ι,w⟩;replace ι:=AA ι;replace w:=AA w;refine aV w ?_;refine eG 9 w (λb i=>N) ?_;refine aH 10 w ?_;refine aH 11 w ?_;refine aH 12 w ?_;refine aH 13 w ?_;refine eG 14 w (λb i=>dR.row (G b i).2.1) ?_;refine aU 15 ?_;refine cK (R:=λm g=>m=.agg (ak dw).toArray/\au (·=p) u g/\av Z g) Bg ((β _).mono λd g ⟨v,l⟩=>⟨_,v,rfl,w.trans (au.of_below l) (λe _ d=>d),l⟩) ?_;rintro K E ⟨rfl,N,ε⟩;replace N:=AA N;replace ε:=AA ε;refine aV N ?_;refine eO 16 rfl N (λb i=>fe 57 #[(0,.tmp 71)] rfl #[(0,.agg (ak dw).toArray)] (by first| rfl |(simp[Act.eval];done)) _ (OC b)) ?_;refine aU 17 ?_;refine cK (R:=λm g=>m=.bool true/\au (·=p) u g/\av Z g) func54 ((Γ _ f (G _ N).1 (G _ N).2.2.1).mono λd g ⟨v,l⟩=>⟨_,v,rfl,N.trans (au.of_below l) (λe _ d=>d),ε.trans (l.mono ε.size)⟩) ?_;rintro K η ⟨rfl,E,ζ⟩;replace E:=AA E;replace ζ:=AA ζ;refine aV E ?_;refine aH 18 E ?_;refine aH 19 E ?_;refine aH 20 E ?_;refine aH 21 E ?_;refine aH 22 E ?_;refine aH 23 E ?_;refine eG 24 E (λb i=>dR.VE (G b i).2.1) ?_;refine aU 25 ?_;refine cK (R:=λm g=>m=.agg (ak dw).toArray/\au (·=p) u g/\av Z g) Bg ((β _).mono λd g ⟨v,l⟩=>⟨_,v,rfl,E.trans (au.of_below l) (λe _ d=>d),ζ.trans (l.mono ζ.size)⟩) ?_;rintro K b ⟨rfl,i,η⟩;replace i:=AA i;replace η:=AA η;refine aV i ?_;refine aU 26 ?_;refine cK (R:=λm g=>m=.bool true/\au (·=p) u g/\av Z g) func55 ((Δ _ q (G _ i).1 (G _ i).2.2.2).mono λd g ⟨v,l⟩=>⟨_,v,rfl,i.trans (au.of_below l) (λe _ d=>d),η.trans (l.mono η.size)⟩) ?_;rintro K q ⟨rfl,b,v⟩;replace b:=AA b;replace v:=AA v;refine aV b ?_;refine aH 27 b ?_;refine aH 28 b ?_;refine bT ?_;clear N ε E ζ i η aD;obtain⟨N,g,u,i,E,ε,ζ,ο,K⟩:=RV (V h (Below.refl _ _)) P.drew ξ γ δ ι;have η:=AA (ο.below v)
   have ρ:Hid (0 < u->∀j o,g=some ⟨j,o,none⟩->¬j=f):=λh0 j o d=>by
    rcases K with⟨-,σ,l,-⟩ |⟨-,-,-,-,-,ξ⟩
    ·subst σ l
     have D:=EC (V h (Below.refl _ _)).Eg.rA h0 j o d;have s:=L.out;omega
    ·have D:=ξ _ d
     have s:=É.out;have O:C.heap.size<=j:=D;omega
   have O:Hid (0 < u->∀j o,E=some ⟨j,o,none⟩->¬j=f):=λh0 j o d=>by
    have s:=L.out
    rcases K with⟨-,-,l,-,C,-⟩ |⟨-,l,C,-⟩
    ·subst l C
     have D:=EC (V h (Below.refl _ _)).JE.rA h0 j o d;omega
    ·subst l C
     have D:=EC (À h (U h (Below.refl _ _))).2.2.2.rA h0 j o d;omega
   have σ:Hid (∀wr,au (·=f) q wr->ru wr p r y z R (.slice F B H) N g u i E ε ζ):=λwr t=>⟨gN.pY η.Eg t (by have D:=I.1;have s:=L.out;omega) ρ,fQ.kept η.JE t (by have D:=I.2;have s:=L.out;omega) O⟩
   have I:Hid (∀wr,ru wr p r y z R (.slice F B H) N g u i E ε ζ->ru wr p r y z R (.slice F B H) J A n c W α X\/∃g i,ru wr p r y z R (.slice F B H) a.h g a.m i a.A a.c a.rs/\∀j,g=some j->h.heap.size<=j.block):=λwr t=>by
    rcases K with⟨rfl,rfl,rfl,rfl,rfl,rfl,rfl⟩ |⟨rfl,rfl,rfl,rfl,rfl,ξ⟩
    ·exact .inl t
    ·exact .inr ⟨g,i,t,λj d=>AZ P.size (ξ j d)⟩
   have J:Hid (au (λe=>e=r\/e=p) h q):=((au.of_below P).trans M (λe _ d=>.inl d)).trans b (λe _ d=>.inr d);have s:=AA (G q b).2.2.1;(have j:Hid ((a.rs++List.replicate 80 iJ).length=a.m+80):=by show _=_;simp[γ.out]);(have l:=AA<|nI.append_ Θ (nI.P6 80 D8));have C:=AA (Xc (x:=Qn) D9);clear ο η K ρ O v ι δ w b G Æ Å ω ψ τ M Γ Δ Ω Ξ Φ V U μ À Ç ν È P;generalize a.rs++List.replicate 80 iJ=t at*;go_wp2_with fail
   go_loopw [10] (λm wr=>∃(e:Nat) (b:List aj),m=.int .i64 (e:Int)/\Hid (e<=a.m+80)/\Hid (pX wr f b)/\Hid (b.length=a.m+80)/\Hid (nI b)/\Hid (au (·=f) q wr)) (λm _=>a.m+80 - (intOf m).toNat)
   case atStart=>exact⟨0,t,rfl,AX _,s,j,l,au.refl _ _⟩
   case round=>
    clear s j l;obtain⟨e,b,rfl,G,v,j,l,s⟩:=hrel;obtain⟨m,t⟩:=aS (a.m+80);(have w:Hid (m<=120):=by show _<=_;have:=θ.out;rw[<-t.out];omega);by_cases m:e < a.m+80
    ·have K:(e:Int) < (a.m:Int)+80:=ah
     have t:(0:Int)<=(e:Int):=ah;have t:=AO ((e:Int)+1) (aC θ);have w:=AA m
     have M:Hid (((b.flatMap ak).toArray.toList.take (e*64)++(ak Qn).toArray.toList++(b.flatMap ak).toArray.toList.drop (e*64+(ak Qn).toArray.size)).toArray=((b.set e Qn).flatMap ak).toArray):=by
      show _=_;rw[List.toList_toArray,List.toList_toArray,List.size_toArray,aB,D9,vH _ l.out e (j.out ▸ m)]
     have O:Hid (e*64+(ak Qn).toArray.size<=(b.flatMap ak).toArray.size):=by
      show _<=_;rw[List.size_toArray,List.size_toArray,aB,D9,kV _ l.out,j.out];omega
     clear m
     go_wp2_with (first
  |(go_at_call 51;refine(β wr).mono ?_;rintro d Q ⟨rfl,t⟩;have D:=AA<|pX.below v t;have P:=AA<|s.trans (au.of_below t) (λe _ d=>d);clear t v)
  |(rw[bY 94];refine iY (o:=⟨some 94,_,_,_,_,_⟩) rfl 57 #[(1,.tmp 93)] rfl #[(1,.agg (ak dw).toArray)] (by first| rfl |(simp[Act.eval];done)) (.agg (ak Qn).toArray) (UH _) ?_)
  |(rw[iE 57 95];refine dO (o:=⟨none,_,_,_,_,_⟩) rfl 57 (.tmp 95) (.tmp 94) rfl f (e*64) (ak Qn).toArray rfl rfl 57 _ D C.size O C.one ?_;rw[M.out];have Y:Hid (pX (Q.setRow f ((b.set e Qn).flatMap ak).toArray) f (b.set e Qn)):=setRow_heap _ _ _ _ _ _ D;have t:Hid (au (·=f) q (Q.setRow f ((b.set e Qn).flatMap ak).toArray)):=au.setRow (S:=(·=f)) P rfl _))
     go_roundw
     case rel=>exact⟨e+1,b.set e Qn,by go_num,w,Y,by show _=_;rw[List.length_set];exact j,nI.lD l e D9,t⟩
     case measure=>(have:=w.out;simp[intOf];omega)
    ·have K:(a.m:Int)+80<=(e:Int):=ah
     have b:=AA (σ wr s)
     have j:Hid (au (λe=>e=r\/e=p) h wr):=by
      refine(J.trans (T:=λe=>h.heap.size<=e/\e=f) (s.mono (λe _ d=>⟨by rw[d];exact L,d⟩)) (λe G κ=>?_));have:=κ.1;omega
     have St:=AA (qB p r y z R (.slice F B H) N g u i E ε ζ wr b.Eg b.JE);clear m
     go_wp2_with (first
  |(go_at_call 13;refine St.mono ?_;rintro d Z ⟨rfl,a⟩;replace a:=AA a))
     go_ret
     exact⟨rfl,j.trans (au.of_below a) (λe _ d=>d),I _ (b.below a)⟩
def vT(T:Nat->Prop)(A:Option Addr)(n:Nat):Prop:=0 < n->∀b o,A=some ⟨b,o,none⟩->¬T b
def qi(T:Nat->Prop)(w:World)(g a:Nat)(s least:Int)(R:Nat)(K:Value):Prop:=∃H A n c A' c' ss,ru w g a s least R K H A n c A' c' ss/\vT T A n/\vT T A' n
theorem qi.kept{T S:Nat->Prop}{w d:World}{b c:Nat}{a e:Int}{R:Nat}{K:Value}(j:qi T w b c a e R K)(f:au S w d)(g:∀h,S h->T h)(k:¬S c)(l:¬S b):qi T d b c a e R K:=by
 obtain⟨m,n,o,p,q,r,s,e,h,i⟩:=j;exact⟨m,n,o,p,q,r,s,⟨gN.pY e.Eg f k (λh0 b c d a=>h h0 b c d (g _ a)),fQ.kept e.JE f l (λh0 b c d a=>i h0 b c d (g _ a))⟩,h,i⟩
theorem qi.below{T:Nat->Prop}{w a:World}{b c:Nat}{s d:Int}{R:Nat}{K:Value}(k:qi T w b c s d R K)(e:av w a):qi T a b c s d R K:=by
 obtain⟨a,b,c,d,f,g,h,i,j,l⟩:=k;exact⟨a,b,c,d,f,g,h,i.below e,j,l⟩
theorem Ns{d:Nat->Prop}{b e:World}{c:Nat}(a:au d b e)(g:∀f,d f->c<=f)(h:c<=b.heap.size):Below c b e:=⟨a.os,a.tape,a.output,a.size,λb c=>a.block b ah (λc=>by have:=g _ c;omega)⟩
theorem EL{e:Nat->Prop}{c f g:World}{h i:Nat}{j:List KD}(b:mV c h i j)(k:av c f)(d:au e f g)(l:∀a,e a->a < h\/c.heap.size<=a):gZ g i j:=by
 have e:=(au.of_below k).trans d (λa _ c=>c);have f:=e.mono (λa g c=>by rcases l a c with b | b;exact b;omega);exact(b.kept f (λa d=>d)).at_
theorem GR(i:List aj)(j:Nat)(I:i.length=j)(J:j<=1000)(K:j4 i=true)(m:Option Addr)(q:Nat)(L:∀h∈i,h.length < 140737488355228)(k:List KD)(M:(k.map (·.q)).Perm i)(N:bN jF k)(O:k.length<=64)(P:∀u∈k,lT u.q.length=true)(f g:Nat)(Q:g≠f)(n r:Int)(E:n < 9223372036854775808)(o:Nat)(a:gy)(hF:uy a)(l:Nat->Prop)(R:l g)(F:l f)(c:World)(S:∀d,l d->d < c.heap.size)(p:World->Prop)(T:∀(b:Nat->Prop) (s t:World),p s->au b s t->(∀d,b d->d=g\/d=f\/c.heap.size<=d)->p t)(z:∀e,p e->bn e/\gq e m i/\gZ e o k/\nZ e a)(A:p c)(G:vT l a.A a.m)(H:qi l c f g n r o (.slice m j q)):
  Calls prog 12 #[.pointer (some ⟨f,0,none⟩),.agg (dF a).toArray] c λb e=>b=.returned (.bool true)/\au (λd=>d=g\/d=f) c e/\qi l e f g n r o (.slice m j q):=by
 obtain⟨s,t,u,v,w,x,y,B,C,D⟩:=H
 by_cases H:a.kind=1
 ·refine(M0 i j I J K m q L k M N O P f g Q n r E o s t u v w x y a H hF c p T z A B (λh0 d l b h=>C h0 d l b (by rw[h];exact F)) (λh0 d l b h=>D h0 d l b (by rw[h];exact R)) (λh0 d l b h=>G h0 d l b (by rw[h];exact F))).mono ?_
  rintro b e ⟨i,h,p⟩;refine⟨i,h,?_⟩
  rcases p with k |⟨F,I,k,h⟩
  ·exact⟨s,t,u,v,w,x,y,k,C,D⟩
  ·refine⟨a.h,F,a.m,I,a.A,a.c,a.rs,k,λ_ d l b p=>?_,G⟩
   have:=h _ b;have:=S _ p
   dsimp only at*
   omega
 ·refine(M4 f g n r E o (.slice m j q) s t u v w x y a H c (z c A).1 B (z c A).2.2.2 hF).mono ?_
  rintro b e ⟨i,h⟩;exact⟨i,au.of_below h,s,t,u,v,w,x,y,B.below h,C,D⟩
theorem yN{P:Program}(d:World)(e b:Nat)(g f:TypeId)(c:Array Value)(a:Value)(j:a.cells=#[a])(k:aL d e g c)(h:(P.info? f).map (·.size)=some 1)(l:b+1<=c.size)(m:a.oneCell'=true):
  (storeVar f ⟨e,b,none⟩ a).run P d=.ok () (d.setRow e (c.toList.take b++[a]++c.toList.drop (b+1)).toArray):=by
 have:=run_storeCells_at P e b g [a] 0 c d k (by simpa using l) (λu i=>by simp only[List.mem_singleton]at i;rw[i];exact m)
 cases hq:P.info? f with
 | none=>simp[hq]at h
 | some a=>
  (have hs:a.size=1:=by simpa[hq]using h);simp[storeVar,sizeOf,typeInfo,hq,j,hs];simpa using this
theorem kJ{P:Program}{h:Array Oper}{rest:List Oper}{o:Oper}{d:Act}{e:World}{i:Exit->Act->World->Prop}(k:o.guard=none)(g:TypeId)(c j:Operand)(l:o.op=.store g c j)
  (f b:Nat)(a:Value)(hx:d.eval c=.pointer (some ⟨f,b,none⟩))(m:d.eval j=a)(n:a.cells=#[a])
  (j:TypeId)(c:Array Value)(p:aL e f j c)(q:(P.info? g).map (·.size)=some 1)(r:b+1<=c.size)(s:a.oneCell'=true)
  (t:wpList P h i rest (d.put o.dst undef) (e.setRow f (c.toList.take b++[a]++c.toList.drop (b+1)).toArray)):wpList P h i (o :: rest) d e:=by
 refine wpList_plain k λK d=>?_
 have h:=yN (P:=P) e f b j g c a n p q r s
 unfold Oper.wp execOp
 simp only[l,hx,m,Instr.storeAt,Instr.sureAddr,Sem.run_bind,Sem.run_pure,Result.andThen_ok,h]
 exact d _ _ t
theorem Ec{a b:List Value}{u d:Value}{c:Nat}(e:a.length=c):(a++[u]++b).take c++[d]++(a++[u]++b).drop (c+1)=a++[d]++b:=by
 (have d:(a++[u]++b).take c=a:=by rw[List.append_assoc];exact List.take_left' e);have f:(a++[u]++b).drop (c+1)=b:=List.drop_left' (by rw[List.length_append,e];rfl);rw[d,f]
def yo(D:gy)(m:Nat):gy:={D with m:=m,rs:=D.rs.take m}
def DK(D:gy)(n:Nat):gy:={D with n2:=n,ds:=D.ds.take n}
def Jl(D:gy)(n:Nat):gy:={D with n3:=n,ds3:=D.ds3.take n}
def QG(D:gy)(n:Nat):gy:={D with n4:=n,Wp:=D.Wp.take n}
theorem Ev(D:gy)(b:D.h.Ok)(a:Nat):((dF D).toArray.toList.take 100++[Value.slice D.A a D.c]++(dF D).toArray.toList.drop (100+1)).toArray=(dF (yo D a)).toArray:=by
 have c:∀a,dF (yo D a)=([.int .i64 D.kind,.bool D.other]++aI D.h)++[Value.slice D.A a D.c]++([.int .i64 D.x,.int .i64 D.y,.slice D.A2 D.n2 D.c2]++([.slice D.Ae D.ke D.ce]++([.int .i64 D.x1,.int .i64 D.x2,.slice D.A3 D.n3 D.c3]++D.idx))):=λa=>by
  simp[dF,yo,aN,gy.idx]
 have a:dF D=([.int .i64 D.kind,.bool D.other]++aI D.h)++[Value.slice D.A D.m D.c]++([.int .i64 D.x,.int .i64 D.y,.slice D.A2 D.n2 D.c2]++([.slice D.Ae D.ke D.ce]++([.int .i64 D.x1,.int .i64 D.x2,.slice D.A3 D.n3 D.c3]++D.idx))):=by
  simp[dF,aN]
 rw[List.toList_toArray,c,a,Ec (by rw[List.length_append,bQ b];rfl)]
theorem Eu(D:gy)(b:D.h.Ok)(a:Nat):((dF D).toArray.toList.take 103++[Value.slice D.A2 a D.c2]++(dF D).toArray.toList.drop (103+1)).toArray=(dF (DK D a)).toArray:=by
 have c:∀a,dF (DK D a)=([.int .i64 D.kind,.bool D.other]++(aN D.h (.slice D.A D.m D.c)++[.int .i64 D.x,.int .i64 D.y]))++[Value.slice D.A2 a D.c2]++([.slice D.Ae D.ke D.ce]++([.int .i64 D.x1,.int .i64 D.x2,.slice D.A3 D.n3 D.c3]++D.idx)):=λa=>by
  simp[dF,DK,gy.idx]
 have a:dF D=([.int .i64 D.kind,.bool D.other]++(aN D.h (.slice D.A D.m D.c)++[.int .i64 D.x,.int .i64 D.y]))++[Value.slice D.A2 D.n2 D.c2]++([.slice D.Ae D.ke D.ce]++([.int .i64 D.x1,.int .i64 D.x2,.slice D.A3 D.n3 D.c3]++D.idx)):=by
  simp[dF]
 rw[List.toList_toArray,c,a,Ec (by rw[List.length_append,List.length_append,dY b];rfl)]
theorem XD(D:gy)(b:D.h.Ok)(a:Nat):((dF D).toArray.toList.take 107++[Value.slice D.A3 a D.c3]++(dF D).toArray.toList.drop (107+1)).toArray=(dF (Jl D a)).toArray:=by
 have c:∀a,dF (Jl D a)=([.int .i64 D.kind,.bool D.other]++(aN D.h (.slice D.A D.m D.c)++([.int .i64 D.x,.int .i64 D.y,.slice D.A2 D.n2 D.c2]++([.slice D.Ae D.ke D.ce]++[.int .i64 D.x1,.int .i64 D.x2]))))++[Value.slice D.A3 a D.c3]++D.idx:=λa=>by
  simp[dF,Jl,gy.idx]
 have a:dF D=([.int .i64 D.kind,.bool D.other]++(aN D.h (.slice D.A D.m D.c)++([.int .i64 D.x,.int .i64 D.y,.slice D.A2 D.n2 D.c2]++([.slice D.Ae D.ke D.ce]++[.int .i64 D.x1,.int .i64 D.x2]))))++[Value.slice D.A3 D.n3 D.c3]++D.idx:=by
  simp[dF]
 rw[List.toList_toArray,c,a,Ec (by simp only[List.length_append,dY b,List.length_cons,List.length_nil])]
theorem XC(D:gy)(b:D.h.Ok)(c:D.ch.length=32)(hd:D.d.length=32)(a:Nat):((dF D).toArray.toList.take 175++[Value.slice D.A4 a D.c4]++(dF D).toArray.toList.drop (175+1)).toArray=(dF (QG D a)).toArray:=by
 have d:∀a,dF (QG D a)=([.int .i64 D.kind,.bool D.other]++(aN D.h (.slice D.A D.m D.c)++([.int .i64 D.x,.int .i64 D.y,.slice D.A2 D.n2 D.c2]++([.slice D.Ae D.ke D.ce]++([.int .i64 D.x1,.int .i64 D.x2,.slice D.A3 D.n3 D.c3]++([.string D.QY,.bool D.f]++dW D.cnt D.ch++ak D.d))))))++[Value.slice D.A4 a D.c4]++[]:=λa=>by
  simp[dF,QG,gy.idx,dH]
 have a:dF D=([.int .i64 D.kind,.bool D.other]++(aN D.h (.slice D.A D.m D.c)++([.int .i64 D.x,.int .i64 D.y,.slice D.A2 D.n2 D.c2]++([.slice D.Ae D.ke D.ce]++([.int .i64 D.x1,.int .i64 D.x2,.slice D.A3 D.n3 D.c3]++([.string D.QY,.bool D.f]++dW D.cnt D.ch++ak D.d))))))++[Value.slice D.A4 D.n4 D.c4]++[]:=by
  simp[dF,gy.idx,dH]
 rw[List.toList_toArray,d,a,Ec (by simp only[List.length_append,dY b,dV c,aB,hd,List.length_cons,List.length_nil])]
def sH(D:gy):gy:=QG (Jl (DK (yo D (min D.m 40)) (min D.n2 100)) (min D.n3 100)) (min D.n4 300)
theorem TF(D:gy):uy (sH D):=⟨Nat.min_le_right ..,Nat.min_le_right ..,Nat.min_le_right ..,Nat.min_le_right ..⟩
theorem Ed{b:World}{D:gy}(a:nZ b D):nZ b (sH D) where
 ok:=a.ok
 rA:=a.rA.oo _ (Nat.min_le_left ..)
 WR:=λb=>⟨by have:=(a.WR b).1;show min D.m 40=0;omega,(a.WR b).2⟩
 Xh:=AZ (Nat.min_le_left ..) a.Xh
 UY:=a.UY.oo _ (Nat.min_le_left ..)
 cap2:=AZ (Nat.min_le_left ..) a.cap2
 Yi:=a.Yi
 Xp:=a.Xp
 VK:=a.VK
 U8:=a.U8
 Vn:=a.Vn
 Xr:=a.Xr.oo _ (Nat.min_le_left ..)
 Xi:=AZ (Nat.min_le_left ..) a.Xi
 VI:=a.VI
 dl:=a.dl
 Yh:=a.Yh
 Xq:=a.Xq.oo _ (Nat.min_le_left ..)
 cap4:=AZ (Nat.min_le_left ..) a.cap4
structure rZ(w:World)(A:Option Addr)(n:Nat)(l:List gy):Prop where
 len:l.length=n
 all:∀D∈l,nZ w D
 rd:ax w 176 A n (l.flatMap dF)
theorem rZ.below{w a:World}{A:Option Addr}{n:Nat}{b:List gy}(k:rZ w A n b)(c:av w a):rZ a A n b:=⟨k.len,λa b=>(k.all a b).below c,k.rd.below c⟩
theorem Fv:∀(d:List gy),(∀b∈d,(dF b).length=176)->∀(a:Nat) (b:gy) (c:Nat),d[a]?=some b->c < 176->(d.flatMap dF)[a*176+c]?=(dF b)[c]?
 | [],_,a,b,c,e,_=>by cases e
 | f :: d,g,a,b,c,e,h=>by
  have hs:=g f aZ;rw[List.flatMap_cons];cases a with
  | zero=>
   obtain rfl:f=b:=AL e;rw[Nat.zero_mul,Nat.zero_add,List.getElem?_append_left ah]
  | succ a=>
   rw[List.getElem?_append_right ah,hs,show(a+1)*176+c - 176=a*176+c by omega];exact Fv d (λf i=>g f (by simp[i])) a b c e h
theorem rZ.at_{d:World}{e:Option Addr}{f i:Nat}{l:List gy}{D:gy}(h:rZ d e f l)(hx:l[i]?=some D):∃a c,e=some ⟨a,c,none⟩/\a < d.heap.size/\∀(b:Nat) (u:Value),(dF D)[b]?=some u->d.cell? ⟨a,c+i*176+b,none⟩=some u:=by
 have d:=(AU.1 hx).1;obtain⟨a,c,g,j,k⟩:=h.rd.2 (aC h.len);(have f:=λd e=>qz (h.all d e).ok (h.all d e).VI (h.all d e).dl);refine⟨a,c,g,j,λb u d=>?_⟩;have a:b < 176:=dn ((AU.1 d).1) (f D (Ab hx));rw[Nat.add_assoc];refine k _ u ?_;rw[Fv l f i D b hx a];exact d
theorem RD{b:List aj}(a:gB b=0):b.length<=64/\tq b=true/\j4 b=true:=by
 unfold gB at a
 split at a
 ·cases a
 ·split at a
  ·split at a
   ·exact⟨ah,by assumption,by assumption⟩
   ·cases a
  ·cases a
theorem Ov:(prog.info? 54).map (·.size)=some 176:=by kernel_rfl
theorem Ug:(zeroCells54:Array Value).size=176:=by kernel_rfl
theorem WC:(prog.info? 37).map (·.size)=some 1:=by kernel_rfl
theorem Mr:(prog.info? 44).map (·.size)=some 1:=by kernel_rfl
theorem Pz(b:gy):∀c∈dF b,c.oneCell'=true:=by
 intro c a;unfold dF at a;simp only[List.mem_append]at a
 rcases a with a | a | a | a | a | a
 ·simp only[List.mem_cons,List.not_mem_nil,or_false]at a
  rcases a with rfl | rfl<;>rfl
 ·have:=qL (h:=b.h) b.A b.m b.c
  rw[List.all_toArray]at this;exact List.all_eq_true.1 this c a
 ·simp only[List.mem_cons,List.not_mem_nil,or_false]at a
  rcases a with rfl | rfl | rfl<;>rfl
 ·simp only[List.mem_cons,List.not_mem_nil,or_false]at a
  subst a;rfl
 ·simp only[List.mem_cons,List.not_mem_nil,or_false]at a
  rcases a with rfl | rfl | rfl<;>rfl
 ·unfold gy.idx dH at a
  simp only[List.mem_append]at a
  rcases a with((a | a) | a) | a
  ·simp only[List.mem_cons,List.not_mem_nil,or_false]at a
   rcases a with rfl | rfl<;>rfl
  ·rcases Ag.1 a with rfl | a
   ·rfl
   ·exact aY _ c a
  ·exact aY _ c a
  ·simp only[List.mem_cons,List.not_mem_nil,or_false]at a
   subst a;rfl
theorem TU{a:World}{b c:Nat}{e f:Array Value}(g:¬b=c)(h:aL a b 126 e)(i:aL a c 126 f):(binOp .eql 31 (.pointer (some ⟨b,0,none⟩)) (.pointer (some ⟨c,0,none⟩))).run prog a=.ok (.bool false) a:=by
 cases hq:prog.info? 126 with
 | none=>have:=Ml;rw[hq]at this;cases this
 | some d=>
  (have hs:d.size≠0:=by have:=Ml;rw[hq]at this;simp at this;omega);(have hx:(⟨b,0,none⟩:Addr)≠⟨c,0,none⟩:=λd=>by injection d with d;exact g d);have g:=run_sameAddr_other (P:=prog) a hx (show a.heap[(⟨b,0,none⟩:Addr).block]?=some (.cells e 126 (0,0))from h) (show a.heap[(⟨c,0,none⟩:Addr).block]?=some (.cells f 126 (0,0))from i)
  have e:∀d,(Op.equalIn (d+1) 31 (.pointer (some ⟨b,0,none⟩)) (.pointer (some ⟨c,0,none⟩))).run prog a=.ok false a:=λd=>by
   simp[Op.equalIn,run_underlying underlying31,sizeOf,typeInfo,hq,hs,g]
  have d:(Op.equal 31 (.pointer (some ⟨b,0,none⟩)) (.pointer (some ⟨c,0,none⟩))).run prog a=.ok false a:=e 9999;simp only[binOp];simp[d]
structure Ye(D:gy):Prop where
 part:(prog.info? 54).map (·.size)=some (dF D).length
 size:(prog.info? 54).map (·.size)=some (dF D).toArray.size
 zero:(zeroCells54:Array Value).size=(dF D).toArray.size
 one:(dF D).toArray.all (λv=>v.oneCell')=true
theorem X0{D:gy}(b:D.h.Ok)(c:D.ch.length=32)(hd:D.d.length=32):Ye D:=by
 have a:=qz b c hd;exact⟨by rw[a];exact Ov,by rw[List.size_toArray,a];exact Ov,Ug.trans (show 176=(dF D).length from a.symm),by rw[List.all_toArray];exact List.all_eq_true.2 (Pz D)⟩
theorem FN(z B:Int)(s:z < 9223372036854775808)(v:B < 9223372036854775808)(b:aj)(e:b.length=32)(h:List aj)(c:Nat)(w:h.length=c)(j:Option Addr)(k:Nat)(x:c<=k)(t:Int)(ι:List gy)(G:Nat)(y:G<=140737488355328)(a:Option Addr)(f:Nat)(d:World)(m:bn d)(C:gq d j h)(I:∀g∈h,g.length < 140737488355228)(J:rZ d a G ι):
  bq 3 #[.int .i64 z,.int .i64 B,.agg (ak b).toArray,.slice j c k,.int .i64 t,.slice a G f] d (.bool true):=by
 obtain⟨q,i⟩:=aS (d.alloc (.cells (ak b).toArray 23))
 have r:Hid (aL q d.heap.size 23 (ak b).toArray):=i.out ▸ aL.new d _ _
 have A:Hid (Below d.heap.size d q):=i.out ▸ Below.aJ d _
 have X:=i.out
 obtain⟨p,l⟩:=aS (min c 70)
 have K:Hid (∀a,Calls prog 7 #[.slice j c k,.int .i64 70] a λf E=>f=.returned (.slice j p k)/\a=E):=λa=>by
  have:=Tk j c k 70 x a;rw[l.out]at this;exact this
 obtain⟨H,c⟩:=aS (h.take 70)
 have O:Hid (H.length=p):=by show _=_;rw[<-c.out,List.length_take,w,<-l.out];exact Nat.min_comm _ _
 have P:Hid (p<=1000):=by show _<=_;have:=l.out;omega
 have Q:Hid (∀g∈H,g.length < 140737488355228):=λg u=>I g (by rw[<-c.out]at u;exact CO u)
 have R:Hid (∀a,Below d.heap.size d a->gq a j H):=λa n=>by rw[<-c.out];exact IU (C.below n) 70
 have S:=AA<|λa (n:Below d.heap.size d a)=>m.below n m.1
 have Z:=AA<|λa (n:Below d.heap.size d a)=>J.below n
 have L:=AA<|λa (n:Below d.heap.size d a)=>KM z s b e H p O P j k t a (S a n) (R a n) Q
 have M:=AA<|λa (n:Below d.heap.size d a)=>KM B v b e H p O P j k t a (S a n) (R a n) Q
 have h:=AA y
 have F:=AA (bI b e)
 have α:Hid (cl z < 9223372036854775808/\cl B < 9223372036854775808):=by
  show _/\_;unfold cl cu;refine⟨?_,?_⟩
  ·split
   ·omega
   ·split<;>omega
  ·split
   ·omega
   ·split<;>omega
 clear i m C I J w x y e l c s v
 go_enter func3,ntmps3
 go_upto_region 4 with(first
  |(go_at_call 7;refine(K _).mono ?_;rintro f a ⟨rfl,rfl⟩)
  |((rw[aF 27];refine aM r F AB ?_))
  |((rw[aF 35];refine aM c F AB ?_))
  |(go_at_call 8;have h:=r;clear r;refine(L q A).mono ?_;rintro f s ⟨U,rfl,e,i⟩;have x:=aQ A e;have c:=bf e h;clear e h)
  |(go_at_call 8;have h:=c;clear c;refine(M s x).mono ?_;rintro f N ⟨V,rfl,c,W⟩;have v:=AA c;have T:=aQ x c;have Y:=bf c h;clear c h))
 clear X K L M
 rcases i with⟨C,rfl⟩ |⟨J,K,l,q,L,ω,M,rfl,w,e,ε,ζ,η⟩
 ·rcases W with⟨-,rfl⟩ |⟨i,m,-⟩
  ·go_wp2_with fail
   go_ret;exact⟨rfl,T⟩
  ·exact absurd C (by rintro(c | c);exact c i;exact c m)
 rcases W with⟨C,-⟩ |⟨-,-,m,r,I,Γ,X,rfl,y,i,θ,κ,μ⟩
 ·exact absurd C (by rintro(c | c);exact c J;exact c K)
 obtain⟨ν,ξ,ο⟩:=RD J
 have C:Hid (d.heap.size<=M.heap.size/\M.heap.size<=q/\q < l/\l < s.heap.size/\s.heap.size<=I/\s.heap.size<=X.heap.size/\X.heap.size<=r/\r < m/\m < N.heap.size):=⟨AZ A.size e.2.2.1,w.1,w.2.1,w.2.2,i.2.1,i.2.2.1,y.1,y.2.1,y.2.2⟩
 have ρ:=AA (η.below v)
 have σ:=AA μ
 have τ:=AA e.1
 have υ:=AA i.1
 have φ:=AA<|e.2.2.2.trans (v.mono e.2.2.2.size)
 have χ:=AA i.2.2.2
 have W:=AA ε
 have X:=AA θ
 have t1:=AA ζ
 have t2:=AA κ
 have β:=AA ν
 have γ:=AA ξ
 have δ:=AA ο
 clear w y e i η μ ε θ ζ κ J K ν ξ ο
 go_upto_region 9 with(first
  |((rw[aF 61];refine aM Y F AB ?_))
  |(go_at_call 9;refine(FO z b t N).mono ?_;rintro f b ⟨rfl,i⟩;have e:=AA i;have η:=aQ T i;clear i Y))
 have s:=AA (ρ.below e)
 have N:=AA (σ.below e)
 have θ:=aQ φ e
 have κ:=aQ χ e
 have ε:Hid (l < b.heap.size/\m < b.heap.size):=⟨by have A:=C.out;have M:=v.size;have J:=e.size;omega,by have A:=C.out;have J:=e.size;omega⟩
 have i:Hid (¬q=r):=λf=>by have:=C.out;omega
 have w:=AA<|λa (n:Below b.heap.size b a)=>TU i (s.below n).Eg.blk (N.below n).Eg.blk
 clear ρ σ φ χ v e
 have aD:Hid (Below b.heap.size b b.drew):=(Below.refl _ _).drew
 refine dI (λa=>Below b.heap.size b a) 17 ?_
 refine aH 0 aD ?_
 refine aH 1 aD ?_
 refine aH 2 aD ?_
 refine aH 3 aD ?_
 refine aH 4 aD ?_
 refine aH 5 aD ?_
 refine aH 6 aD ?_
 refine aH 7 aD ?_
 refine aH 8 aD ?_
 refine aH 9 aD ?_
 refine eG 10 aD (λa e=>fQ.Eg (s.below e).JE) ?_
 refine aH 11 aD ?_
 refine aH 12 aD ?_
 refine aH 13 aD ?_
 refine eG 14 aD (λa e=>fQ.Eg (N.below e).JE) ?_
 refine eG 15 aD (λa e=>w a e) ?_
 refine aH 16 aD ?_
 refine bT ?_
 have i:Hid (Below b.heap.size b {heap:=b.heap,tape:=b.tape,drawn:=b.drawn+1,os:=b.os,output:=b.output}):=aD
 clear aD
 generalize({heap:=b.heap,tape:=b.tape,drawn:=b.drawn+1,os:=b.os,output:=b.output}:World)=v at*
 have μ:=AA (s.below i)
 have ν:=AA (N.below i)
 have ξ:=aQ θ i
 have ο:=aQ κ i
 have ζ:=aQ η i
 have ρ:Hid (l < v.heap.size/\m < v.heap.size):=⟨Ad ε.1 i.size,Ad ε.2 i.size⟩
 obtain⟨e,K⟩:∃e:Nat->Prop,Hid ((λb=>b=q\/b=l\/b=r\/b=m)=e):=⟨_,AA rfl⟩
 have Tx:Hid (∀b,e b->b=q\/b=l\/b=r\/b=m):=λb c=>by rw[<-K.out]at c;exact c
 have y:Hid (e q/\e l/\e r/\e m):=K.out ▸ ⟨.inl rfl,.inr (.inl rfl),.inr (.inr (.inl rfl)),.inr (.inr (.inr rfl))⟩
 have Y:Hid (∀b,e b->d.heap.size<=b):=λb c=>by have A:=Tx b c;have M:=C.out;have J:=x.size;omega
 have F:=AA<|λa (w:au e v a)=>ζ.trans (Ns w Y ζ.size)
 have σ:=AA<|λa (w:au e v a)=>EL τ ξ w (λb c=>.inr (by have A:=Tx b c;have M:=C.out;omega))
 have φ:=AA<|λa (w:au e v a)=>EL υ ο w (λb c=>by have A:=Tx b c;have M:=C.out;omega)
 have χ:Hid (qi e v l q (cl z) t L (.slice j p k)):=⟨_,none,0,0,none,0,[],μ,λc=>absurd c (BJ 0),λc=>absurd c (BJ 0)⟩
 have ψ:Hid (qi e v m r (cl B) t I (.slice j p k)):=⟨_,none,0,0,none,0,[],ν,λc=>absurd c (BJ 0),λc=>absurd c (BJ 0)⟩
 have ζ:Hid (∀b,e b->b < v.heap.size):=λb c=>by have A:=Tx b c;have M:=C.out;have J:=ρ.out;omega
 clear s N μ ν θ κ ξ ο τ υ x T η i K ρ ε
 have κ:=AA<|λ(D:gy) (hF:uy D) (T:(∀a,Below d.heap.size d a->nZ a D)) s (w:au e v s) (ε:qi e s l q (cl z) t L (.slice j p k))=>GR H p O P δ j k Q ω W t1 (by have A:=W.length_eq;rw[List.length_map]at A;have:=β.out;omega) (λi hx=>List.all_eq_true.1 γ i.q (W.mem_iff.1 (Aq.2 ⟨i,hx,rfl⟩))) l q (aC C) (cl z) t α.1 L D hF e y.1 y.2.1 s (λb c=>Ad (ζ b c) w.size) (au e v) (λμ ν ξ x η θ=>x.trans η (λb ο c=>by rcases θ b c with rfl | rfl | J;exact y.1;exact y.2.1;exact absurd J (aC w.size))) (λa x=>⟨S a (F a x),R a (F a x),σ a x,T a (F a x)⟩) w (λh0 N o f K=>by have A:=EC (T d (Below.refl _ _)).rA h0 N o f;have M:=Y N K;omega) ε
 have ρ:=AA<|λ(D:gy) (hF:uy D) (T:(∀a,Below d.heap.size d a->nZ a D)) s (w:au e v s) (ε:qi e s m r (cl B) t I (.slice j p k))=>GR H p O P δ j k Q Γ X t2 (by have A:=X.length_eq;rw[List.length_map]at A;have:=β.out;omega) (λi hx=>List.all_eq_true.1 γ i.q (X.mem_iff.1 (Aq.2 ⟨i,hx,rfl⟩))) m r (aC C) (cl B) t α.2 I D hF e y.2.2.1 y.2.2.2 s (λb c=>Ad (ζ b c) w.size) (au e v) (λμ ν ξ x η θ=>x.trans η (λb ο c=>by rcases θ b c with rfl | rfl | J;exact y.2.2.1;exact y.2.2.2;exact absurd J (aC w.size))) (λa x=>⟨S a (F a x),R a (F a x),φ a x,T a (F a x)⟩) w (λh0 N o f K=>by have A:=EC (T d (Below.refl _ _)).rA h0 N o f;have M:=Y N K;omega) ε
 have η:Hid (∀s,qi e s l q (cl z) t L (.slice j p k)->bq 13 #[.pointer (some ⟨l,0,none⟩)] s (.bool true)):=λs ⟨x,A,H,J,K,M,T,w,_,_⟩=>qB l q (cl z) t L (.slice j p k) x A H J K M T s w.Eg w.JE
 have θ:Hid (∀s,qi e s m r (cl B) t I (.slice j p k)->bq 13 #[.pointer (some ⟨m,0,none⟩)] s (.bool true)):=λs ⟨x,A,H,J,K,M,T,w,_,_⟩=>qB m r (cl B) t I (.slice j p k) x A H J K M T s w.Eg w.JE
 clear S R σ φ Q P O W X t1 t2 β γ δ α ζ Y
 go_wp2_with fail
 go_loopw [19] (λs wr=>∃b:Nat,s=.int .i64 (b:Int)/\Hid (b<=40)/\Hid (au e v wr)/\Hid (qi e wr l q (cl z) t L (.slice j p k))/\Hid (qi e wr m r (cl B) t I (.slice j p k))) (λs _=>40 - (intOf s).toNat)
 case atStart=>exact⟨0,rfl,AX _,au.refl _ _,χ,ψ⟩
 case round=>
  clear χ ψ;obtain⟨b,rfl,j,I,T,W⟩:=hrel;by_cases J:G<=b
  ·have k:(G:Int)<=(b:Int):=ah
   have j:=F _ I;clear J;go_wp2_with fail;go_ret;exact⟨rfl,j⟩
  have k:(b:Int) < (G:Int):=ah;replace J:b < G:=ah;by_cases X:40<=b
  ·have k:(40:Int)<=(b:Int):=ah
   have j:=F _ I;clear J X;go_wp2_with fail;go_ret;exact⟨rfl,j⟩
  have k:(b:Int) < 40:=ah;have j:(0:Int)<=(b:Int):=ah;have j:=AO ((b:Int)+1) ah;(have K:Hid (b+1<=40):=by show _<=_;omega);have Y:=AA (F _ I);obtain⟨D,O⟩:∃D,ι[b]?=some D:=⟨_,AV (by rw[(Z.out d (Below.refl _ _)).len];exact J)⟩;obtain⟨N,o,rfl,ι,L⟩:=(Z wr Y).at_ O;replace L:=AA L;(have s:=AA<|λa (n:Below d.heap.size d a)=>(Z a n).all D (Ab O));have j:=AA (s d (Below.refl _ _)).ok;have z:=AA (s d (Below.refl _ _)).VI;have A:=AA (s d (Below.refl _ _)).dl;have k:=AA (X0 j z A);have μ:=AA k.part;have ν:=AA k.size;have ξ:=AA k.zero;have ο:=AA k.one;clear k;(have σ:Hid ((dF D).toArray.size=176):=by show _=_;rw[List.size_toArray,qz j.out z.out A.out]);obtain⟨k,P⟩:=aS (min D.m 40);obtain⟨t,Q⟩:=aS (min D.n2 100);obtain⟨x,R⟩:=aS (min D.n3 100);obtain⟨H,S⟩:=aS (min D.n4 300);(have Z:Hid (∀a,Calls prog 10 #[.slice D.A D.m D.c,.int .i64 40] a λf E=>f=.returned (.slice D.A k D.c)/\a=E):=λa=>by have:=Tn D.A D.m D.c 40 (s d (Below.refl _ _)).Xh a;rw[P.out]at this;exact this);(have α:Hid (∀a,Calls prog 11 #[.slice D.A2 D.n2 D.c2,.int .i64 100] a λf E=>f=.returned (.slice D.A2 t D.c2)/\a=E):=λa=>by have:=Fz D.A2 D.n2 D.c2 100 (s d (Below.refl _ _)).cap2 a;rw[Q.out]at this;exact this);(have β:Hid (∀a,Calls prog 11 #[.slice D.A3 D.n3 D.c3,.int .i64 100] a λf E=>f=.returned (.slice D.A3 x D.c3)/\a=E):=λa=>by have:=Fz D.A3 D.n3 D.c3 100 (s d (Below.refl _ _)).Xi a;rw[R.out]at this;exact this);(have γ:Hid (∀a,Calls prog 11 #[.slice D.A4 D.n4 D.c4,.int .i64 300] a λf E=>f=.returned (.slice D.A4 H D.c4)/\a=E):=λa=>by have:=Fz D.A4 D.n4 D.c4 300 (s d (Below.refl _ _)).cap4 a;rw[S.out]at this;exact this);obtain⟨B,p⟩:=aS (yo D k);obtain⟨E,w⟩:=aS (DK B t);obtain⟨F,G⟩:=aS (Jl E x);obtain⟨v,M⟩:=aS (QG F H);(have N:Hid (v=sH D):=by show _=_;rw[<-M.out,<-G.out,<-w.out,<-p.out,<-P.out,<-Q.out,<-R.out,<-S.out];rfl);have τ:Hid (((dF D).toArray.toList.take 100++[Value.slice D.A k D.c]++(dF D).toArray.toList.drop (100+1)).toArray=(dF B).toArray):=p.out ▸ Ev D j k;(have υ:Hid (((dF B).toArray.toList.take 103++[Value.slice D.A2 t D.c2]++(dF B).toArray.toList.drop (103+1)).toArray=(dF E).toArray):=by rw[<-w.out,<-p.out];exact Eu (yo D k) j t);(have φ:Hid (((dF E).toArray.toList.take 107++[Value.slice D.A3 x D.c3]++(dF E).toArray.toList.drop (107+1)).toArray=(dF F).toArray):=by rw[<-G.out,<-w.out,<-p.out];exact XD (DK (yo D k) t) j x);(have χ:Hid (((dF F).toArray.toList.take 175++[Value.slice D.A4 H D.c4]++(dF F).toArray.toList.drop (175+1)).toArray=(dF v).toArray):=by rw[<-M.out,<-G.out,<-w.out,<-p.out];exact XC (Jl (DK (yo D k) t) x) j z A H);(have ψ:Hid ((dF B).toArray.size=176):=by rw[<-p.out];show _=_;rw[List.size_toArray];exact qz (D:=yo D k) j z A);(have ω:Hid ((dF E).toArray.size=176):=by rw[<-w.out,<-p.out];show _=_;rw[List.size_toArray];exact qz (D:=DK (yo D k) t) j z A);(have Γ:Hid ((dF F).toArray.size=176):=by rw[<-G.out,<-w.out,<-p.out];show _=_;rw[List.size_toArray];exact qz (D:=Jl (DK (yo D k) t) x) j z A);(have Δ:=AA<|λi g (u:aL i g 54 (dF D).toArray)=>dR.row ⟨u,j⟩);(have Θ:Hid (∀i g,aL i g 54 (dF B).toArray->i.cell? ⟨g,103,none⟩=some (.slice D.A2 D.n2 D.c2)):=λi g u=>by rw[<-p.out]at u;exact dR.VE (D:=yo D k) ⟨u,j⟩);(have Ξ:Hid (∀i g,aL i g 54 (dF E).toArray->i.cell? ⟨g,107,none⟩=some (.slice D.A3 D.n3 D.c3)):=λi g u=>by rw[<-w.out,<-p.out]at u;exact dR.Yt (D:=DK (yo D k) t) ⟨u,j⟩);(have Φ:Hid (∀i g,aL i g 54 (dF F).toArray->i.cell? ⟨g,175,none⟩=some (.slice D.A4 D.n4 D.c4)):=λi g u=>by rw[<-G.out,<-w.out,<-p.out]at u;exact dR.idx (D:=Jl (DK (yo D k) t) x) ⟨u,j⟩ 67 _ (qc (dV z) A));(have δ:Hid (∀i g,aL i g 54 (dF v).toArray->i.cell? ⟨g,1,none⟩=some (.bool D.other)):=λi g u=>by rw[<-M.out,<-G.out,<-w.out,<-p.out]at u;exact dR.other (D:=QG (Jl (DK (yo D k) t) x) H) ⟨u,j⟩);have u:Hid (uy v):=N.out ▸ TF D;(have ε:Hid (∀a,Below d.heap.size d a->nZ a v):=λa n=>by rw[N.out];exact Ed (s a n));have ζ:Hid (Ye v):=N.out ▸ X0 (Ed (s d (Below.refl _ _))).ok (Ed (s d (Below.refl _ _))).VI (Ed (s d (Below.refl _ _))).dl;obtain⟨Ψ,d⟩:=aS (D.other);rw[d.out]at δ;clear J X O ι s j z A P Q R S p w G M N d;generalize dF D=s at*;generalize dF B=g at*;generalize dF E=i at*;generalize dF F=j at*
  go_upto_region 20 with(first
  |((rw[aF 96];refine bS L μ underlying54 ?_))
  |(rw[bA 54 20];refine dB (aL.new wr _ _) ν ξ ο ?_;intro n d p;have w:=AA<|(Below.aJ wr _).trans (au.aW p (AJ _) aZ);replace d:=AA d;have z:=Δ _ _ d;clear p L)
  |(go_at_call 10;have h:=Z;clear Z;refine(h _).mono ?_;rintro f a ⟨rfl,rfl⟩;clear h)
  |(rw[iE 37 102];refine kJ (o:=⟨none,_,_,_,_,_⟩) rfl 37 (.tmp 102) (.tmp 100) rfl wr.heap.size 100 (.slice D.A k D.c) rfl rfl rfl 54 s.toArray d WC (by rw[σ.out];decide) rfl ?_;rw[τ.out];have k:Hid (aL (n.setRow wr.heap.size g.toArray) wr.heap.size 54 g.toArray):=setRow_heap _ _ _ _ _ _ d;have p:Hid (Below wr.heap.size wr (n.setRow wr.heap.size g.toArray)):=below_setRow w (AJ _) _;have s:=Θ _ _ k;clear z;generalize n.setRow wr.heap.size g.toArray=U at*;clear d)
  |(go_at_call 11;have h:=α;clear α;refine(h _).mono ?_;rintro f a ⟨rfl,rfl⟩;clear h)
  |(rw[iE 44 108];refine kJ (o:=⟨none,_,_,_,_,_⟩) rfl 44 (.tmp 108) (.tmp 106) rfl wr.heap.size 103 (.slice D.A2 t D.c2) rfl rfl rfl 54 g.toArray k Mr (by rw[ψ.out];decide) rfl ?_;rw[υ.out];have d:Hid (aL (U.setRow wr.heap.size i.toArray) wr.heap.size 54 i.toArray):=setRow_heap _ _ _ _ _ _ k;have n:Hid (Below wr.heap.size wr (U.setRow wr.heap.size i.toArray)):=below_setRow p (AJ _) _;have p:=Ξ _ _ d;clear s;generalize U.setRow wr.heap.size i.toArray=V at*;clear k)
  |(go_at_call 11;have h:=β;clear β;refine(h _).mono ?_;rintro f a ⟨rfl,rfl⟩;clear h)
  |(rw[iE 44 114];refine kJ (o:=⟨none,_,_,_,_,_⟩) rfl 44 (.tmp 114) (.tmp 112) rfl wr.heap.size 107 (.slice D.A3 x D.c3) rfl rfl rfl 54 i.toArray d Mr (by rw[ω.out];decide) rfl ?_;rw[φ.out];have g:Hid (aL (V.setRow wr.heap.size j.toArray) wr.heap.size 54 j.toArray):=setRow_heap _ _ _ _ _ _ d;have s:Hid (Below wr.heap.size wr (V.setRow wr.heap.size j.toArray)):=below_setRow n (AJ _) _;have n:=Φ _ _ g;clear p;generalize V.setRow wr.heap.size j.toArray=i at*;clear d)
  |(go_at_call 11;have h:=γ;clear γ;refine(h _).mono ?_;rintro f a ⟨rfl,rfl⟩;clear h)
  |(rw[iE 44 120];refine kJ (o:=⟨none,_,_,_,_,_⟩) rfl 44 (.tmp 120) (.tmp 118) rfl wr.heap.size 175 (.slice D.A4 H D.c4) rfl rfl rfl 54 j.toArray g Mr (by rw[Γ.out];decide) rfl ?_;rw[χ.out];have k:Hid (aL (i.setRow wr.heap.size (dF v).toArray) wr.heap.size 54 (dF v).toArray):=setRow_heap _ _ _ _ _ _ g;have a:Hid (Below wr.heap.size wr (i.setRow wr.heap.size (dF v).toArray)):=below_setRow s (AJ _) _;have d:=δ _ _ k;clear n;generalize i.setRow wr.heap.size (dF v).toArray=t at*;clear g))
  (have i:=AA<|I.trans (au.of_below a) (λb _ c=>c));have n:=AA (qi.below T a);have p:=AA (qi.below W a);have w:=AA ζ.size;(have s:Hid (∀b,(b=q\/b=l)->e b):=λb c=>by rcases c with rfl | rfl;exact y.1;exact y.2.1);(have x:Hid (∀b,(b=r\/b=m)->e b):=λb c=>by rcases c with rfl | rfl;exact y.2.2.1;exact y.2.2.2);(have j:Hid (¬(r=q\/r=l)/\¬(m=q\/m=l)/\¬(q=r\/q=m)/\¬(l=r\/l=m)):=by show _/\_;have:=C.out;omega);clear I T W a ζ Y;cases Ψ with
  | false=>
   go_wp2_with (first
  |((rw[aF 128];refine aM k w underlying54 ?_))
  |(go_at_call 12;have h:=n;clear n;refine(κ v u ε t i h).mono ?_;rintro f l ⟨rfl,d,e⟩;replace e:=AA e;have m:=AA<|i.trans d (λb _ c=>s b c);have g:=AA (qi.kept p d s j.1 j.2.1);clear d h)
  |(go_at_call 13;refine(θ l g).mono ?_;rintro f y ⟨rfl,a⟩;have q:=AA<|m.trans (au.of_below a) (λb _ c=>c);have r:=AA (qi.below e a);have s:=AA (qi.below g a);clear a))
   go_roundw
   case rel=>exact⟨b+1,by go_num,K,q,r,s⟩
   case measure=>(have:=K.out;simp[intOf];omega)
  | true=>
   go_wp2_with (first
  |((rw[aF 128];refine aM k w underlying54 ?_))
  |(go_at_call 12;have h:=p;clear p;refine(ρ v u ε t i h).mono ?_;rintro f l ⟨rfl,d,g⟩;replace g:=AA g;have m:=AA<|i.trans d (λb _ c=>x b c);have e:=AA (qi.kept n d x j.2.2.1 j.2.2.2);clear d h)
  |(go_at_call 13;refine(η l e).mono ?_;rintro f y ⟨rfl,a⟩;have q:=AA<|m.trans (au.of_below a) (λb _ c=>c);have r:=AA (qi.below e a);have s:=AA (qi.below g a);clear a))
   go_roundw
   case rel=>exact⟨b+1,by go_num,K,q,r,s⟩
   case measure=>(have:=K.out;simp[intOf];omega)
