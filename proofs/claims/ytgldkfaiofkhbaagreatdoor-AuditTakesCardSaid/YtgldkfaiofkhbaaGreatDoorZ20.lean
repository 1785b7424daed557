import Derived.Test.YtgldkfaiofkhbaaGreatDoorZ19
import Derived.Test.YtgldkfaiofkhbaaGreatDoorZ16
import Derived.Test.YtgldkfaiofkhbaaGreatDoorZ4
namespace Go.Proofs.YtgldkfaiofkhbaaGreatDoor
open Go Go.RowKit Go.Proofs.Tryz
set_option maxRecDepth 100000
set_option maxHeartbeats 4000000
theorem Ie{e a:List aj}(g:a.Perm e)(hs:a.Pairwise λc d=>aT (eZ d) (eZ c)=false):bK eZ e=if nu (ky:=eZ) a=true then some a else none:=by
 have b:=xg (ky:=eZ) g hs;by_cases f:nu (ky:=eZ) a=true
 ·rw[if_pos f,b,if_pos]
  exact(g.pairwise_iff (R:=λc d=>eZ c≠eZ d) (λg=>λh=>g h.symm)).1 ((zP.1 f).imp λg=>qP g)
 ·rw[if_neg f]
  cases hq:bK eZ e with
  | none=>rfl
  | some g=>
   exfalso;rw[hq]at b;by_cases hd:e.Pairwise (λc d=>eZ c≠eZ d)
   ·rw[if_pos hd]at b
    obtain rfl:g=a:=AL b;exact f (zP.2 (jU hq).1)
   ·rw[if_neg hd]at b
    cases b
theorem Rq(b:List aj)(d e c k:Nat)(f:d<=2199023255552)(a:World)(i:ji a e (.slice (some ⟨c,0,none⟩) d k) d b)(m:e<=a.heap.size):
  Calls prog 211 #[.slice (some ⟨c,0,none⟩) d k,.func (.func 212) #[] #[]] a λo j=>o=.returned (.tuple #[])/\∃f:List aj,Hid (bK eZ b=if nu (ky:=eZ) f=true then some f else none)/\Hid (ji j e (.slice (some ⟨c,0,none⟩) d k) d f)/\Hid (Below e a j):=by
 have l:c < a.heap.size/\e<=c:=by
  rcases i.2.2.2 with⟨f,-⟩ |⟨d,c2,g,f,m,l,-⟩
  ·cases f
  ·injection f with d
   (injection d with d);(injection d with d);subst d;exact⟨(Ay.1 l).1,m⟩
 have p:∀g a,(callFunc 212 g).run prog a=.ok (.enter 212 g) a:=enters_of func212 bH rfl
 have g:∀h∈b,h.length=64:=i.1
 have h:=(TW b g).trans i.2.1
 have n:=AnyQ.slices_SortFunc Tryz.sortSigns 64 (λ_=>rfl) (λ_=>rfl) enc VD VB Xe Md 212 #[] c 0 k (kR b g) a p (NV c 0 _ a) (Qq g i.2.2) l.1 (by rw[h];omega)
 simp only[h]at n
 change Calls _ 211 _ _ _ at n
 refine n.mono λo j ⟨r,c,k,p,s,hs,q⟩=>?_
 have n:Sort.PermIn 0 (kR b g).size (kR b g) c:=h ▸ s
 have o:Sort.SortedIn (ltOf Xe) 0 (kR b g).size c:=h ▸ hs
 obtain⟨b,f,d⟩:=JW n o
 rw[LC]at f
 refine⟨r,fH c,Ie f d,?_,?_⟩
 ·show ji j _ _ _ _
  rw[q];refine⟨yH c,by rw[b,h],M6 i.2.2 k c (by rw[<-qy,b,h]) p⟩
 ·show Below e a j
  rw[q];exact Jt l.2 m k c p
theorem xR(e:List aj)(a:Nat)(g:0 < a)(h:a<=2199023255552)(c:Option Addr)(i:Nat)(b:World)(d:kD b c a e):
  Calls prog 126 #[.slice c a i] b λf j=>∃(k l:Nat) (c:List aj),f=.returned (.tuple #[.slice (some ⟨k,0,none⟩) a l,.bool (nu (ky:=eZ) c)])/\Hid (bK eZ e=if nu (ky:=eZ) c=true then some c else none)/\Hid (ji j b.heap.size (.slice (some ⟨k,0,none⟩) a l) a c)/\Hid (av b j):=by
 obtain⟨k,l,m,n,o⟩:=bV Fj
 obtain⟨p,q,rfl,-,-⟩:=d.rd.2 ah
 have r:=AA d.rd
 have s:Hid (nI e):=d.all
 have t:=AA d.len
 have u:Hid (0+a<=maxLen):=by show _<=_;unfold maxLen;omega
 have v:Hid ((0+a)*64<=140737488355328):=by show _<=_;omega
 have j:=AA h
 have w:=AA g
 clear d g h
 go_enter func126,ntmps126
 go_wp2_with (first
  |(at_builtin;refine dD _ rfl (.const (.slice none 0 0)) (.tmp 5) 37 rfl b.heap.size 57 k (.agg kW) 64 64 Ar l m n o rfl aR (.slice none 0 0) 0 [] rfl (Aa _ _ _ _) (some ⟨p,q,none⟩) a i (e.flatMap ak) rfl r (λf=>by cases f) (mg e) u v (AJ _) ?_;intro d i g;have d:=AA (lV (xs:=[]) g (Below.refl _ b) (AJ _) (ji.nil b _) s t);rw[Nat.zero_add,List.nil_append]at d;obtain⟨h,c1,rfl,-,-,k,-,-⟩:=ji.reads d.1;obtain⟨h,rfl⟩:=Kz d.1 w;clear g)
  |(go_at_call 211;refine(Rq e a b.heap.size h c1 j i d.1 d.2.size).mono ?_;rintro f k ⟨rfl,c,l,g,i⟩;obtain⟨m,c2,b,-,-,-,e,-⟩:=ji.reads g;injection b with b _ m;subst b m;replace e:=AA e)
  |(go_at_call 213;refine(Kc c a (aC j) _ c1 k e).mono ?_;rintro f b ⟨rfl,a⟩))
 go_ret2
 exact⟨h,c1,c,rfl,l,g.below a,(d.2.trans i).trans (a.mono (dn d.2.size i.size))⟩
def aN(h:bE)(v:Value):List Value:=aI h++[v]
theorem dY{a:bE}(b:a.Ok)(v:Value):(aN a v).length=99:=by unfold aN;rw[List.length_append,bQ b];rfl
theorem lN{h:bE}(c:Value)(a:Nat)(u:Value)(b:(aI h)[a]?=some u):(aN h c)[0+a]?=some u:=by
 unfold aN;rw[Nat.zero_add,List.getElem?_append_left (List.getElem?_eq_some_iff.1 b).1];exact b
theorem mJ{a:bE}(b:a.Ok)(c:Value):(aN a c)[98]?=some c:=by
 unfold aN;rw[List.getElem?_append_right (by rw[bQ b];exact Nat.le_refl _),bQ b];rfl
theorem Qt{e d:World}{b:Nat}{f:Option Nat}{c:aj}(a:bE)(i:a.Ok)(j:gH a=true)(k:c.length+113<=140737488355328)(l:aO e b f c d):
  Calls prog 210 #[.pointer (some ⟨b,0,none⟩),.agg (aI a).toArray] d λg h=>g=.returned (.tuple #[])/\aO e b f (c++dN a) h:=by
 obtain⟨e,f,m,c1⟩:=l
 exact(O0 a i j b e c d k f).mono λg h ⟨l,hx⟩=>⟨l,aO.xM m c1 hx⟩
theorem T9{d a:World}{c:Nat}{e:Option Nat}{b:aj}(f:b.length<=140737488355328)(g:aO d c e b a):
  Calls prog 133 #[.pointer (some ⟨c,0,none⟩)] a λh d=>∃e,h=.returned e/\av a d/\d.ownsRow a.heap.size 5 1 e b.length (ak b):=by
 obtain⟨d,e,h,c1⟩:=g
 exact uw c d b a f e
theorem U7{b:Type}{a:Bool}{c:b}(d:none=if a=true then some c else none):a=false:=by
 cases a with
 | false=>rfl
 | true=>cases d
theorem JY{e:Type}{a:Bool}{b c:e}(d:some b=if a=true then some c else none):a=true/\b=c:=by
 cases a with
 | false=>cases d
 | true=>exact⟨rfl,AL d⟩
structure fC(w:World)(g:Nat)(h:bE)(A:Option Addr)(n c:Nat)(ss:List aj):Prop where
 blk:aL w g 39 (aN h (.slice A n c)).toArray
 rA:kD w A n ss
theorem fC.below{w b:World}{a n c:Nat}{h:bE}{A:Option Addr}{d:List aj}(k:fC w a h A n c d)(e:av w b):fC b a h A n c d:=⟨(e.block a k.blk.lt).trans k.blk,k.rA.below e⟩
theorem fC.head{a:World}{b c d:Nat}{h:bE}{e:Option Addr}{f:List aj}(g:fC a b h e c d f)(j:Nat)(u:Value)(i:(aI h)[j]?=some u):a.cell? ⟨b,0+j,none⟩=some u:=by
 rw[g.blk.cell (0+j),List.getElem?_toArray];exact lN _ j u i
theorem fC.row{a:World}{b c d:Nat}{e:bE}{f:Option Addr}{g:List aj}(h:fC a b e f c d g)(i:e.Ok):a.cell? ⟨b,98,none⟩=some (.slice f c d):=by
 rw[h.blk.cell 98,List.getElem?_toArray];exact mJ i _
theorem fC.new{w:World}{a c:Nat}{d:bE}{b:Option Addr}{e:List aj}(f:kD w b a e):fC (w.alloc (.cells (aN d (.slice b a c)).toArray 39)) w.heap.size d b a c e:=⟨aL.new _ _ _,f.below (Below.aJ w _)⟩
theorem Sw(d:bE)(e:d.Ok){b:List aj}(hd:nI b){c a:Nat}(f:b.length=c)(g:a<=c):([]++[33]++dN d++[BitVec.ofNat 8 c]++(b.take a).flatten).length=115+64*a:=by
 simp only[List.length_append,List.length_nil,List.length_singleton,jZ e];rw[vG (nI.oo hd a),List.length_take];omega
theorem TS{a:Nat}(b:a<=16):b8 (BitVec.ofNat 8 a)=(a:Int):=by
 unfold b8;simp;omega
theorem QB(a:bE)(f:a.Ok)(h:List aj)(c:Nat)(j:Hid (gH a=false))(d:Option Addr)(e:Nat)(b:World)(i:kD b d c h):
  bq 125 #[.agg (aN a (.slice d c e)).toArray] b (.tuple #[.slice none 0 0,.int .i64 1]):=by
 have k:=AA<|Below.aJ b (.cells (aN a (.slice d c e)).toArray 39)
 have g:Hid (fC (b.alloc (.cells (aN a (.slice d c e)).toArray 39)) b.heap.size a d c e h):=fC.new i
 have h:Hid ((prog.info? 36).map (·.size)=some (aI a).length):=by show _=_;rw[bQ f];exact iT
 have l:Hid ((b.alloc (.cells (aN a (.slice d c e)).toArray 39)).heap.size=b.heap.size+1):=by show _=_;simp
 have b:=g.row f
 have b:=AA f
 clear f i
 go_enter BX,ntmps125
 go_wp2_with (first
  |((rw[aF 10];refine bS g.head h AQ ?_))
  |(go_at_call 209;refine(gK a b _).mono ?_;rw[j.out];rintro c d ⟨rfl,a⟩;have c:=AA (g.below a);have d:=c.row b;have b:=AA<|k.trans (a.mono (by rw[l.out];omega));clear a))
 go_ret2
 exact⟨rfl,b⟩
theorem Tz(a:bE)(f:a.Ok)(i:List aj)(b:Nat)(l:Hid (gH a=true))(h0:b=0)(d:Option Addr)(e:Nat)(c:World)(j:kD c d b i):
  bq 125 #[.agg (aN a (.slice d b e)).toArray] c (.tuple #[.slice none 0 0,.int .i64 7]):=by
 have m:=AA<|Below.aJ c (.cells (aN a (.slice d b e)).toArray 39)
 have g:Hid (fC (c.alloc (.cells (aN a (.slice d b e)).toArray 39)) c.heap.size a d b e i):=fC.new j
 have n:Hid ((prog.info? 36).map (·.size)=some (aI a).length):=by show _=_;rw[bQ f];exact iT
 have o:Hid ((c.alloc (.cells (aN a (.slice d b e)).toArray 39)).heap.size=c.heap.size+1):=by show _=_;simp
 have r:=g.row f
 have k:=AA f
 clear f j
 subst h0
 go_enter BX,ntmps125
 go_wp2_with (first
  |((rw[aF 10];refine bS g.head n AQ ?_))
  |(go_at_call 209;refine(gK a k _).mono ?_;rw[l.out];rintro s t ⟨rfl,h⟩;have p:=AA (g.below h);have u:=p.row k;have q:=AA<|m.trans (h.mono (by rw[o.out];omega));clear h))
 go_ret2
 exact⟨rfl,q⟩
theorem TA(a:bE)(f:a.Ok)(h:List aj)(b:Nat)(j:Hid (gH a=true))(k:16 < b)(d:Option Addr)(e:Nat)(c:World)(i:kD c d b h):
  bq 125 #[.agg (aN a (.slice d b e)).toArray] c (.tuple #[.slice none 0 0,.int .i64 7]):=by
 have l:=AA<|Below.aJ c (.cells (aN a (.slice d b e)).toArray 39)
 have g:Hid (fC (c.alloc (.cells (aN a (.slice d b e)).toArray 39)) c.heap.size a d b e h):=fC.new i
 have h:Hid ((prog.info? 36).map (·.size)=some (aI a).length):=by show _=_;rw[bQ f];exact iT
 have m:Hid ((c.alloc (.cells (aN a (.slice d b e)).toArray 39)).heap.size=c.heap.size+1):=by show _=_;simp
 have c:=g.row f
 have c:=AA f
 clear f i
 have d:¬((b:Int)=0):=ah
 have d:(16:Int) < (b:Int):=ah
 clear k
 go_enter BX,ntmps125
 go_wp2_with (first
  |((rw[aF 10];refine bS g.head h AQ ?_))
  |(go_at_call 209;refine(gK a c _).mono ?_;rw[j.out];rintro b d ⟨rfl,a⟩;have b:=AA (g.below a);have d:=b.row c;have b:=AA<|l.trans (a.mono (by rw[m.out];omega));clear a))
 go_ret2
 exact⟨rfl,b⟩
theorem QC(b:bE)(f:b.Ok)(g:List aj)(a:Nat)(l:Hid (gH b=true))(h0:0 < a)(i:a<=16)(m:Hid (bK eZ g=none))(c:Option Addr)(e:Nat)(d:World)(j:kD d c a g):
  bq 125 #[.agg (aN b (.slice c a e)).toArray] d (.tuple #[.slice none 0 0,.int .i64 92]):=by
 have n:=AA<|Below.aJ d (.cells (aN b (.slice c a e)).toArray 39)
 have h:Hid (fC (d.alloc (.cells (aN b (.slice c a e)).toArray 39)) d.heap.size b c a e g):=fC.new j
 have o:Hid ((prog.info? 36).map (·.size)=some (aI b).length):=by show _=_;rw[bQ f];exact iT
 have p:Hid ((d.alloc (.cells (aN b (.slice c a e)).toArray 39)).heap.size=d.heap.size+1):=by show _=_;simp
 have d:=h.row f
 have k:=AA f
 clear f j
 have d:((a:Int)==0)=false:=by simp;omega
 have d:((16:Int) < (a:Int))=False:=eq_false ah
 have f:=AA h0
 have j:=AA i
 clear h0 i
 go_enter BX,ntmps125
 go_wp2_with (first
  |((rw[aF 10];refine bS h.head o AQ ?_))
  |(go_at_call 209;refine(gK b k _).mono ?_;rw[l.out];rintro i l ⟨rfl,b⟩;have d:=AA (h.below b);have h:=d.row k;have h:=AA<|n.trans (b.mono (by rw[p.out];omega));clear b)
  |(go_at_call 126;refine(xR g a f (aC j) c e l d.rA).mono ?_;rintro i c ⟨e,f,g,rfl,a,j,b⟩;have c:=AA (d.below b);have c:=aQ h b;rw[m.out]at a;have b:=U7 a;rw[b]))
 go_ret2
 exact⟨rfl,c⟩
theorem VA(d:bE)(v:d.Ok)(w:List aj)(b:Nat)(α:Hid (gH d=true))(h0:0 < b)(β:b<=16)(g:List aj)(υ:Hid (bK eZ w=some g))(k:Option Addr)(n:Nat)(h:World)(γ:kD h k b w):
  Calls prog 125 #[.agg (aN d (.slice k b n)).toArray] h λf δ=>∃e,f=.returned (.tuple #[e,.int .i64 0])/\av h δ/\δ.ownsRow h.heap.size 5 1 e (115+64*b) (ak (uE d g)):=by
 have φ:=AA<|Below.aJ h (.cells (aN d (.slice k b n)).toArray 39)
 have G:Hid (fC (h.alloc (.cells (aN d (.slice k b n)).toArray 39)) h.heap.size d k b n w):=fC.new γ
 have ε:Hid ((prog.info? 36).map (·.size)=some (aI d).length):=by show _=_;rw[bQ v];exact iT
 have χ:Hid ((h.alloc (.cells (aN d (.slice k b n)).toArray 39)).heap.size=h.heap.size+1):=by show _=_;simp
 have Ò:=G.row v
 have p:=AA v
 clear v γ
 have Ó:((b:Int)==0)=false:=by simp;omega
 have Ô:((16:Int) < (b:Int))=False:=eq_false ah
 have ζ:=AA h0
 have x:=AA β
 clear h0 β
 have Õ:IntKind.u8.wrap (b:Int)=(b:Int):=by have:=x.out;simp[IntKind.wrap,IntKind.bits,IntKind.signed];omega
 have Ö:=AA kM
 have ψ:Hid (∀a:aj,a.length=64->(prog.info? 57).map (·.size)=some (ak a).length):=λa hx=>by rw[aB,hx];exact kK
 have Ø:Hid (∀a:aj,a.length=64->(prog.info? 57).map (·.size)=some (ak a).toArray.size):=λa hx=>by rw[List.size_toArray,aB,hx];exact kK
 have Ù:Hid (∀a:aj,((ak a).toArray.all λe=>e.oneCell')=true):=λa=>by rw[List.all_toArray];exact List.all_eq_true.2 (aY a)
 have Ú:Hid (∀a:aj,a.length=64->(kW:Array Value).size=(ak a).toArray.size):=λa hx=>by show(64:Nat)=(ak a).length;rw[aB,hx]
 have η:Hid (∀a:aj,a.length=32->(prog.info? 23).map (·.size)=some (ak a).length):=λa hx=>by rw[aB,hx];exact kM
 go_enter BX,ntmps125
 go_wp2_with (first
  |((rw[aF 10];refine bS G.head ε AQ ?_))
  |(go_at_call 209;refine(gK d p _).mono ?_;rw[α.out];rintro f ω ⟨rfl,H⟩;have I:=AA (G.below H);have Û:=I.row p;have Γ:=AA<|φ.trans (H.mono (by rw[χ.out];omega));clear H)
  |(go_at_call 126;refine(xR w b ζ (aC x) k n ω I.rA).mono ?_;rintro f i ⟨Δ,Ü,Ý,rfl,J,y,K⟩;have Θ:=AA (I.below K);have θ:=aQ Γ K;rw[υ.out]at J;obtain⟨Ξ,Φ⟩:=JY J;subst Φ;rw[Ξ];have z:=AA y.2.1;have ι:=AA y.1;obtain⟨Þ,ß,L,-,-,-,A,Ψ⟩:=ji.reads y;injection L with L _ Ω;subst L Ω;replace A:=AA A;have à:Hid (Δ < i.heap.size):=(by obtain⟨À,Á,l,hx,-⟩:=A.rd.2 (aC ζ);injection l with l;injection l with M κ;subst M;exact hx);clear J y Ψ K)
  |(go_at_call 130;refine(jy i).mono ?_;rintro f m ⟨rfl,B⟩;have N:Hid (aO m i.heap.size none [] m):=(B ▸ (kX.new i).refl);have Â:Hid (av i m):=(B ▸ Below.aJ i _);have Ã:Hid (m.heap.size=i.heap.size+1):=(by show _=_;rw[B];simp);obtain⟨O,μ⟩:=aS (i.heap.size);rw[μ.out]at N ⊢;have P:Hid (∀ν Q,aO m O none ν Q->av i Q):=(λν Q hx=>Â.trans (hx.below (λá f=>by cases f) (μ.out ▸ AJ _) (by rw[Ã.out];omega)));clear B)
  |(go_at_call 131;refine(ko 33 33 rfl aZ N).mono ?_;rintro f â ⟨rfl,q⟩;replace q:=AA q;have ξ:=AA (Θ.below (P _ _ q));clear N)
  |((rw[aF 36];refine bS ξ.head ε AQ ?_))
  |(go_at_call 210;refine(Qt d p α aZ q).mono ?_;rintro f ã ⟨rfl,C⟩;replace C:=AA C;clear ξ)
  |(go_at_call 131;refine(ko (b:Int) (BitVec.ofNat 8 b) (TS x) (by simp[jZ p.out]) C).mono ?_;rintro f ä ⟨rfl,D⟩;replace D:=AA D;clear q C))
 go_loopw [45] (λe wr=>∃c:Nat,e=.int .i64 (c:Int)/\Hid (c<=b)/\Hid (aO m O none ([]++[33]++dN d++[BitVec.ofNat 8 b]++(g.take c).flatten) wr)) (λe _=>b - (intOf e).toNat)
 case atStart=>exact⟨0,rfl,AX _,by show aO _ _ _ _ _;simpa using D.out⟩
 case round=>
  clear D;obtain⟨c,rfl,R,r⟩:=hrel;have å:(c:Int)<=16:=dn R x;have E:=AA (Sw d p ι z R);by_cases F:c < b
  ·have Ä:(c:Int) < (b:Int):=ah
   have æ:(0:Int)<=(c:Int):=ah;have ο:=AA F;obtain⟨a,hx⟩:∃a,Hid (g[c]?=some a):=⟨_,AV (z.out ▸ F)⟩;have j:=AA (nI.at_ ι hx);(have Å:Hid ((g.take (c+1)).flatten=(g.take c).flatten++[eZ a,LU a].flatten):=by show _=_;rw[List.take_add_one,hx.out,Wl];simp);have S:=AA (P _ _ r);obtain⟨À,Á,l,ç,ρ⟩:=(A.below S).at_ hx;(injection l with l);(injection l with M κ);subst M κ;have Æ:=AA ρ;clear ρ F;obtain⟨T,U⟩:=bG (wr.alloc (.cells (ak a).toArray 57));(have Ç:(storeCells ⟨wr.heap.size,0,none⟩ (ak a)).run prog (wr.alloc (.cells kW 57))=.ok () T:=by rw[U.out,<-zx wr kW (ak a).toArray 57];exact je (aL.new _ _ _) (by show(64:Nat)=(ak a).length;rw[aB,j.out]) (aY a));unfold kW at Ç;(have è:(ak a).length=64:=by rw[aB,j.out]);have σ:Hid (aL T wr.heap.size 57 (ak a).toArray):=U.out ▸ aL.new _ _ _;have È:Hid (aO m O none ([]++[33]++dN d++[BitVec.ofNat 8 b]++(g.take c).flatten) T):=U.out ▸ r.alloc _
   have É:Hid (∀e∈[ak (eZ a),ak (LU a)],e.length=32):=by
    intro e s;simp only[List.mem_cons,List.not_mem_nil,or_false]at s
    rcases s with rfl | rfl
    ·rw[aB,mU j.out]
    ·rw[aB,DV j.out]
   have Ê:Hid (∀Ë∈[eZ a,LU a],Ë.length=32):=by
    intro e s;simp only[List.mem_cons,List.not_mem_nil,or_false]at s
    rcases s with rfl | rfl
    ·exact mU j
    ·exact DV j
   obtain⟨Ì,τ⟩:=bG (([ak (eZ a),ak (LU a)].flatten).toArray)
   go_wp2_with (first
    |((rw[aF 48];refine bS (by have:=Æ.out;simpa using this) (ψ a j) Af ?_))
    |((rw[aF 51];refine vC (wr.heap.size) (0) (ak (eZ a)) (λV u W=>(σ.cell (0+V)).trans (by rw[List.getElem?_toArray];exact uf W)) (η _ (mU j)) AB ?_))
    |((rw[aF 53];refine vC (wr.heap.size) (32) (ak (LU a)) (λV u W=>(σ.cell (32+V)).trans (by rw[List.getElem?_toArray];exact Oo W)) (η _ (DV j)) AB ?_))
    |(rw[bY 54];refine dL (o:=⟨some 54,_,_,_,_,_⟩) rfl 44 23 2 _ rfl 32 aR [ak (eZ a),ak (LU a)] Ac kM jP rfl aR aR É rfl ?_;rw[<-τ.out])
    |(go_at_call 156;rw[show Ì=(([eZ a,LU a].map ak).flatten).toArray from τ.out];refine(pM [eZ a,LU a] 2 rfl Ê (by rw[E.out];omega) È).mono ?_;rintro f Í ⟨rfl,X⟩;replace X:=AA X))
   go_roundw
   case rel=>exact⟨c+1,by go_num,ο,by show aO _ _ _ _ _;rw[Å.out];have:=X.out;simpa using this⟩
   case measure=>(have:=ο.out;simp[intOf];omega)
  ·have Ä:¬((c:Int) < (b:Int)):=ah
   have Î:c=b:=aC R;subst Î;clear F;have S:=AA (P _ _ r);(have Ï:Hid ([]++[33]++dN d++[BitVec.ofNat 8 c]++(g.take c).flatten=uE d g):=by show _=_;unfold uE;rw[List.take_of_length_le (z.out ▸ Nat.le_refl _),z.out];simp);rw[Ï.out]at r E;go_wp2_with (go_at_call 133;refine(T9 (by rw[E.out];omega) r).mono ?_;rintro f Í ⟨e,rfl,Y,t⟩;rw[E.out]at t;obtain⟨Ð,Ñ,rfl,-⟩:=Own.reads t;replace t:=AA t;replace Y:=AA Y);go_ret2;have Z:=θ.trans (S.mono θ.size);exact⟨.slice Ð (115+64*c) Ñ,rfl,Z.trans (Y.mono Z.size),cO t Z.size⟩
def h0:bE:=⟨List.replicate 32 0,0,List.replicate 32 0,List.replicate 32 0,0⟩
def Dm:Array Value:=#[Value.int IntKind.u8 0,Value.int IntKind.u8 0,Value.int IntKind.u8 0,Value.int IntKind.u8 0,Value.int IntKind.u8 0,Value.int IntKind.u8 0,Value.int IntKind.u8 0,Value.int IntKind.u8 0,Value.int IntKind.u8 0,Value.int IntKind.u8 0,Value.int IntKind.u8 0,Value.int IntKind.u8 0,Value.int IntKind.u8 0,Value.int IntKind.u8 0,Value.int IntKind.u8 0,Value.int IntKind.u8 0,Value.int IntKind.u8 0,Value.int IntKind.u8 0,Value.int IntKind.u8 0,Value.int IntKind.u8 0,Value.int IntKind.u8 0,Value.int IntKind.u8 0,Value.int IntKind.u8 0,Value.int IntKind.u8 0,Value.int IntKind.u8 0,Value.int IntKind.u8 0,Value.int IntKind.u8 0,Value.int IntKind.u8 0,Value.int IntKind.u8 0,Value.int IntKind.u8 0,Value.int IntKind.u8 0,Value.int IntKind.u8 0,Value.int IntKind.i64 0,Value.int IntKind.u8 0,Value.int IntKind.u8 0,Value.int IntKind.u8 0,Value.int IntKind.u8 0,Value.int IntKind.u8 0,Value.int IntKind.u8 0,Value.int IntKind.u8 0,Value.int IntKind.u8 0,Value.int IntKind.u8 0,Value.int IntKind.u8 0,Value.int IntKind.u8 0,Value.int IntKind.u8 0,Value.int IntKind.u8 0,Value.int IntKind.u8 0,Value.int IntKind.u8 0,Value.int IntKind.u8 0,Value.int IntKind.u8 0,Value.int IntKind.u8 0,Value.int IntKind.u8 0,Value.int IntKind.u8 0,Value.int IntKind.u8 0,Value.int IntKind.u8 0,Value.int IntKind.u8 0,Value.int IntKind.u8 0,Value.int IntKind.u8 0,Value.int IntKind.u8 0,Value.int IntKind.u8 0,Value.int IntKind.u8 0,Value.int IntKind.u8 0,Value.int IntKind.u8 0,Value.int IntKind.u8 0,Value.int IntKind.u8 0,Value.int IntKind.u8 0,Value.int IntKind.u8 0,Value.int IntKind.u8 0,Value.int IntKind.u8 0,Value.int IntKind.u8 0,Value.int IntKind.u8 0,Value.int IntKind.u8 0,Value.int IntKind.u8 0,Value.int IntKind.u8 0,Value.int IntKind.u8 0,Value.int IntKind.u8 0,Value.int IntKind.u8 0,Value.int IntKind.u8 0,Value.int IntKind.u8 0,Value.int IntKind.u8 0,Value.int IntKind.u8 0,Value.int IntKind.u8 0,Value.int IntKind.u8 0,Value.int IntKind.u8 0,Value.int IntKind.u8 0,Value.int IntKind.u8 0,Value.int IntKind.u8 0,Value.int IntKind.u8 0,Value.int IntKind.u8 0,Value.int IntKind.u8 0,Value.int IntKind.u8 0,Value.int IntKind.u8 0,Value.int IntKind.u8 0,Value.int IntKind.u8 0,Value.int IntKind.u8 0,Value.int IntKind.u8 0,Value.int IntKind.u8 0,Value.int IntKind.i64 0,Value.slice none 0 0]
theorem yw:Dm.size=99:=by kernel_rfl
theorem Rt:(prog.info? 39).map (·.size)=some 99:=by kernel_rfl
theorem FI(a:List (Nat×Value)):prog.built 39 a=Instr.fill (#[((0:Nat),(98:Nat)),(98,1)][·]?) (tL.toList++[Value.slice none 0 0]).toArray a:=by kernel_rfl
theorem J9{a:bE}(d:a.Ok)(A:Option Addr)(b c:Nat)(w:World):(Instr.build 39 #[(0,.agg (aI a).toArray),(1,.slice A b c)]).run prog w=.ok (.agg (aN a (.slice A b c)).toArray) w:=by
 refine run_build w _ _ _ ?_;rw[FI];have e:=gT (place:=(#[((0:Nat),(98:Nat)),(98,1)][·]?)) (i:=0) (v:=.agg (aI a).toArray) (xs:=aI a) (old:=tL.toList) (pre:=[]) (post:=[.slice none 0 0]) (rest:=[(1,.slice A b c)]) rfl rfl (bQ d) rfl (by rw[Array.length_toList];exact yx);have f:=gT (place:=(#[((0:Nat),(98:Nat)),(98,1)][·]?)) (i:=1) (v:=.slice A b c) (xs:=[.slice A b c]) (old:=[.slice none 0 0]) (pre:=aI a) (post:=[]) (rest:=[]) rfl rfl rfl (bQ d) rfl;rw[List.nil_append,List.nil_append]at e;rw[List.append_nil,List.append_nil,pK]at f;exact e.trans f
theorem PO{a:bE}(d:a.Ok)(w:World):(Instr.build 39 #[(0,.agg (aI a).toArray)]).run prog w=.ok (.agg (aN a (.slice none 0 0)).toArray) w:=by
 refine run_build w _ _ _ ?_;rw[FI];have b:=gT (place:=(#[((0:Nat),(98:Nat)),(98,1)][·]?)) (i:=0) (v:=.agg (aI a).toArray) (xs:=aI a) (old:=tL.toList) (pre:=[]) (post:=[.slice none 0 0]) (rest:=[]) rfl rfl (bQ d) rfl (by rw[Array.length_toList];exact yx);rw[List.nil_append,List.nil_append,pK]at b;exact b
theorem jR{a:bE}(b:a.Ok)(d:Value):(prog.info? 39).map (·.size)=some (aN a d).toArray.size:=by rw[List.size_toArray,dY b];exact Rt
theorem qL{h:bE}(A:Option Addr)(a c:Nat):(aN h (.slice A a c)).toArray.all (λb=>b.oneCell')=true:=by
 rw[List.all_toArray];refine List.all_eq_true.2 λb a=>?_
 rcases Aj.1 a with a | a
 ·exact sD h b a
 ·simp only[List.mem_singleton]at a
  subst a;rfl
theorem zY{a:bE}(d:a.Ok)(b:Value):Dm.size=(aN a b).toArray.size:=yw.trans (show 99=(aN a b).length from(dY d b).symm)
theorem PE(z:Array Value)(h:z.size=64)(a b:List Value)(hx:a.length=32)(i:b.length=32):
  Instr.fill (#[((0:Nat),(32:Nat)),(32,32)][·]?) z [(0,.agg a.toArray),(1,.agg b.toArray)]=some (a++b).toArray:=by
 have e:=Great.fill_whole (s:=32) ah [.agg a.toArray,.agg b.toArray] z (λf d=>by
  rcases Ag.1 d with rfl | d
  ·exact hx
  ·rcases Ag.1 d with rfl | d
   ·exact i
   ·cases d) (by rw[h];rfl)
 have d:([Value.agg a.toArray,.agg b.toArray].flatMap λf=>f.cells.toList)=a++b:=by
  simp[Value.cells]
 rw[d]at e
 exact e
theorem Cr(a:List (Nat×Value)):prog.built 57 a=Instr.fill (#[((0:Nat),(32:Nat)),(32,32)][·]?) (Array.replicate 64 (.int .u8 0)) a:=by kernel_rfl
structure DN(w0 w:World)(g gh:Nat)(q:aj)(A:Option Addr)(c need:Nat)(hc:Array Value):Prop where
 rd:Rd w g q A c need
 res:aL w w0.heap.size 39 Dm
 head:aL w gh 36 hc
 below:av w0 w
 hg:w0.heap.size < g
 hh:w0.heap.size < gh
 ne:g≠gh
section
variable {w0 w w':World} {g gh c need need':Nat} {q:aj} {A:Option Addr} {hc:Array Value}
theorem DN.call(a:DN w0 w g gh q A c need hc)(d:Rd w' g q A c need')(b:au (·=g) w w'):DN w0 w' g gh q A c need' hc:=
 ⟨d,a.res.kept b (aC a.hg),a.head.kept b (λe=>a.ne e.symm),a.below.trans (au.aW b (aC a.hg) a.below.size),a.hg,a.hh,a.ne⟩
theorem DN.far(a:DN w0 w g gh q A c need hc)(b:av w w'):DN w0 w' g gh q A c need hc:=
 ⟨a.rd.below b,a.res.kept (S:=λ_=>False) (au.of_below b) (λd=>d),a.head.kept (S:=λ_=>False) (au.of_below b) (λd=>d),a.below.trans (b.mono a.below.size),a.hg,a.hh,a.ne⟩
theorem DN.off{b:Nat}(a:DN w0 w g gh q A c need hc)(d:au (·=b) w w')(j:w0.heap.size < b)(f:g≠b)(h:gh≠b)(i:0 < q.length->∀e,A=some e->e.block < b):DN w0 w' g gh q A c need hc:=
 ⟨a.rd.O4 d f (λh0 e b j=>by have:=i h0 e b;omega),a.res.kept d ah,a.head.kept d h,a.below.trans (au.aW d ah a.below.size),a.hg,a.hh,a.ne⟩
theorem DN.end_(b:DN w0 w g gh q A c need hc)(a:Array Value):av w0 (w.setRow w0.heap.size a):=below_setRow b.below (AJ _) a
end
structure Yg(w0 w:World)(g:Nat)(q:aj)(A:Option Addr)(c need:Nat):Prop where
 rd:Rd w g q A c need
 res:aL w w0.heap.size 39 Dm
 below:av w0 w
 hg:w0.heap.size < g
section
variable {w0 w w':World} {g c need need':Nat} {q:aj} {A:Option Addr} {hc:Array Value}
theorem Yg.call(a:Yg w0 w g q A c need)(d:Rd w' g q A c need')(b:au (·=g) w w'):Yg w0 w' g q A c need':=
 ⟨d,a.res.kept b (aC a.hg),a.below.trans (au.aW b (aC a.hg) a.below.size),a.hg⟩
theorem Yg.head(h:Yg w0 w g q A c need){a:Obj}(b:au (·=w.heap.size) (w.alloc a) w')(d:aL w' w.heap.size 36 hc):DN w0 w' g w.heap.size q A c need hc:=by
 have a:=HY b;have b:=h.rd.lt;exact⟨h.rd.below a,h.res.kept (S:=λ_=>False) (au.of_below a) (λb=>b),d,h.below.trans (a.mono h.below.size),h.hg,by have:=h.res.lt;exact this,ah⟩
end
theorem aK{w a:World}{b c d e:Nat}{f:Value}{g:List Value}(h:w.ownsRow b c d f e g)(i:av w a):a.ownsRow b c d f e g:=by
 refine⟨h.1,h.2.imp id λ⟨a,c,d,e,f,b,g⟩=>⟨a,c,d,e,f,?_,g⟩⟩;rw[i.block a (Array.getElem?_eq_some_iff.1 b).1,b]
theorem xL:((prog.info? 23).bind (·.zero)).isSome=true:=by kernel_rfl
theorem EU{b:World}{e a:Nat}{c:Value}{ds:List aj}(f:b.ownsRow e 23 32 c a (ds.flatMap ak))(hd:jk ds)(g:ds.length=a)(d:Option Addr)(h:Nat)(i:c=.slice d a h):j6 b d a ds:=by
 obtain⟨c,d,a,_,_,_,b,_⟩:=Own.reads f;rw[i]at a;(injection a with c d e);subst c;exact⟨g,hd,b⟩
def dw:aj:=[165,90,165]++List.replicate 29 0
theorem Nn:dw.length=32:=rfl
def bP(size i:Int):Bool:=decide (1<=size)&&decide (size<=1099511627776)&&decide (0<=i)&&decide (i < size)
theorem xZ(a b:Int)(c:World):Calls prog 268 #[.int .i64 a,.int .i64 b] c λd e=>d=.returned (.bool (bP a b))/\c=e:=by
 have g:Hid (bP a b=(decide (1<=a)&&decide (a<=1099511627776)&&decide (0<=b)&&decide (b < a))):=rfl;generalize bP a b=c at*
 rcases Bool.eq_false_or_eq_true (decide (1<=a))with c | c<;>rcases Bool.eq_false_or_eq_true (decide (a<=1099511627776))with d | d<;>rcases Bool.eq_false_or_eq_true (decide (0<=b))with e | e<;>rcases Bool.eq_false_or_eq_true (decide (b < a))with f | f
 all_goals
  have a:=AA c
  have b:=AA d
  have c:=AA e
  have d:=AA f
  go_enter func268,ntmps268
  go_wp2_with fail
  go_ret
  refine⟨?_,rfl⟩
  rw[g.out,a.out,b.out,c.out,d.out]
  rfl
def bM(p:Nat×Nat):List Value:=[.int .i64 (p.1:Int),.int .i64 (p.2:Int)]
def dU(l:List (Nat×Nat)):List Value:=l.flatMap bM
theorem lW(a:List (Nat×Nat))(b:Nat×Nat):dU (a++[b])=dU a++bM b:=by simp[dU]
theorem kP(b:Nat×Nat):∀a∈bM b,a.oneCell'=true:=by
 intro a b;simp only[bM,List.mem_cons,List.not_mem_nil,or_false]at b
 rcases b with rfl | rfl<;>rfl
theorem SL:(prog.info? 380).map (λa=>(a.zero,a.size,a.bytes))=some (some (.agg #[.int .i64 0,.int .i64 0]),2,16):=by kernel_rfl
theorem uV:(prog.info? 380).map (·.size)=some 2:=by kernel_rfl
theorem Gp:((prog.info? 380).bind (·.zero)).isSome=true:=by kernel_rfl
def sd(i:Nat)(p:Nat×Nat):Bool:=decide (i < p.1)
structure FV(w:World)(B size i:Nat)(wr:World)(l:Value)(gp a b:Nat)(acc:List (Nat×Nat)):Prop where
 blk:aL wr gp 380 #[.int .i64 (a:Int),.int .i64 (b:Int)]
 own:wr.ownsRow B 380 2 l acc.length (dU acc)
 below:Below B w wr
 lo:B<=gp
 apart:∀k,l.ownBlock=some k->k≠gp
 ai:a<=i
 ib:i < b
 bs:b<=size
 sides:sides size i=sides (b - a) (i - a)++(acc.map (sd i)).reverse
 few:acc.length+(b - a)<=size
theorem Hq(a:World)(b c:Nat)(u:Value):a.grownBy (a.setCell ⟨b,c,none⟩ u) (some b):=⟨rfl,rfl,rfl,by simp,λd _ e=>heap_setCell_other a ⟨b,c,none⟩ d u (λf=>e (by simp[f]))⟩
theorem FV.next{m wr a:World}{i n b e j o f c d:Nat}{t k u:Value}{g:List (Nat×Nat)}{l:Nat×Nat}(p:FV m i n b wr t e j o g)(v:Below i m a)(r:a.ownsRow i 380 2 k (g.length+1) (dU (g++[l])))
  (w:∀h,k.ownBlock=some h->h≠e)(s:i<=a.heap.size)(x:c<=b)(y:b < d)(z:d<=n)(A:YtgldkfaiofkhbaaGreatDoor.sides (o - j) (b - j)=YtgldkfaiofkhbaaGreatDoor.sides (d - c) (b - c)++[sd b l])(C:d - c+1<=o - j):
  FV m i n b ((a.setCell ⟨e,f,none⟩ u).alloc (.cells #[.int .i64 (c:Int),.int .i64 (d:Int)] 380)) k a.heap.size c d (g++[l]):=by
 have hs:(a.setCell ⟨e,f,none⟩ u).heap.size=a.heap.size:=by simp
 refine⟨?_,?_,?_,s,λh q=>?_,x,y,z,?_,?_⟩
 ·have:=aL.new (a.setCell ⟨e,f,none⟩ u) 380 #[.int .i64 (c:Int),.int .i64 (d:Int)]
  rwa[hs]at this
 ·rw[show(g++[l]).length=g.length+1 by simp]
  refine World.ownsRow.alloc (World.ownsRow.kept r (Hq a e f u) ?_) _;cases q:k.ownBlock with
  | none=>exact .inl rfl
  | some h=>exact .inr (λB=>w h q (AL B))
 ·exact(v.setCell p.lo u).alloc (hs ▸ s) _
 ·have:=(r.lt h q).2
  omega
 ·rw[p.sides,A,List.map_append,List.reverse_append,List.append_assoc]
  rfl
 ·have:=p.few
  rw[List.length_append];simp only[List.length_cons,List.length_nil];omega
theorem iI{a:Nat}(b:a<=1099511627776):a<=maxLen/\a*16<=140737488355328:=by unfold maxLen;omega
def rv(ps:List (Nat×Nat))(i:Nat):List (Nat×Nat):=(List.range ps.length).map λt=>if t < i\/ps.length - 1 - i < t then ps.getD (ps.length - 1 - t) (0,0)else ps.getD t (0,0)
theorem pU(a:List (Nat×Nat))(b:Nat):(rv a b).length=a.length:=by simp[rv]
theorem GD(a:List (Nat×Nat))(c b:Nat)(d:b < a.length):(rv a c)[b]?=some (if b < c\/a.length - 1 - c < b then a.getD (a.length - 1 - b) (0,0)else a.getD b (0,0)):=by
 unfold rv;rw[List.getElem?_map,List.getElem?_range d];rfl
theorem UE(a:List (Nat×Nat)):rv a 0=a:=by
 apply List.ext_getElem?;intro c;by_cases b:c < a.length
 ·rw[GD a 0 c b,if_neg ah,List.getElem?_eq_getElem b,List.getD_eq_getElem?_getD,List.getElem?_eq_getElem b]
  rfl
 ·rw[List.getElem?_eq_none (by rw[pU];omega),List.getElem?_eq_none ah]
theorem UG(a:List (Nat×Nat))(c:Nat)(b:a.length<=2*c+1):rv a c=a.reverse:=by
 apply List.ext_getElem?;intro b;by_cases d:b < a.length
 ·rw[GD a c b d,List.getElem?_reverse d]
  by_cases e:b < c\/a.length - 1 - c < b
  ·rw[if_pos e,List.getD_eq_getElem?_getD,List.getElem?_eq_getElem ah]
   rfl
  ·rw[if_neg e,show a.length - 1 - b=b by omega,List.getD_eq_getElem?_getD,List.getElem?_eq_getElem d]
   rfl
 ·rw[List.getElem?_eq_none (by rw[pU];omega),List.getElem?_eq_none (by rw[List.length_reverse];omega)]
theorem UF(b:List (Nat×Nat))(a c:Nat)(g:a+c+1=b.length)(h:a < c)(d e:Nat×Nat)(hx:(rv b a)[a]?=some d)(f:(rv b a)[c]?=some e):((rv b a).set a e).set c d=rv b (a+1):=by
 rw[GD b a a ah,if_neg ah]at hx;rw[GD b a c ah,if_neg ah]at f;apply List.ext_getElem?;intro d;by_cases e:d < b.length
 ·rw[GD b (a+1) d e,List.getElem?_set]
  by_cases g:c=d
  ·subst g
   rw[if_pos rfl,if_pos (by rw[List.length_set,pU];exact e),if_pos ah,<-hx,show b.length - 1 - c=a by omega]
  ·rw[if_neg g,List.getElem?_set]
   by_cases g:a=d
   ·subst g
    rw[if_pos rfl,if_pos (by rw[pU];exact e),if_pos ah,<-f,show b.length - 1 - a=c by omega]
   ·rw[if_neg g,GD b a d e]
    by_cases c:d < a\/b.length - 1 - a < d
    ·rw[if_pos c,if_pos ah]
    ·rw[if_neg c,if_neg ah]
 ·rw[List.getElem?_eq_none (by simp[pU];omega),List.getElem?_eq_none (by rw[pU];omega)]
theorem nD(a:List (Nat×Nat)):(dU a).length=a.length*2:=by
 induction a with
 | nil=>rfl
 | cons c a b=>simp only[dU,List.flatMap_cons,List.length_append,List.length_cons]at b ⊢;rw[b];simp[bM];omega
theorem Fw:∀(b:List (Nat×Nat)) (a:Nat),(dU b).take (a*2)=dU (b.take a)
 | [],a=>by simp[dU]
 | c :: b,0=>by simp[dU]
 | c :: b,a+1=>by
  have d:=Fw b a;simp only[dU,List.flatMap_cons,List.take_succ_cons]at d ⊢;rw[List.take_append,List.take_of_length_le (by simp[bM];omega),show(a+1)*2 - (bM c).length=a*2 by simp[bM];omega,d]
theorem yh:∀(b:List (Nat×Nat)) (a:Nat),(dU b).drop (a*2)=dU (b.drop a)
 | [],a=>by simp[dU]
 | c :: b,0=>by simp[dU]
 | c :: b,a+1=>by
  have d:=yh b a;simp only[dU,List.flatMap_cons,List.drop_succ_cons]at d ⊢;rw[List.drop_append,List.drop_of_length_le (by simp[bM];omega),show(a+1)*2 - (bM c).length=a*2 by simp[bM];omega,d,List.nil_append]
theorem Ht(b:List (Nat×Nat))(rest:List Value)(a:Nat)(d:a < b.length)(c:Nat×Nat):(((dU b++rest).toArray.toList.take (a*2)++(bM c).toArray.toList++(dU b++rest).toArray.toList.drop (a*2+(bM c).toArray.size)).toArray)=(dU (b.set a c)++rest).toArray:=by
 have e:(bM c).toArray.size=2:=rfl;have c:=nD b;rw[e,List.toList_toArray,List.toList_toArray,List.take_append_of_le_length ah,List.drop_append_of_le_length ah,Fw,show a*2+2=(a+1)*2 by omega,yh,List.set_eq_take_append_cons_drop,if_pos d];simp[dU]
theorem za(a:List (Nat×Nat))(rest:List Value)(b:Nat)(d:Nat×Nat)(e:a[b]?=some d)(c:Nat)(f:Value)(g:(bM d)[c]?=some f):(dU a++rest).toArray[b*2+c]?=some f:=by
 have f:=(AU.1 e).1;have h:c < 2:=(AU.1 g).1;rw[List.getElem?_toArray,List.getElem?_append_left (by rw[nD];omega)];have h:=yh a b;(have i:(dU a)[b*2+c]?=((dU a).drop (b*2))[c]?:=by rw[List.getElem?_drop]);rw[i,h,List.drop_eq_getElem_cons f];(have c:a[b]=d:=by rw[List.getElem?_eq_getElem f]at e;exact AL e);rw[c];simp only[dU,List.flatMap_cons];rw[List.getElem?_append_left (by simp[bM];omega)];exact g
theorem Ii(b:Option Addr)(c:Nat)(a:World):Calls prog 293 #[.slice b 0 c] a λd e=>d=.returned (.tuple #[])/\a=e:=by
 (go_enter func293,ntmps293);go_wp2_with fail;refine wp_loop_once ?_;go_wp2_with fail
 go_end0
 exact⟨rfl,rfl⟩
theorem Ij(b:List (Nat×Nat))(d:Nat)(c:b.length=d)(k:1<=d)(e:d<=1099511627776)(a l:Nat)(rest:List Value)(g:World)(h:aL g a 380 (dU b++rest).toArray):
  Calls prog 293 #[.slice (some ⟨a,0,none⟩) d l] g λm f=>m=.returned (.tuple #[])/\aL f a 380 (dU b.reverse++rest).toArray/\au (·=a) g f:=by
 have l:=AA c
 have f:=AA e
 have h0:Hid (aL g a 380 (dU (rv b 0)++rest).toArray):=by show aL _ _ _ _;rw[UE];exact h
 have f:(1:Int)<=(d:Int):=ah
 have f:(d:Int)<=1099511627776:=ah
 obtain⟨f,r⟩:∃f,Hid (d=f+1):=⟨d - 1,by show _=_;omega⟩
 have m:(d:Int) - 1=(f:Int):=aC r
 clear c e h k
 go_enter func293,ntmps293
 go_wp2_with fail
 go_loopw [2,3] (λu h wr=>∃i:Nat,u=.int .i64 (i:Int)/\h=.int .i64 ((f:Int) - (i:Int))/\Hid (2*i<=d)/\Hid (aL wr a 380 (dU (rv b i)++rest).toArray)/\Hid (au (·=a) g wr)) (λu _ _=>d - (intOf u).toNat)
 case atStart=>exact⟨0,rfl,by simp,AX _,h0,au.refl _ _⟩
 case round=>
  clear h0;obtain⟨i,rfl,rfl,s,t,k⟩:=hrel;by_cases x:2*i < f
  ·obtain⟨j,n⟩:∃j,Hid (i+j=f):=⟨f - i,by show _=_;omega⟩
   rw[show(f:Int) - (i:Int)=(j:Int) by have:=n.out;omega];have c:(0:Int)<=(i:Int):=ah;have t1:(0:Int)<=(j:Int):=ah;have t2:(i:Int) < (j:Int):=aC n;have H:(j:Int) < (d:Int):=dn n r;have c:(i:Int) < (d:Int):=ah;obtain⟨e,hx⟩:∃e,(rv b i)[i]?=some e:=⟨_,AV (by rw[pU,l.out];omega)⟩;obtain⟨c,o⟩:∃c,(rv b i)[j]?=some c:=⟨_,AV (by rw[pU,l.out];omega)⟩;have p:=AA (UF b i j (pV l n r) ah e c hx o);have A:=AA (za (rv b i) rest i e hx);have B:=AA (za (rv b i) rest j c o);have C:=AA (Ht (rv b i) rest i (by rw[pU,l.out];omega) c);have w:=AA (Ht ((rv b i).set i c) rest j (by rw[List.length_set,pU,l.out];omega) e)
   have D:Hid (i*2+(bM c).toArray.size<=(dU (rv b i)++rest).toArray.size):=by
    show _<=_;have m:(bM c).toArray.size=2:=rfl;rw[m,List.size_toArray,List.length_append,nD,pU,l.out];omega
   have E:Hid (j*2+(bM e).toArray.size<=(dU ((rv b i).set i c)++rest).toArray.size):=by
    show _<=_;have m:(bM e).toArray.size=2:=rfl;rw[m,List.size_toArray,List.length_append,nD,List.length_set,pU,l.out];omega
   have m:=AA uV;(have v:Hid (2*(i+1)<=d):=by have:=r.out;show _<=_;omega);(have q:∀d:Nat×Nat,(bM d).toArray.all (·.oneCell')=true:=λd=>by rw[List.all_toArray];exact List.all_eq_true.2 (kP d));replace q:=AA q;(have F:Hid ((f:Int) - ((i+1:Nat):Int)=(j:Int) - 1):=by have:=n.out;show _=_;omega);rw[p.out]at w;clear p hx o x s;go_wp2_with fail;have n:=AA t.drew;have G:=AA k.drew;clear t k;refine dI (λ_=>True) 16 ?_;refine aH 0 trivial ?_;refine aH 1 trivial ?_;refine aH 2 trivial ?_;refine aH 3 trivial ?_;refine aH 4 trivial ?_;refine aH 5 trivial ?_;refine aH 6 trivial ?_;refine aH 8 trivial ?_;refine aH 9 trivial ?_;refine aH 10 trivial ?_;refine iP (i:=7) (j:=11) rfl rfl bH (by rfl) (by rfl) (λK k=>?_) (λK k=>?_)
   ·refine mF 380 (.tmp 20) rfl a (j*2) rfl (bM c) _ (λd h o=>(n.cell (j*2+d)).trans (B d h o)) BP rfl m ?_
    go_simp;refine k _ _ trivial ?_;clear k K;refine aU 11 ?_;refine mF 380 (.tmp 24) rfl a (i*2) rfl (bM e) _ (λd h o=>(n.cell (i*2+d)).trans (A d h o)) BP rfl m ?_;refine aV trivial ?_;refine aH 12 trivial ?_;refine aU 13 ?_;refine oQ 380 (.tmp 26) (.tmp 21) rfl a (i*2) (bM c).toArray rfl rfl 380 _ n m D (q c) ?_;rw[C.out];have s:Hid (aL (wr.drew.setRow a (dU ((rv b i).set i c)++rest).toArray) a 380 (dU ((rv b i).set i c)++rest).toArray):=setRow_heap _ _ _ _ _ _ n;have x:Hid (au (·=a) g (wr.drew.setRow a (dU ((rv b i).set i c)++rest).toArray)):=au.setRow G rfl _;generalize wr.drew.setRow a (dU ((rv b i).set i c)++rest).toArray=p at*;refine aV trivial ?_;refine aH 14 trivial ?_;refine aU 15 ?_;refine oQ 380 (.tmp 27) (.tmp 25) rfl a (j*2) (bM e).toArray rfl rfl 380 _ s m E (q e) ?_;rw[w.out];have y:Hid (aL (p.setRow a (dU (rv b (i+1))++rest).toArray) a 380 (dU (rv b (i+1))++rest).toArray):=setRow_heap _ _ _ _ _ _ s;have z:Hid (au (·=a) g (p.setRow a (dU (rv b (i+1))++rest).toArray)):=au.setRow x rfl _;generalize p.setRow a (dU (rv b (i+1))++rest).toArray=I at*;refine aV trivial ?_;refine bT ?_;go_wp2_with fail;go_roundw
    case rel=>exact⟨i+1,by go_num,by rw[F.out],v,y,z⟩
    case measure=>(have:=v.out;simp[intOf];omega)
   ·refine mF 380 (.tmp 24) rfl a (i*2) rfl (bM e) _ (λd h o=>(n.cell (i*2+d)).trans (A d h o)) BP rfl m ?_
    go_simp;refine k _ _ trivial ?_;clear k K;refine aU 7 ?_;refine mF 380 (.tmp 20) rfl a (j*2) rfl (bM c) _ (λd h o=>(n.cell (j*2+d)).trans (B d h o)) BP rfl m ?_;refine aV trivial ?_;refine aH 12 trivial ?_;refine aU 13 ?_;refine oQ 380 (.tmp 26) (.tmp 21) rfl a (i*2) (bM c).toArray rfl rfl 380 _ n m D (q c) ?_;rw[C.out];have s:Hid (aL (wr.drew.setRow a (dU ((rv b i).set i c)++rest).toArray) a 380 (dU ((rv b i).set i c)++rest).toArray):=setRow_heap _ _ _ _ _ _ n;have x:Hid (au (·=a) g (wr.drew.setRow a (dU ((rv b i).set i c)++rest).toArray)):=au.setRow G rfl _;generalize wr.drew.setRow a (dU ((rv b i).set i c)++rest).toArray=p at*;refine aV trivial ?_;refine aH 14 trivial ?_;refine aU 15 ?_;refine oQ 380 (.tmp 27) (.tmp 25) rfl a (j*2) (bM e).toArray rfl rfl 380 _ s m E (q e) ?_;rw[w.out];have y:Hid (aL (p.setRow a (dU (rv b (i+1))++rest).toArray) a 380 (dU (rv b (i+1))++rest).toArray):=setRow_heap _ _ _ _ _ _ s;have z:Hid (au (·=a) g (p.setRow a (dU (rv b (i+1))++rest).toArray)):=au.setRow x rfl _;generalize p.setRow a (dU (rv b (i+1))++rest).toArray=I at*;refine aV trivial ?_;refine bT ?_;go_wp2_with fail;go_roundw
    case rel=>exact⟨i+1,by go_num,by rw[F.out],v,y,z⟩
    case measure=>(have:=v.out;simp[intOf];omega)
  ·have t2:(f:Int) - (i:Int)<=(i:Int):=ah
   have hd:=AA (UG b i (dn l r));rw[hd.out]at t;have H:decide ((i:Int) < (f:Int) - (i:Int))=false:=AP ah;go_wp2_with fail
   go_end0
   exact⟨rfl,t,k⟩
theorem JJ(w l:Nat)(hs:w<=1099511627776)(Ì:l < w)(x:World):
  Calls prog 269 #[.int .i64 (w:Int),.int .i64 (l:Int)] x λg i=>∃(v:Value) (δ:List (Nat×Nat)),g=.returned v/\δ.map (sd l)=sides w l/\i.ownsRow x.heap.size 380 2 v δ.length (dU δ)/\Below x.heap.size x i:=by
 obtain⟨ψ,ω,Γ,Δ,Θ⟩:=bV SL
 obtain⟨j,ε⟩:∃j,x.heap.size=j:=⟨_,rfl⟩
 have y:=AA hs
 have h0:Hid (FV x j w l (x.alloc (.cells #[.int .i64 ((0:Nat):Int),.int .i64 (w:Int)] 380)) (.slice none 0 0) j 0 w []):=by
  refine⟨?_,Aa _ _ _ _,?_,AJ _,(λa g=>by cases g),AX _,Ì,AJ _,by simp,by simp⟩
  ·rw[<-ε];exact aL.new x _ _
  ·rw[<-ε];exact Below.aJ x _
 rw[ε]
 clear hs
 go_enter func269,ntmps269
 go_wp2_with fail
 go_loopw [5,6] (λζ p wr=>∃(η:Value) (m d f:Nat) (c:List (Nat×Nat)),ζ=η/\p=.pointer (some ⟨m,0,none⟩)/\Hid (FV x j w l wr η m d f c)) (λζ _ _=>match ζ with | .slice _ Í _=>w+1 - Í | _=>0)
 case atStart=>exact⟨_,j,0,w,[],rfl,rfl,h0.out⟩
 case round=>
  clear h0;obtain⟨η,m,d,f,c,Ξ,rfl,V⟩:=hrel;rw[Ξ];clear Ξ;have b:=V.out;obtain⟨N,cl,rfl,-,-,-,-,-⟩:=Own.reads b.own;have Φ:=b.blk.cell 0;have Ψ:=b.blk.cell 1;have W:=b.ai;have X:=b.ib;have Y:=b.bs;obtain⟨n,O⟩:∃n,f - d=n:=⟨_,rfl⟩;have Î:(f:Int) - (d:Int)=(n:Int):=ah;have á:(0:Int)<=(d:Int):=ah;have â:(f:Int)<=1099511627776:=aC y;by_cases G:2<=n
  ·have Ï:(1:Int) < (n:Int):=ah
   have θ:=fK G;have ι:=iQ n;have κ:=AA (λi=>nU n G (aC y) i);obtain⟨q,μ⟩:∃q,ay n=q:=⟨_,rfl⟩;rw[μ]at κ θ ι;obtain⟨a,Ω⟩:∃a,d+q=a:=⟨_,rfl⟩;have Ð:(d:Int)+(q:Int)=(a:Int):=ah;(have ã:IntKind.i64.wrap ((f:Int) - (d:Int))=(n:Int):=by rw[Î];exact AO _ (aC y));(have ä:IntKind.i64.wrap ((d:Int)+(q:Int))=(a:Int):=by rw[Ð];exact AO _ (aC y));have å:=AO (n:Int) (aC y);have æ:=AO (a:Int) (aC y);(have Z:Hid (∀i,aA wr i->i.cell? ⟨m,0,none⟩=some (.int .i64 (d:Int))/\i.cell? ⟨m,1,none⟩=some (.int .i64 (f:Int))):=λi k=>⟨(k.below.cell (p:=⟨m,0,none⟩) b.blk.lt).trans Φ,(k.below.cell (p:=⟨m,1,none⟩) b.blk.lt).trans Ψ⟩);(have α:Hid (1<=f - d):=by show 1<=_;omega);have z:Hid (d<=l/\l < f/\f<=w/\f - d=n/\d+q=a/\ay n=q/\q < n/\0 < q/\2<=n):=⟨W,X,Y,O,Ω,μ,θ,ι,G⟩;clear W X Y O Ω μ θ ι G;replace b:=V;go_wp2_with fail;refine cB (aA wr) (aA.jD ((Below.refl _ _).drew)) ?_;refine bD (v:=.pointer (some ⟨m,0,none⟩)) rfl (λi k=>by go_simp) ?_;(intro K e;go_simp;refine e _ ?_;clear e K);refine bD (v:=.int .i64 (d:Int)) rfl (λi k=>by have À:=(Z.out i k).1;go_simp) ?_;(intro K e;go_simp;refine e _ ?_;clear e K);refine bD (v:=.pointer (some ⟨m,1,none⟩)) rfl (λi k=>by go_simp) ?_;(intro K e;go_simp;refine e _ ?_;clear e K);refine bD (v:=.int .i64 (f:Int)) rfl (λi k=>by have À:=(Z.out i k).2;go_simp) ?_;(intro K e;go_simp;refine e _ ?_;clear e K);refine bD (v:=.pointer (some ⟨m,0,none⟩)) rfl (λi k=>by go_simp) ?_;(intro K e;go_simp;refine e _ ?_;clear e K);refine bD (v:=.int .i64 (d:Int)) rfl (λi k=>by have À:=(Z.out i k).1;go_simp) ?_;(intro K e;go_simp;refine e _ ?_;clear e K);refine bD (v:=.int .i64 (n:Int)) rfl (λi k=>by go_simp) ?_;(intro K e;go_simp;refine e _ ?_;clear e K);refine MV (v:=.int .i64 (q:Int)) (args:=#[.int .i64 (n:Int)]) rfl _ _ rfl rfl func292 bH bH (λi k=>(κ.out i).mono (λg ç ⟨P,L⟩=>⟨P,by rw[<-L];exact k⟩)) ?_;(intro K e;go_simp;refine e _ ?_;clear e K);refine bD (v:=.int .i64 (a:Int)) rfl (λi k=>by go_simp) ?_;(intro K e;go_simp;refine e _ ?_;clear e K);refine bD (v:=.int .i64 (a:Int)) rfl (λi k=>by go_simp) ?_;(intro K e;go_simp;refine e _ ?_;clear e K);refine bR ?_;intro h A;replace A:=AA A.below;have è:=b;replace b:=b.out;(have M:Hid (j<=wr.heap.size):=by have:=b.below.size;show j<=_;omega);have B:Hid (aL h m 380 #[.int .i64 (d:Int),.int .i64 (f:Int)]):=(A.out.block _ b.blk.lt).trans b.blk;clear Φ Ψ Z κ;by_cases ν:l < a
   ·have t1:(l:Int) < (a:Int):=ah
    have Q:Hid (ax (h.alloc (.cells (bM (a,f)).toArray 380)) 2 (some ⟨h.heap.size,0,none⟩) 1 (bM (a,f))):=aL.reads (aL.new h 380 (bM (a,f)).toArray) 0 _ rfl (λÑ u ξ=>by rw[Nat.zero_add,List.getElem?_toArray];exact ξ);have C:Hid ((h.alloc (.cells (bM (a,f)).toArray 380)).ownsRow j 380 2 (.slice N c.length cl) c.length (dU c)):=aK (aK b.own A.out) (Below.aJ _ _);have H:Hid (Below j x (h.alloc (.cells (bM (a,f)).toArray 380))):=(b.below.trans (A.out.mono M.out)).alloc (AZ M.out A.out.size) _
    have D:Hid (j<=(h.alloc (.cells (bM (a,f)).toArray 380)).heap.size):=by
     have E:=M.out;have G:=A.out.size;show j<=_;simp;omega
    have R:Hid (c.length+1<=maxLen):=(iI (pV b.few y α)).1;have S:Hid ((c.length+1)*16<=140737488355328):=(iI (pV b.few y α)).2;(have ο:Hid ((h.alloc (.cells (bM (a,f)).toArray 380)).heap.size=h.heap.size+1):=by show _=_;simp);have ρ:=B.out.cell 0;have c1:=B.out.cell 1
    go_wp2_with (first
     |(rw[bY 33];refine dL (o:=⟨some 33,_,_,_,_,_⟩) rfl 316 380 1 _ rfl 2 aR [bM (a,f)] A8 uV Gp rfl aR aR (λv T=>by simp only[List.mem_singleton]at T;rw[T];rfl) rfl ?_;change wpList _ _ _ _ _ (h.alloc (.cells (bM (a,f)).toArray 380)))
     |(rw[bY 34];refine dD _ (o:=⟨some 34,_,_,_,_,_⟩) rfl (.tmp 28) (.tmp 33) 316 rfl j 380 ψ (.agg #[.int .i64 0,.int .i64 0]) 2 16 A8 ω Γ Δ Θ rfl aR (.slice N c.length cl) c.length (dU c) rfl C.out (some ⟨h.heap.size,0,none⟩) 1 1 (bM (a,f)) rfl Q.out (λg=>by cases g) (kP _) R.out S.out D.out ?_;intro U σ r;have F:σ.ownsRow j 380 2 U (c.length+1) (dU (c++[(a,f)])):=(by rw[lW];exact r.own);have I:=r.below H.out D.out (λs g=>(C.out.lt s g).1);have J:∀s,U.ownBlock=some s->s≠m:=(λs g=>by rcases r.at_ with E | E;exact b.apart s (by rw[<-E,g]);(rw[E]at g;have Ò:=AL g;have Ó:=B.out.lt;have Ô:=ο.out;omega));have t:=aL.grown (aL.alloc B.out _) r.grow (λg=>b.apart m g.symm rfl);have Õ:=t.cell 0;have Ö:=t.cell 1;have Ø:=t.frozen 0;have Ù:=t.frozen 1;obtain⟨Ú,Û,rfl,-⟩:=Own.reads F;have τ:=AA<|AZ D.out r.grow.size;replace F:=AA F;replace I:=AA I;replace J:=AA J;replace t:=AA t;clear r))
    clear ρ c1 Q C H D R S;go_roundw
    case rel=>exact⟨_,_,d,a,c++[(a,f)],rfl,rfl,FV.next b I.out F.out J.out τ.out (aC z) ν (aC z) (by have:=z.out;rw[this.2.2.2.1,xO (n:=n) ah ah,this.2.2.2.2.2.1,show a - d=q by omega];simp[sd,ν]) (aC z)⟩
    case measure=>(have:=b.few;have:=z.out;simp;omega)
   ·have t1:=AP ν
    have t2:decide ((l:Int) < (a:Int))=false:=AP ah;have Q:Hid (ax (h.alloc (.cells (bM (d,a)).toArray 380)) 2 (some ⟨h.heap.size,0,none⟩) 1 (bM (d,a))):=aL.reads (aL.new h 380 (bM (d,a)).toArray) 0 _ rfl (λÑ u ξ=>by rw[Nat.zero_add,List.getElem?_toArray];exact ξ);have C:Hid ((h.alloc (.cells (bM (d,a)).toArray 380)).ownsRow j 380 2 (.slice N c.length cl) c.length (dU c)):=aK (aK b.own A.out) (Below.aJ _ _);have H:Hid (Below j x (h.alloc (.cells (bM (d,a)).toArray 380))):=(b.below.trans (A.out.mono M.out)).alloc (AZ M.out A.out.size) _
    have D:Hid (j<=(h.alloc (.cells (bM (d,a)).toArray 380)).heap.size):=by
     have E:=M.out;have G:=A.out.size;show j<=_;simp;omega
    have R:Hid (c.length+1<=maxLen):=(iI (pV b.few y α)).1;have S:Hid ((c.length+1)*16<=140737488355328):=(iI (pV b.few y α)).2;(have ο:Hid ((h.alloc (.cells (bM (d,a)).toArray 380)).heap.size=h.heap.size+1):=by show _=_;simp);have ρ:=B.out.cell 0;have c1:=B.out.cell 1
    go_wp2_with (first
     |(rw[bY 42];refine dL (o:=⟨some 42,_,_,_,_,_⟩) rfl 316 380 1 _ rfl 2 aR [bM (d,a)] A8 uV Gp rfl aR aR (λv T=>by simp only[List.mem_singleton]at T;rw[T];rfl) rfl ?_;change wpList _ _ _ _ _ (h.alloc (.cells (bM (d,a)).toArray 380)))
     |(rw[bY 43];refine dD _ (o:=⟨some 43,_,_,_,_,_⟩) rfl (.tmp 37) (.tmp 42) 316 rfl j 380 ψ (.agg #[.int .i64 0,.int .i64 0]) 2 16 A8 ω Γ Δ Θ rfl aR (.slice N c.length cl) c.length (dU c) rfl C.out (some ⟨h.heap.size,0,none⟩) 1 1 (bM (d,a)) rfl Q.out (λg=>by cases g) (kP _) R.out S.out D.out ?_;intro U σ r;have F:σ.ownsRow j 380 2 U (c.length+1) (dU (c++[(d,a)])):=(by rw[lW];exact r.own);have I:=r.below H.out D.out (λs g=>(C.out.lt s g).1);have J:∀s,U.ownBlock=some s->s≠m:=(λs g=>by rcases r.at_ with E | E;exact b.apart s (by rw[<-E,g]);(rw[E]at g;have Ò:=AL g;have Ó:=B.out.lt;have Ô:=ο.out;omega));have t:=aL.grown (aL.alloc B.out _) r.grow (λg=>b.apart m g.symm rfl);have Õ:=t.cell 0;have Ö:=t.cell 1;have Ø:=t.frozen 0;have Ù:=t.frozen 1;obtain⟨Ú,Û,rfl,-⟩:=Own.reads F;have τ:=AA<|AZ D.out r.grow.size;replace F:=AA F;replace I:=AA I;replace J:=AA J;replace t:=AA t;clear r))
    clear ρ c1 Q C H D R S;go_roundw
    case rel=>exact⟨_,_,a,f,c++[(d,a)],rfl,rfl,FV.next b I.out F.out J.out τ.out (aC z) (aC z) (aC z) (by have:=z.out;rw[this.2.2.2.1,rJ (n:=n) ah ah ah,this.2.2.2.2.2.1,show f - a=n - q by omega,show l - d - q=l - a by omega];simp[sd];omega) (aC z)⟩
    case measure=>(have:=b.few;have:=z.out;simp;omega)
  ·have υ:n=1:=ah
   have Ï:(n:Int)<=1:=ah;have é:decide ((1:Int) < (n:Int))=false:=AP ah
   have Á:Hid (c.reverse.map (sd l)=sides w l):=by
    show _=_;rw[b.sides,O,υ,uW ah,List.nil_append,List.map_reverse]
   have Â:=b.few;by_cases β:c.length=0
   ·have Ü:=Ap β
    subst Ü;have C:=AA b.own;have L:=AA b.below;have γ:=AA (Ii N cl wr);clear b V W X Y O υ β G Â;go_wp2_with fail;refine γ.out.mono ?_;rintro g h ⟨rfl,rfl⟩;go_wp2_with fail;go_ret;exact⟨_,[],rfl,Á.out,C.out,L.out⟩
   ·rcases b.own.2 with⟨P,_⟩ |⟨φ,ê,Ã,P,Ä,Å,Æ,Ç,È,É⟩
    ·exact absurd (by injection P) β
    ·injection P with Ý ë Þ
     subst Ý Þ;obtain⟨rest,ß⟩:∃rest,Ã=(dU c++rest).toArray:=⟨Ã.toList.drop (c.length*2),by rw[<-É,List.take_append_drop]⟩;subst ß;have γ:=AA (Ij c c.length rfl ah (aC y) φ cl rest wr Å);have L:=AA b.below;have Ê:=AA Ä;have χ:=AA (And.intro Æ (And.intro Ç È));(have à:Hid (j<=wr.heap.size):=by have:=b.below.size;show j<=_;omega);clear b V W X Y O υ β G Â Å Ä Æ Ç È É;go_wp2_with fail;refine γ.mono ?_;rintro g h ⟨rfl,B,Ë⟩
     have C:Hid (h.ownsRow j 380 2 (.slice (some ⟨φ,0,none⟩) c.length cl) c.reverse.length (dU c.reverse)):=by
      refine⟨by rw[nD],.inr ⟨φ,cl,_,by rw[List.length_reverse],Ê,B,by rw[List.length_reverse];exact χ.1,χ.2.1,?_,?_⟩⟩
      ·have:=χ.2.2
       rw[List.size_toArray,List.length_append,nD]at this ⊢;rw[List.length_reverse];exact this
      ·rw[List.toList_toArray,List.take_append_of_le_length (by rw[nD];exact Nat.le_refl _),List.take_of_length_le (by rw[nD];exact Nat.le_refl _)]
     (have H:=AA<|L.trans (au.aW Ë Ê à));clear B Ë γ L;go_wp2_with fail;go_ret;exact⟨_,c.reverse,rfl,Á.out,C.out,H.out⟩
def xJ(M:Nat->Prop)(w:World)(gc:Nat)(r:Option Nat)(xs:List Value)(ts:List aj):Prop:=
 ∀(i:Nat) (q:aj),ts[i]?=some q->∃g c,xs[i]?=some (.slice (some ⟨g,0,none⟩) q.length c)/\q.length<=c/\ax w 1 (some ⟨g,0,none⟩) q.length (ak q)/\g < w.heap.size/\g≠gc/\some g≠r/\¬M g
def rq(M:Nat->Prop)(w:World)(gc:Nat)(r:Option Nat)(s:Int)(ts:List aj):Prop:=
 ∃v xs,aL w gc 322 #[.int .i64 s,v]/\w.ownsRow 0 27 1 v ts.length xs/\v.ownBlock=r/\(∀k,r=some k->gc < k/\k < w.heap.size)/\xJ M w gc r xs ts
def om(w:World)(gc:Nat)(r:Option Nat)(s:Int)(ts:List aj):Prop:=rq (λ_=>False) w gc r s ts
theorem rq.kept{f:Nat->Prop}{w j:World}{h:Nat}{g:Option Nat}{k:Int}{l:List aj}(b:rq f w h g k l)(c:au f w j)(o:¬f h)(p:∀d,g=some d->¬f d):om j h g k l:=by
 obtain⟨q,r,s,m,n,i,hx⟩:=b;refine⟨q,r,s.kept c o,⟨m.1,?_⟩,n,λd a=>⟨(i d a).1,Ad (i d a).2 c.size⟩,λt u v=>?_⟩
 ·rcases m.2 with b |⟨e,x,y,rfl,z,A,B⟩
  ·exact .inl b
  ·refine .inr ⟨e,x,y,rfl,z,?_,B⟩
   (have a:g=some e:=by rw[<-n];rfl);rw[c.block e (i e a).2 (p e a),A]
 ·obtain⟨C,D,E,F,G,H,I,J,K⟩:=hx t u v
  refine⟨C,D,E,F,G.kept c (λN O a L=>?_),Ad H c.size,I,J,λb=>b⟩;(injection a with a);(injection a with M P);exact K (M ▸ L)
def FY(w:World)(gc:Nat)(r:Option Nat)(s:Int)(ts:List aj)(w':World):Prop:=
 ∃r',om w' gc r' s ts/\au (λk=>k=gc\/some k=r) w w'/\(r'=r\/∃k,r'=some k/\w.heap.size<=k)
theorem Hg:(prog.info? 27).map (λa=>(a.zero,a.size,a.bytes))=some (some (.slice none 0 0),1,24):=by kernel_rfl
def uF(w:World)(l r:aj):World:=(((w.alloc (.cells (ak l).toArray 23)).alloc (.cells (ak r).toArray 23)).alloc (.cells bF 23)).drew.alloc (.cells #[.slice (some ⟨w.heap.size,0,none⟩) 32 32,.slice (some ⟨w.heap.size+1,0,none⟩) 32 32] 27)
structure Yd(w W:World)(l r:aj):Prop where
 size:W.heap.size=w.heap.size+4
 below:av w W
 res:aL W (w.heap.size+2) 23 bF
 pieces:gq W (some ⟨w.heap.size+3,0,none⟩) [l,r]
 lt:LQ W W.heap.size (some ⟨w.heap.size+3,0,none⟩) [l,r]
theorem Sd(a:World)(d e:aj)(g:d.length=32)(i:e.length=32):Yd a (uF a d e) d e:=by
 obtain⟨b,c⟩:∃b,b=uF a d e:=⟨_,rfl⟩;(have j:b.heap[a.heap.size]?=some (.cells (ak d).toArray 23 (0,0)):=by rw[c];exact OQ a _ _ _ _);(have k:b.heap[a.heap.size+1]?=some (.cells (ak e).toArray 23 (0,0)):=by rw[c];exact OP a _ _ _ _);(have e:aL b (a.heap.size+2) 23 bF:=by show aL _ _ _ _;rw[c];exact OO a _ _ _ _);(have d:b.heap[a.heap.size+3]?=some (.cells #[.slice (some ⟨a.heap.size,0,none⟩) 32 32,.slice (some ⟨a.heap.size+1,0,none⟩) 32 32] 27 (0,0)):=by rw[c];exact OM a _ _ _ _);(have f:av a b:=by show Below _ _ _;rw[c];exact OL a _ _ _ _);(have h:b.heap.size=a.heap.size+4:=by show _=_;rw[c];simp[uF]);rw[<-c];refine⟨h,f,e,λ_=>⟨a.heap.size+3,0,rfl,ah,λc b e=>?_⟩,λl b=>?_,λc n m o p b q r f _ l h=>?_⟩
 ·match c with
  | 0=>
   obtain rfl:=AL e;exact⟨some ⟨a.heap.size,0,none⟩,32,by rw[cell_of_row _ _ _ _ _ _ d,g];rfl,ah,kU j,λg=>by cases g⟩
  | 1=>
   obtain rfl:=AL e;exact⟨some ⟨a.heap.size+1,0,none⟩,32,by rw[cell_of_row _ _ _ _ _ _ d,i];rfl,ah,kU k,λg=>by cases g⟩
  | c+2=>simp at e
 ·obtain rfl:=AL b
  show a.heap.size+3 < _;omega
 ·injection b with b
  (injection b with e g);subst e g;rw[cell_of_row _ _ _ _ _ _ d]at f
  match c with
  | 0=>
   have b:=AL f;(injection b with b);rw[h]at b;have:=AL b;rw[<-this];show a.heap.size < _;omega
  | 1=>
   have b:=AL f;(injection b with b);rw[h]at b;have:=AL b;rw[<-this];show a.heap.size+1 < _;omega
  | c+2=>simp at m
theorem FY.step{w e j:World}{d gt ct:Nat}{g:Option Nat}{i:Int}{m:List aj}{q:aj}{v f:Value}{o:List Value}(hx:xJ (λ_=>False) w d g o m)(p:∀a,g=some a->d < a/\a < w.heap.size)(b:d < w.heap.size)
  (h:av w e)(x:aL e d 322 #[.int .i64 i,v])(s:v.ownBlock=g)(E:ax e 1 (some ⟨gt,0,none⟩) q.length (ak q))(z:w.heap.size<=gt/\gt < e.heap.size)(F:q.length<=ct)
  (k:rC (e.alloc (.cells #[.slice (some ⟨gt,0,none⟩) q.length ct] 27)) 0 27 1 v m.length 1 o [.slice (some ⟨gt,0,none⟩) q.length ct] f j)(G:o.length=m.length):
  ∃b,rq (λa=>w.heap.size<=a/\a < gt) (j.setCell ⟨d,1,none⟩ f) d b i (m++[q])/\au (λa=>a=d\/some a=g) w (j.setCell ⟨d,1,none⟩ f)/\(b=g\/∃a,b=some a/\e.heap.size < a):=by
 have b:∀a,g=some a->a < e.heap.size:=λa b=>by have:=(p a b).2;have:=h.size;omega
 have l:(e.alloc (.cells #[.slice (some ⟨gt,0,none⟩) q.length ct] 27)).heap.size=e.heap.size+1:=by simp
 have y:=x.lt
 have t:=λa (r:a < e.heap.size) (n:some a≠g)=>(k.grow.block a (by rw[l];omega) (s ▸ n)).trans (Below.heap_alloc _ _ _ r)
 have c:e.heap.size+1<=j.heap.size:=by have:=k.grow.size;rw[l]at this;exact this
 have C:some d≠g:=λb=>by have:=(p d b.symm).1;omega
 have u:f.ownBlock=g\/f.ownBlock=some (e.heap.size+1):=by
  rcases k.at_ with c | c
  ·exact .inl (c.trans s)
  ·exact .inr (by rw[c,l])
 have A:∀a,f.ownBlock=some a->d < a/\a < j.heap.size:=λa b=>by
  have s:=(k.own.lt a b).2
  rcases u with c | c
  ·exact⟨(p a (by rw[<-c,b])).1,s⟩
  ·rw[c]at b;have:=AL b;exact⟨ah,s⟩
 have B:∀a,a < e.heap.size->some a≠g->some a≠f.ownBlock:=λa r n b=>by
  rcases u with c | c
  ·exact n (b.trans c)
  ·rw[c]at b;have:=AL b;omega
 have D:aL j d 322 #[.int .i64 i,v]:=(t d y C).trans x
 have C:∀(i:Nat) (l:aj),i < e.heap.size->some i≠g->i≠d->ax e 1 (some ⟨i,0,none⟩) l.length (ak l)->ax (j.setCell ⟨d,1,none⟩ f) 1 (some ⟨i,0,none⟩) l.length (ak l):=λi l x s H c=>by
  refine(c.keep (w':=j) ah λx y b h=>?_).setCell (λx y b=>?_) f
  ·injection b with b
   (injection b with x y);subst x;exact t _ h s
  ·injection b with b
   (injection b with x y);subst x;exact H
 refine⟨f.ownBlock,⟨f,o++[.slice (some ⟨gt,0,none⟩) q.length ct],D.lD 1 f,?_,rfl,λa b=>?_,λs l o=>?_⟩,?_,?_⟩
 ·rw[List.length_append]
  refine World.ownsRow.kept k.own (Hq j d 1 f) ?_;cases b:f.ownBlock with
  | none=>exact .inl rfl
  | some a=>exact .inr (λy=>by have:=(A a b).1;have:=AL y;omega)
 ·have:=A a b
  simp;exact this
 ·rcases Nat.lt_or_ge s m.length with x | x
  ·rw[List.getElem?_append_left x]at o
   obtain⟨i,H,I,J,K,D,y,A,-⟩:=hx s l o;have D:i < e.heap.size:=aC h.size;exact⟨i,H,by rw[List.getElem?_append_left ah];exact I,J,C i l D A y (K.below h),by simp;omega,y,B i D A,λc=>by omega⟩
  ·rw[List.getElem?_append_right x]at o
   have e:s=m.length:=by
    have:=(AU.1 o).1;simp at this;omega
   subst e;rw[Nat.sub_self]at o;obtain rfl:=AL o;(have e:some gt≠g:=λb=>by have:=(p gt b.symm).2;omega);exact⟨gt,ct,by rw[List.getElem?_append_right ah,G,Nat.sub_self];rfl,F,C gt q z.2 e ah E,by simp;omega,ah,B gt z.2 e,λc=>by omega⟩
 ·refine⟨k.grow.os.trans h.os,k.grow.tape.trans h.tape,k.grow.output.trans h.output,by have:=h.size;simp;omega,λa r n=>?_⟩
  (have e:=λb=>n (.inr b));(have g:=λb=>n (.inl b));exact((Below.heap_setCell j ⟨d,1,none⟩ f a g).trans (t a (aC h.size) e)).trans (h.block a r)
 ·rcases u with c | c
  ·exact .inl c
  ·exact .inr ⟨_,c,ah⟩
theorem sW(gc:Nat)(r:Option Nat)(s:Int)(ts:List aj)(l rr:aj)(hl:l.length=32)(hrl:rr.length=32)(w:World)(hBs:bn w)(hgb:1 < gc)(hcl:om w gc r s ts)(hts:ts.length < 1099511627776):
  Calls prog 267 #[.pointer (some ⟨gc,0,none⟩),.agg (ak l).toArray,.agg (ak rr).toArray] w λe w'=>e=.returned (.agg (ak (nP s l rr)).toArray)/\FY w gc r s (ts++[kb 1 :: (l++rr)]) w':=by
 obtain⟨i0,ii,iz0,iz1,iz2⟩:=bV Hg
 obtain⟨v,xs,hB,hO0,hv,hr,hx⟩:=hcl
 obtain⟨Av,cv,rfl,-⟩:=Own.reads hO0
 have hNW:=Sd w l rr hl hrl
 obtain⟨q,hq⟩:∃q:aj,Hid (kb 1 :: (l++rr)=q):=⟨_,AA rfl⟩
 have hql:Hid (q.length=65):=by show _=_;rw[<-hq.out];simp[hl,hrl]
 have hT:Hid (Calls prog 281 #[.int .i64 1,.slice (some ⟨w.heap.size+3,0,none⟩) 2 2] (uF w l rr) λe w'=>∃v,e=.returned v/\Below (uF w l rr).heap.size (uF w l rr) w'/\w'.ownsRow (uF w l rr).heap.size 5 1 v 65 (ak q)):=by
  have:=uR 1 [l,rr] 2 rfl (some ⟨w.heap.size+3,0,none⟩) 2 (uF w l rr) aR 64 (by simp[hl,hrl]) aR hNW.pieces hNW.lt;rw[show kb 1 :: [l,rr].flatten=q by rw[<-hq.out];simp]at this;exact this
 obtain⟨z,hz⟩:=aS (nP s l rr)
 have F:=AA (aP (x:=z) (hz.out ▸ gY _ _ _))
 have hCu:=AA<|λw'=>by
  have:=uo (bB q) (eU _) s w';rw[show dP (bB q) (cu s)=z by rw[<-hq.out];exact hz.out]at this;exact this
 replace hBs:=AA hBs
 replace hB:=AA hB
 replace hO0:=AA hO0
 replace hv:=AA hv
 replace hr:=AA hr
 replace hx:=AA hx
 replace hNW:=AA hNW
 replace hgb:=AA hgb
 obtain⟨k,hk⟩:=aS (ts.length)
 rw[hk.out]at hB hO0 hts hv
 replace hts:=AA hts
 clear hl hrl
 go_enter func267,ntmps267
 go_wp2_with fail
 refine dI (λ_=>True) 5 ?_
 refine aH 0 trivial ?_
 refine aH 1 trivial ?_
 refine jJ 2 trivial ?_
 change wpAnyH _ _ _ _ _ _ _ _ (uF w l rr)
 refine aU 3 ?_
 refine cK (R:=λv w''=>Below (uF w l rr).heap.size (uF w l rr) w''/\w''.ownsRow (uF w l rr).heap.size 5 1 v 65 (ak q)) BZ (hT.mono λe w'' ⟨v,he,hb,ho⟩=>⟨_,he,hb,ho⟩) ?_
 rintro v3 w3 ⟨hb3,ho3⟩
 obtain⟨gt,ct,rfl,hgt1,hgt2⟩:=ho3.form aR
 refine aV trivial ?_
 refine aH 4 trivial ?_
 refine bT ?_
 have hsz:=AA hNW.size
 have hbW:=AA<|hNW.below.trans (hb3.mono hNW.below.size)
 have hB3:Hid (aL w3 gc 322 #[.int .i64 s,.slice Av k cv]):=(hbW.block gc hB.lt).trans hB
 have hR3:Hid (aL w3 (w.heap.size+2) 23 bF):=(hb3.block _ hNW.res.lt).trans hNW.res
 have hO:Hid ((w3.alloc (.cells #[.slice (some ⟨gt,0,none⟩) 65 ct] 27)).ownsRow 0 27 1 (.slice Av k cv) k xs):=(aK hO0 hbW).alloc _
 have hNw:Hid (ax (w3.alloc (.cells #[.slice (some ⟨gt,0,none⟩) 65 ct] 27)) 1 (some ⟨w3.heap.size,0,none⟩) 1 [.slice (some ⟨gt,0,none⟩) 65 ct]):=aL.reads (aL.new w3 27 #[.slice (some ⟨gt,0,none⟩) 65 ct]) 0 _ rfl (λj u hu=>by rw[Nat.zero_add];simpa using hu)
 have hm1:Hid (k+1<=maxLen):=by have:=hts.out;show _<=_;unfold maxLen;omega
 have hm2:Hid ((k+1)*24<=140737488355328):=by have:=hts.out;show _<=_;omega
 have hgr:Hid (some gc≠(Value.slice Av k cv).ownBlock):=λe=>by rw[hv.out]at e;have:=(hr gc e.symm).1;omega
 have hrr2:Hid (some (w.heap.size+2)≠(Value.slice Av k cv).ownBlock):=λe=>by rw[hv.out]at e;have:=(hr _ e.symm).2;omega
 obtain⟨At,ct',et,hct,-,-,hrt,-⟩:=Own.reads ho3
 injection et with et1 et2 et3
 subst et1 et3
 have hrq:Hid (ax w3 1 (some ⟨gt,0,none⟩) q.length (ak q)):=hql.out ▸ hrt
 have hgt:Hid (w.heap.size+4<=gt/\gt < w3.heap.size/\65<=ct):=by have:=hsz.out;exact⟨ah,hgt2,hct⟩
 have c1:=hB3.cell 1
 clear hb3 ho3 hgt1 hgt2 hrt hct hT
 go_wp2_with (rw[bY 19];refine iL (.tmp 16) (.tmp 18) Ao ii iz0 iz1 iz2 hO hNw (λe=>by cases e) (gm rfl) hm1 hm2 (AX _) ?_;intro v4 w4 hG;have hB4:=aL.grown (hB3.alloc _) hG.grow (λe=>hgr e);have d1:=hB4.cell 1;have f1:=hB4.frozen 1;have hR4:=AA<|aL.grown (hR3.alloc _) hG.grow (λe=>hrr2 e);obtain⟨A4,c4,rfl,-⟩:=Own.reads hG.own;replace hG:=AA hG;replace hB4:=AA hB4)
 obtain⟨r5,hC5,hK5,hr5⟩:=FY.step (q:=q) (gt:=gt) (ct:=ct) hx hr hB.lt hbW hB3 hv hrq ⟨by have:=hgt.out;omega,hgt.2.1⟩ (hql.out ▸ hgt.2.2) (by rw[hql.out,hk.out];exact hG) (hk.out ▸ (by have:=hO0.1;simpa using this))
 have hR5:Hid (aL (w4.setCell ⟨gc,1,none⟩ (.slice A4 (k+1) c4)) (w.heap.size+2) 23 bF):=hR4.far (by have:=hB.lt;show w.heap.size+2≠gc;omega) _
 have hbase:=AA<|hBs.kept hK5 (λh=>by rcases h with h | h;have:=hgb.out;omega;(have:=(hr _ h.symm).1;have:=hgb.out;omega))
 have e0:(w4.setCell ⟨gc,1,none⟩ (.slice A4 (k+1) c4)).cell? ⟨gc,0,none⟩=some (.int .i64 s):=(hB4.lD 1 _).cell 0
 have hCQ:Hid (ax (w4.setCell ⟨gc,1,none⟩ (.slice A4 (k+1) c4)) 1 (some ⟨gt,0,none⟩) 65 (ak q)):=by
  have h1:=(hrq.alloc (.cells #[.slice (some ⟨gt,0,none⟩) 65 ct] 27)).keep hG.grow.size (λb o e hb=>by
   (injection e with e);(injection e with e1 e2);subst e1
   exact hG.grow.block _ hb (λe=>by have h2:=hv.out;rw[h2]at e;have:=(hr _ e.symm).2;have:=hgt.out;omega))
  rw[hql.out]at h1;exact h1.setCell (λb o e=>by injection e with e;injection e with e1 e2;subst e1;have:=hB.lt;have:=hgt.out;show gt≠gc;omega) _
 replace hC5:=AA hC5
 replace hK5:=AA hK5
 replace hr5:=AA hr5
 clear hR4 hG hB4 d1 f1 c1 hO hNw hm1 hm2 hgr hrr2 hrq hB3 hR3
 generalize hw5:w4.setCell ⟨gc,1,none⟩ (.slice A4 (k+1) c4)=w5 at*
 clear hw5
 have hc0:=AA<|λw' (hb:av w5 w')=>(hb.cell (p:=⟨gc,0,none⟩) (World.block_lt_of_cell? w5 _ e0)).trans e0
 have hS:=AA<|λw' (hb:av w5 w')=>zK q 65 hql _ ct w' (hbase.below hb hbase.1) aR (hCQ.below hb) hgt.2.2
 clear e0
 refine xP 7 (aA w5) (aA.jD ((Below.refl _ _).drew)) ?_
 refine aG ?_
 refine cZ func114 (λw' hw'=>(hS w' hw'.below).mono (λe w'' ⟨he,hb⟩=>⟨he,hw'.next hb⟩)) ?_
 iterate 3 refine aG ?_
 refine bC (λw' hw'=>hc0 w' hw'.below) ?_
 refine cZ BH (λw' hw'=>(hCu w').mono (λe w'' ⟨he,hb⟩=>⟨he,hw'.next hb⟩)) ?_
 refine bR ?_
 intro w6 hw6
 have hR6:Hid (aL w6 (w.heap.size+2) 23 bF):=(hw6.below.block _ hR5.lt).trans hR5
 have hb6:=AA hw6.below
 simp only[List.drop]
 go_wp2_with (rw[bA 23 _];refine fw hR6 F.size F.zero F.one ?_)
 refine gI (setRow_heap _ _ _ _ _ _ hR6) F.size AB ?_
 refine⟨by rw[hz.out],r5,?_,?_,?_⟩
 ·rw[hq.out]
  have hk7:au (·=w.heap.size+2) w5 (w6.setRow (w.heap.size+2) (ak z).toArray):=au.setRow (S:=λi=>i=w.heap.size+2) (au.of_below hb6) rfl _;refine(hC5).kept (hk7.mono (λi _ hi=>by rw[hi];have:=hgt.out;exact⟨ah,ah⟩)) (λh=>by have:=hB.lt;omega) (λj e h=>?_)
  rcases hr5.out with h1 |⟨j',h1,h2⟩
  ·rw[h1]at e;have:=(hr j e).2;omega
  ·rw[h1]at e;have:=AL e;have:=hgt.out;omega
 ·refine hK5.trans (T:=λi=>i=w.heap.size+2) (au.setRow (S:=λi=>i=w.heap.size+2) (au.of_below hb6) rfl _) (λi hi h=>by omega)
 ·rcases hr5.out with h1 |⟨j',h1,h2⟩
  ·exact .inl h1
  ·exact .inr ⟨j',h1,by have:=hbW.size;omega⟩
def rf(s:Int)(st:aj×List aj)(p:Bool×aj):aj×List aj:=
 if p.1 then(nP s st.1 p.2,st.2++[kb 1 :: (st.1++p.2)])else(nP s p.2 st.1,st.2++[kb 1 :: (p.2++st.1)])
def iy(s:Int)(st:aj×List aj)(l:List (Bool×aj))(j:Nat):aj×List aj:=(l.take j).foldl (rf s) st
theorem rY(b:Int)(a:aj×List aj)(c:List (Bool×aj)):iy b a c 0=a:=by simp[iy]
theorem nG{s:Int}{st:aj×List aj}{l:List (Bool×aj)}{a:Nat}{b:Bool×aj}(c:l[a]?=some b):iy s st l (a+1)=rf s (iy s st l a) b:=by
 simp[iy,List.take_add_one,c]
theorem FH{b:Int}{a:aj×List aj}{c:Bool×aj}:(rf b a c).1.length=32/\(rf b a c).2.length=a.2.length+1:=by
 unfold rf
 split<;>exact⟨gY _ _ _,by simp⟩
theorem q9{s:Int}{st:aj×List aj}{l:List (Bool×aj)}(b:st.1.length=32):∀a,a<=l.length->(iy s st l a).1.length=32/\(iy s st l a).2.length=st.2.length+a
 | 0,_=>by rw[rY];exact⟨b,rfl⟩
 | a+1,c=>by
  rw[nG (List.getElem?_eq_getElem (show a < l.length by omega))];exact⟨FH.1,by rw[FH.2,(q9 b a ah).2];omega⟩
theorem vO{s:Int}{d:aj×List aj}{l:List (Bool×aj)}(b:d.1.length=32)(f:∀c∈d.2,c.length=65)(g:∀e∈l,e.2.length=32):∀a,a<=l.length->∀c∈(iy s d l a).2,c.length=65
 | 0,_=>by rw[rY];exact f
 | a+1,e=>by
  intro c e;have h:=g _ (CQ (show a < l.length by omega));have i:=(q9 (s:=s) (l:=l) b a ah).1;rw[nG (List.getElem?_eq_getElem (show a < l.length by omega))]at e;unfold rf at e
  split at e<;>rcases Aj.1 e with b | b
  ·exact vO ‹d.1.length=32› f g a ah c b
  ·obtain rfl:=BS.1 b
   simp[i,h]
  ·exact vO ‹d.1.length=32› f g a ah c b
  ·obtain rfl:=BS.1 b
   simp[i,h]
def jO(s size i:Int)(leaf:aj)(ts ds:List aj):aj×Int×List aj:=
 if bP size i=false then(List.replicate 32 0,60,ts)
 else if(sides size.toNat i.toNat).length≠ds.length then(List.replicate 32 0,170,ts)
 else
  let c:=iy s (leaf,ts) ((sides size.toNat i.toNat).zip ds) ds.length
  (c.1,0,c.2)
theorem om.off{c:World}{e f:Nat}{g:Option Nat}{h:Int}{d:List aj}{i:TypeId}{b:Array Value}(j:om c e g h d)(k:aL c f i b)(l:∀a∈d,b.size < a.length):rq (·=f) c e g h d:=by
 obtain⟨d,e,f,g,h,i,hx⟩:=j;refine⟨d,e,f,g,h,i,λj a c=>?_⟩;obtain⟨e,f,g,h,d,i,m,n,-⟩:=hx j a c;refine⟨e,f,g,h,d,i,m,n,λj=>?_⟩;subst j;have e:=l a (Ab c);obtain⟨g,h,c,-,f⟩:=d.at_ ah;(injection c with c);(injection c with d g);subst d g;have c:(ak a)[b.size]?=some ((ak a)[b.size]'(by simpa[ak]using e)):=AV _;have a:=f _ _ c;rw[k.cell]at a;simp at a
theorem di{f:Program}{i:Func}{g u:Tmp}{a:TypeId}(l:i.results=#[.cell g a,.tmp u])(b:Array Value)(c:World)(d:Nat)(j:TypeId)(e:Array Value)(k:Nat×Nat)(h:TypeDesc)
  (m:b.getD g undef=.pointer (some ⟨d,0,none⟩))(n:c.heap[d]?=some (.cells e j k))
  (o:f.underlying a=some h)(hd:(match h with | .struct _ | .array _ _=>true | _=>false)=true)(p:(f.info? a).map (·.size)=some e.size):
  (results i b).run f c=.ok (.tuple #[.agg e,b.getD u undef]) c:=by
 have f:b[g]?.getD undef=.pointer (some ⟨d,0,none⟩):=by simpa using m
 simp[results,l,f,asAddr,run_loadVar_row c d j a e k h n o hd p,Result.andThen]
structure Dp(w1 wr:World)(gc:Nat)(r:Option Nat)(b8:Nat)(s:Int)(st:aj×List aj):Prop where
 leaf:aL wr b8 23 (ak st.1).toArray
 cl:∃rj,om wr gc rj s st.2/\(rj=r\/∃k,rj=some k/\w1.heap.size<=k)
 kept:au (λk=>k=gc\/some k=r\/k=b8) w1 wr
theorem Dp.step{f wr i j:World}{d b8:Nat}{e g:Option Nat}{k:Int}{h st':aj×List aj}(a:Dp f wr d e b8 k h)(l:g=e\/∃b,g=some b/\f.heap.size<=b)(m:av wr i)(x:FY i d g k st'.2 j)
  (y:∀n∈st'.2,n.length=65)(z:h.1.length=32)(F:d < b8)(A:∀b,e=some b->b < b8)(G:b8 < f.heap.size):aL j b8 23 (ak h.1).toArray/\Dp f (j.setRow b8 (ak st'.1).toArray) d e b8 k st':=by
 obtain⟨r,B,s,t⟩:=x
 have H:=a.kept.size
 have I:=m.size
 have u:some b8≠g:=λc=>by
  rcases l with a |⟨b,a,o⟩
  ·exact absurd (A b8 (by rw[<-a,c])) ah
  ·rw[a]at c;have:=AL c;omega
 have C:aL i b8 23 (ak h.1).toArray:=(m.block b8 a.leaf.lt).trans a.leaf
 have p:=C.kept s (λa=>by rcases a with a | a;omega;exact u a)
 have D:∀b,r=some b->¬b=b8:=λb c a=>by
  subst a
  rcases t with a |⟨v,a,o⟩
  ·exact u (by rw[<-a,c])
  ·rw[a]at c;have:=AL c;omega
 refine⟨p,setRow_heap _ _ _ _ _ _ p,⟨r,(om.off B p (λn E=>by rw[y n E];simp[aB,z])).kept (au.setRow (S:=λw=>w=b8) (au.refl _ _) rfl _) ah D,?_⟩,?_⟩
 ·rcases t with a |⟨v,a,o⟩
  ·rw[a];exact l
  ·exact .inr ⟨v,a,ah⟩
 ·refine au.setRow (S:=λb=>b=d\/some b=e\/b=b8) ((a.kept.trans (T:=λ_=>False) (au.of_below m) (λ_ _ a=>a.elim)).trans s (λw J a=>?_)) (.inr (.inr rfl)) _
  rcases a with a | a
  ·exact .inl a
  ·rcases l with q |⟨b,q,o⟩
   ·exact .inr (.inl (by rw[a,q]))
   ·rw[q]at a;have:=AL a;omega
theorem kL:(prog.info? 23).map (·.size)=some (bF:Array Value).size:=by kernel_rfl
theorem CX:((bF:Array Value).all λa=>a.oneCell')=true:=by kernel_rfl
theorem SQ(f:Nat)(c d:Int)(b:aj)(g:Option Addr)(h i:Nat)(a:World)(e:bP c d=false):
  bq 222 #[.pointer (some ⟨f,0,none⟩),.int .i64 c,.int .i64 d,.agg (ak b).toArray,.slice g h i] a (.tuple #[.agg bF,.int .i64 60]):=by
 have g:Hid (av a ((a.alloc (.cells (ak b).toArray 23)).alloc (.cells bF 23))):=(Below.aJ a _).alloc aZ _
 have f:Hid (aL ((a.alloc (.cells (ak b).toArray 23)).alloc (.cells bF 23)) (a.heap.size+1) 23 bF):=by
  have:=aL.new (a.alloc (.cells (ak b).toArray 23)) 23 bF;rwa[show(a.alloc (.cells (ak b).toArray 23)).heap.size=a.heap.size+1 by simp]at this
 replace e:=AA e
 go_enter func222,ntmps222
 go_wp2_with fail
 refine(xZ c d _).mono ?_
 rw[e.out]
 rintro b c ⟨rfl,rfl⟩
 go_wp2_with (rw[bA 23 _];refine fw f kL rfl CX ?_)
 refine bodyPost_ret (di rfl _ _ (a.heap.size+1) 23 bF (0,0) _ rfl (setRow_heap _ _ _ _ _ _ f) AB rfl kL) rfl ?_
 exact⟨rfl,below_setRow g ah _⟩
theorem SS(e:Nat)(b c:Nat)(hs:b<=1099511627776)(j:c < b)(d:aj)(h:Option Addr)(f i:Nat)(a:World)(g:(sides b c).length≠f):
  bq 222 #[.pointer (some ⟨e,0,none⟩),.int .i64 (b:Int),.int .i64 (c:Int),.agg (ak d).toArray,.slice h f i] a (.tuple #[.agg bF,.int .i64 170]):=by
 have m:Hid (av a ((a.alloc (.cells (ak d).toArray 23)).alloc (.cells bF 23))):=(Below.aJ a _).alloc aZ _
 have k:Hid (((a.alloc (.cells (ak d).toArray 23)).alloc (.cells bF 23)).heap.size=a.heap.size+2):=by show _=_;simp
 have n:Hid (aL ((a.alloc (.cells (ak d).toArray 23)).alloc (.cells bF 23)) (a.heap.size+1) 23 bF):=by
  have:=aL.new (a.alloc (.cells (ak d).toArray 23)) 23 bF;rwa[show(a.alloc (.cells (ak d).toArray 23)).heap.size=a.heap.size+1 by simp]at this
 have e:Hid (aL ((a.alloc (.cells (ak d).toArray 23)).alloc (.cells bF 23)) a.heap.size 23 (ak d).toArray):=(aL.new a 23 (ak d).toArray).alloc _
 have o:Hid (bP (b:Int) (c:Int)=true):=by
  show _=_;have e:(1:Int)<=b:=ah;have h:(b:Int)<=1099511627776:=ah;have i:(0:Int)<=c:=ah;have l:(c:Int) < b:=ah;simp[bP,e,h,i,l]
 have p:Hid (Calls prog 269 #[.int .i64 (b:Int),.int .i64 (c:Int)] ((a.alloc (.cells (ak d).toArray 23)).alloc (.cells bF 23)) λh l=>∃(i:Value) (e:List (Nat×Nat)),h=.returned i/\e.map (sd c)=sides b c/\l.ownsRow (a.heap.size+2) 380 2 i e.length (dU e)/\Below (a.heap.size+2) ((a.alloc (.cells (ak d).toArray 23)).alloc (.cells bF 23)) l):=by
  have:=JJ b c hs j ((a.alloc (.cells (ak d).toArray 23)).alloc (.cells bF 23));rwa[k.out]at this
 replace g:=AA g
 clear hs j
 go_enter func222,ntmps222
 go_wp2_with fail
 refine(xZ (b:Int) (c:Int) _).mono ?_
 rw[o.out]
 rintro h d ⟨rfl,rfl⟩
 go_wp2_with fail
 refine p.mono ?_
 rintro h o ⟨i,e,rfl,j,l,d⟩
 obtain⟨p,q,rfl,r,s,t,h,i⟩:=Own.reads l
 have p:e.length=(sides b c).length:=by rw[<-j,List.length_map]
 have b:((e.length:Int)==(f:Int))=false:=beq_eq_false_iff_ne.2 (aC g)
 have b:¬((e.length:Int)=(f:Int)):=aC g
 have b:Hid (aL o (a.heap.size+1) 23 bF):=(d.block _ (aC k)).trans n
 have c:=AA<|m.trans (d.mono ah)
 clear h i j l d p
 go_wp2_with (rw[bA 23 _];refine fw b kL rfl CX ?_)
 refine bodyPost_ret (di rfl _ _ (a.heap.size+1) 23 bF (0,0) _ rfl (setRow_heap _ _ _ _ _ _ b) AB rfl kL) rfl ?_
 exact⟨rfl,below_setRow c ah _⟩
theorem XK(a:Nat×Nat):((bM a).toArray.all λb=>b.oneCell')=true:=by rw[List.all_toArray];rfl
theorem Vp(m:Nat)(A:Option Nat)(s:Int)(k:List aj)(f d:Nat)(hs:f<=1099511627776)(Å:d < f)(g:aj)(Γ:g.length=32)(l:List aj)(Δ:Option Addr)(n ç:Nat)(c:World)(ο:bn c)(ρ:1 < m)(U:om c m A s k)
  (Æ:∀Y∈k,Y.length=65)(Z:k.length+n < 1099511627776)(H:j6 c Δ n l)(Θ:0 < n->∀B o,Δ=some ⟨B,o,none⟩->B≠m/\some B≠A)(α:(sides f d).length=n):
  Calls prog 222 #[.pointer (some ⟨m,0,none⟩),.int .i64 (f:Int),.int .i64 (d:Int),.agg (ak g).toArray,.slice Δ n ç] c λr h=>r=.returned (.tuple #[.agg (ak (iy s (g,k) ((sides f d).zip l) n).1).toArray,.int .i64 0])/\FY c m A s (iy s (g,k) ((sides f d).zip l) n).2 h:=by
 have Ç:Hid (Below c.heap.size c ((c.alloc (.cells (ak g).toArray 23)).alloc (.cells bF 23))):=(Below.aJ c _).alloc aZ _
 have È:Hid (((c.alloc (.cells (ak g).toArray 23)).alloc (.cells bF 23)).heap.size=c.heap.size+2):=by show _=_;simp
 have É:Hid (aL ((c.alloc (.cells (ak g).toArray 23)).alloc (.cells bF 23)) (c.heap.size+1) 23 bF):=by
  have:=aL.new (c.alloc (.cells (ak g).toArray 23)) 23 bF;rwa[show(c.alloc (.cells (ak g).toArray 23)).heap.size=c.heap.size+1 by simp]at this
 have Ê:Hid (aL ((c.alloc (.cells (ak g).toArray 23)).alloc (.cells bF 23)) c.heap.size 23 (ak g).toArray):=(aL.new c 23 (ak g).toArray).alloc _
 have Ë:Hid (bP (f:Int) (d:Int)=true):=by
  show _=_;have u:(1:Int)<=f:=ah;have C:(f:Int)<=1099511627776:=ah;have Ì:(0:Int)<=d:=ah;have è:(d:Int) < f:=ah;simp[bP,u,C,Ì,è]
 have Í:Hid (Calls prog 269 #[.int .i64 (f:Int),.int .i64 (d:Int)] ((c.alloc (.cells (ak g).toArray 23)).alloc (.cells bF 23)) λr h=>∃(v:Value) (E:List (Nat×Nat)),r=.returned v/\E.map (sd d)=sides f d/\h.ownsRow (c.heap.size+2) 380 2 v E.length (dU E)/\Below (c.heap.size+2) ((c.alloc (.cells (ak g).toArray 23)).alloc (.cells bF 23)) h):=by
  have:=JJ f d hs Å ((c.alloc (.cells (ak g).toArray 23)).alloc (.cells bF 23));rwa[È.out]at this
 have β:Hid (m < c.heap.size):=by obtain⟨v,é,ê,-⟩:=U;exact ê.lt
 have Î:Hid (∀e,A=some e->m < e/\e < c.heap.size):=by obtain⟨v,é,-,-,-,a,-⟩:=U;exact a
 have γ:=AA<|λe (r:A=some e)=>(Î.out e r).2
 have Ï:Hid (¬((λe=>e=m\/some e=A) 1)):=λa=>by rcases a with a | a;omega;(have:=(Î.out _ a.symm).1;omega)
 have Ð:Hid (((sides f d).zip l).length=n):=by show _=_;rw[List.length_zip,α,H.1];omega
 have Ñ:=H.2.1
 have Ξ:Hid (∀b,b<=n->∀Y∈(iy s (g,k) ((sides f d).zip l) b).2,Y.length=65):=λb D=>vO Γ Æ (λp δ=>Ñ _ (List.of_mem_zip (show(p.1,p.2)∈_ from δ)).2) b (Ð.out ▸ D)
 have Ò:Hid (∀b,b<=n->(iy s (g,k) ((sides f d).zip l) b).1.length=32/\(iy s (g,k) ((sides f d).zip l) b).2.length=k.length+b):=λb D=>q9 Γ b (Ð.out ▸ D)
 replace ο:=AA ο
 replace ρ:=AA ρ
 replace Z:=AA Z
 replace α:=AA α
 replace Θ:=AA Θ
 replace H:=AA H
 replace U:=AA U
 replace hs:=AA hs
 clear Å Æ Γ Ñ
 go_enter func222,ntmps222
 go_wp2_with fail
 refine(xZ (f:Int) (d:Int) _).mono ?_
 rw[Ë.out]
 rintro r ó ⟨rfl,rfl⟩
 go_wp2_with fail
 refine Í.out.mono ?_
 rintro r V ⟨v,E,rfl,σ,Ó,ε⟩
 obtain⟨ô,õ,rfl,Ô,ë,Õ,τ,Φ⟩:=Own.reads Ó
 have Ö:E.length=(sides f d).length:=by rw[<-σ,List.length_map]
 have ζ:E.length=n:=by rw[Ö,α.out]
 rw[ζ]at τ Ô Õ
 rw[ζ]
 clear Ö α
 replace ζ:=AA ζ
 have ö:((n:Int)==(n:Int))=true:=beq_self_eq_true _
 have ì:Hid (aL V (c.heap.size+1) 23 bF):=(ε.block _ ah).trans É.out
 have Ø:Hid (aL V c.heap.size 23 (ak g).toArray):=(ε.block _ ah).trans Ê.out
 have υ:Hid (c.heap.size+2<=V.heap.size):=by have:=ε.size;have:=È.out;show _<=_;omega
 have Ù:=AA<|Ç.out.trans (ε.mono ah)
 have Ú:Hid (Dp V V m A c.heap.size s (iy s (g,k) ((sides f d).zip l) 0)):=by
  show Dp _ _ _ _ _ _ _;rw[rY];exact⟨Ø.out,⟨A,rq.kept U.out (au.of_below Ù.out) (λa=>a) (λ_ _ a=>a),.inl rfl⟩,au.refl _ _⟩
 replace τ:=AA τ
 replace Φ:=AA Φ
 replace σ:=AA σ
 clear Ó ε É Ê Ç Ø U Ô ë Õ Ë Í
 have ø:(n:Int)<=1099511627776:=aC Z
 go_wp2_with fail
 go_loopw [31] (λv wr=>∃b:Nat,v=.int .i64 (b:Int)/\b<=n/\Hid (Dp V wr m A c.heap.size s (iy s (g,k) ((sides f d).zip l) b))) (λv _=>(n - intOf v).toNat)
 case atStart=>exact⟨0,rfl,AX _,Ú.out⟩
 case round=>
  clear Ú;obtain⟨b,rfl,D,q⟩:=hrel;have φ:Hid (au (λe=>e=m\/some e=A) c wr):=(au.of_below Ù.out).trans q.out.kept (λe í a=>by rcases a with a | a | a;exact .inl a;exact .inr a;omega);(have Ψ:=AA<|ì.out.kept q.out.kept (λa=>by have:=β.out;rcases a with a | a | a;omega;(have:=γ.out _ a.symm;omega);omega));by_cases Ω:b < n
  ·obtain⟨p,δ⟩:∃p,E[b]?=some p:=⟨_,AV (aC ζ)⟩
   obtain⟨i,hd⟩:∃i,l[b]?=some i:=⟨_,AV (aC H.out.1)⟩;have Û:((sides f d).zip l)[b]?=some (sd d p,i):=List.getElem?_zip_eq_some.2 ⟨by rw[<-σ.out,List.getElem?_map,δ];rfl,hd⟩;have η:=nG (s:=s) (st:=(g,k)) Û;have I:=Ò.out b D;obtain⟨st,χ⟩:∃st,iy s (g,k) ((sides f d).zip l) b=st:=⟨_,rfl⟩;rw[χ]at η I q;have J:=AA I.1;have Ü:=AA I.2;have À:=AA (H.out.2.1.at_ hd);have Ý:=AA (aP (x:=st.1) J.out);have Þ:=AA (aP (x:=i) À.out);obtain⟨ψ,W,L⟩:=q.out.cl;replace W:=AA W;replace L:=AA L;obtain⟨M,op,rfl,ß,à⟩:=τ.out.at_ ah;have á:=(Φ.out _ rfl).1
   have â:=AA<|λe v Á=>by
    have u:=za E [] b p δ e v Á;rw[List.append_nil,List.getElem?_toArray]at u;have C:=à _ v u;rw[<-Nat.add_assoc]at C;exact(q.out.kept.cell (p:=⟨M,op+b*2+e,none⟩) ß (λa=>by have Ì:c.heap.size+2<=M:=á;have:=β.out;rcases a with a | a | a;(have a:M=m:=a;omega);(have:=γ.out M a.symm;omega);(have a:M=c.heap.size:=a;omega))).trans C
   obtain⟨B,o,rfl,ã,ä⟩:=H.out.at_ hd;have î:=ã;(have X:=AA<|λh (θ:Below wr.heap.size wr h) e v (Á:(ak i)[e]?=some v)=>((φ.out.trans (T:=λ_=>False) (au.of_below θ) (λ_ _ a=>a.elim)).cell (p:=⟨B,o+b*32+e,none⟩) î (λa=>by have C:=Θ.out ah B o rfl;rcases a with a | a;exact C.1 a;exact C.2 a)).trans (ä e v Á));have F:=AA Ω;have ù:(0:Int)<=(b:Int):=ah;have ï:(b:Int) < (n:Int):=ah;clear D Ω δ hd Û I à ä ã ß á χ;by_cases ω:d < p.1
   ·have N:Hid (iy s (g,k) ((sides f d).zip l) (b+1)=(nP s st.1 i,st.2++[kb 1 :: (st.1++i)])):=by
     show _=_;rw[η,rf];simp[sd,ω]
    obtain⟨z,O⟩:∃z,Hid (nP s st.1 i=z):=⟨_,AA rfl⟩;have t:=AA (aP (x:=z) (O.out ▸ gY s _ _));have kg:(d:Int) < (p.1:Int):=ah;clear ω η
    go_wp2_with (first
     |(rw[bY 35];refine ow (o:=⟨some 35,_,_,_,_,_⟩) rfl 380 (.tmp 34) rfl (M) (op+b*2) rfl (bM p) _ â.out BP rfl uV ?_)
     |(rw[iE 380 14];refine fZ (o:=⟨none,_,_,_,_,_⟩) rfl 380 (.tmp 14) (.tmp 35) rfl (wr.heap.size) ((bM p).toArray) rfl rfl 380 (#[.int .i64 0,.int .i64 0]) (aL.new wr _ _) uV rfl (XK p) ?_;intro w ι κ;have ð:w.cell? ⟨wr.heap.size,0,none⟩=some (.int .i64 (p.1:Int)):=ι.cell 0;have y:=AA<|(Below.aJ wr _).trans ((au.aW κ (AJ _) aZ));have μ:Hid (aL w c.heap.size 23 (ak st.1).toArray):=(y.out.block _ q.out.leaf.lt).trans q.out.leaf;replace X:=AA (λh (θ:Below w.heap.size w h)=>X.out h (y.out.trans (θ.mono y.out.size)));clear κ ι))
    refine xP 6 (aA w) (aA.jD ((Below.refl _ _).drew)) ?_;refine xU rfl (.tmp 0) rfl ?_;(intro K j;go_simp;refine j _ ?_;clear j K);refine RJ rfl 23 (.tmp 8) rfl c.heap.size rfl 23 ((ak st.1).toArray) (0,0) _ (λh G=>(G.below.block _ μ.out.lt).trans μ.out) AB rfl Ý.out.size ?_;(intro K j;go_simp;refine j _ ?_;clear j K);refine xU rfl (.tmp 4) rfl ?_;(intro K j;go_simp;refine j _ ?_;clear j K);refine xU rfl (.tmp 13) rfl ?_;(intro K j;go_simp;refine j _ ?_;clear j K);refine bD (v:=.pointer (some ⟨B,o+b*32,none⟩)) rfl (λh G=>by go_simp) ?_;(intro K j;go_simp;refine j _ ?_;clear j K);refine zT rfl 23 (.tmp 44) rfl B (o+b*32) rfl (ak i) _ (λh G=>X.out h G.below) AB rfl Þ.out.part ?_;(intro K j;go_simp;refine j _ ?_;clear j K);refine bR ?_;intro Â Ã;(have P:=AA<|y.out.trans (Ã.below.mono y.out.size));(have Ä:=AA<|φ.out.trans (T:=λ_=>False) (au.of_below P.out) (λ_ _ a=>a.elim));go_wp2_with fail;refine(sW m ψ s st.2 st.1 i J.out À.out Â (ο.out.kept Ä.out Ï.out) ρ.out (rq.kept W.out (au.of_below P.out) (λa=>a) (λ_ _ a=>a)) (pV Ü Z F)).mono ?_;rw[O.out];rintro r ñ ⟨rfl,ν⟩;obtain⟨Q,R⟩:=Dp.step (st':=(z,st.2++[kb 1 :: (st.1++i)])) q.out L.out P.out ν (by have a:=Ξ.out (b+1) F.out;rw[N.out]at a;exact a) J.out β.out γ.out (aC υ);rw[O.out]at N;replace R:=AA R;replace Q:=AA Q;have ξ:=AA (t.out.same st.1 J.out);clear ν;go_wp2_with ((with_reducible change wpList _ _ _ ({dst:=none,op:=Op.store 23 _ _,type:=_,pos:=_,after:=_,guard:=_} :: _) _ _);refine wpList_store_row (o:=⟨none,_,_,_,_,_⟩) rfl 23 (.tmp 8) (.tmp 46) rfl (c.heap.size) ((ak z).toArray) rfl rfl 23 ((ak st.1).toArray) Q.out t.out.size ξ.out t.out.one ?_);go_roundw
    case rel=>exact⟨b+1,by go_num,F.out,(N.out ▸ R.out)⟩
    case measure=>(have:=F.out;simp[intOf];omega)
   ·have N:Hid (iy s (g,k) ((sides f d).zip l) (b+1)=(nP s i st.1,st.2++[kb 1 :: (i++st.1)])):=by
     show _=_;rw[η,rf];simp[sd,ω]
    obtain⟨z,O⟩:∃z,Hid (nP s i st.1=z):=⟨_,AA rfl⟩;have t:=AA (aP (x:=z) (O.out ▸ gY s _ _));have kg:¬((d:Int) < (p.1:Int)):=ah;clear ω η
    go_wp2_with (first
     |(rw[bY 35];refine ow (o:=⟨some 35,_,_,_,_,_⟩) rfl 380 (.tmp 34) rfl (M) (op+b*2) rfl (bM p) _ â.out BP rfl uV ?_)
     |(rw[iE 380 14];refine fZ (o:=⟨none,_,_,_,_,_⟩) rfl 380 (.tmp 14) (.tmp 35) rfl (wr.heap.size) ((bM p).toArray) rfl rfl 380 (#[.int .i64 0,.int .i64 0]) (aL.new wr _ _) uV rfl (XK p) ?_;intro w ι κ;have ð:w.cell? ⟨wr.heap.size,0,none⟩=some (.int .i64 (p.1:Int)):=ι.cell 0;have y:=AA<|(Below.aJ wr _).trans ((au.aW κ (AJ _) aZ));have μ:Hid (aL w c.heap.size 23 (ak st.1).toArray):=(y.out.block _ q.out.leaf.lt).trans q.out.leaf;replace X:=AA (λh (θ:Below w.heap.size w h)=>X.out h (y.out.trans (θ.mono y.out.size)));clear κ ι))
    refine xP 6 (aA w) (aA.jD ((Below.refl _ _).drew)) ?_;(iterate 4 refine aG ?_);refine dh B (o+b*32) (ak i) (λh G=>X h G.below) Þ.part AB ?_;refine gu (λh G=>(G.below.block _ μ.lt).trans μ) Ý.size AB ?_;refine bR ?_;intro Â Ã;(have P:=AA<|y.trans (Ã.below.mono y.size));(have Ä:=AA<|φ.trans (T:=λ_=>False) (au.of_below P) (λ_ _ a=>a.elim));go_wp2_with fail;refine(sW m ψ s st.2 i st.1 À J Â (ο.kept Ä Ï) ρ (rq.kept W (au.of_below P) (λa=>a) (λ_ _ a=>a)) (pV Ü Z F)).mono ?_;rw[O.out];rintro r ñ ⟨rfl,ν⟩;obtain⟨Q,R⟩:=Dp.step (st':=(z,st.2++[kb 1 :: (i++st.1)])) q L P ν (by have a:=Ξ (b+1) F;rw[N.out]at a;exact a) J β γ (aC υ);rw[O.out]at N;replace R:=AA R;replace Q:=AA Q;have ξ:=AA (t.same st.1 J);clear ν;go_wp2_with (rw[bA 23 _];refine fw Q t.size ξ t.one ?_);go_roundw
    case rel=>exact⟨b+1,by go_num,F,(N.out ▸ R)⟩
    case measure=>(have:=F.out;simp[intOf];omega)
  ·obtain rfl:b=n:=ah
   have ï:¬((b:Int) < (b:Int)):=ah;have I:=AA (Ò b D);have å:=AA (Ξ b D);obtain⟨st,χ⟩:∃st,iy s (g,k) ((sides f d).zip l) b=st:=⟨_,rfl⟩;rw[χ]at q I å;have t:=AA (aP (x:=st.1) I.1);have ò:=AA q.leaf;clear D Ω
   go_wp2_with (first
    |(rw[aF 55];refine aM ò t.size AB ?_)
    |(rw[bA 23 _];refine fw Ψ t.size t.zero t.one ?_))
   refine bodyPost_ret (di rfl _ _ (c.heap.size+1) 23 (ak st.1).toArray (0,0) _ rfl (setRow_heap _ _ _ _ _ _ Ψ) AB rfl t.size) rfl ?_;obtain⟨ψ,W,L⟩:=q.cl;refine⟨rfl,ψ,?_,?_,?_⟩
   ·refine(om.off W Ψ (λY ξ=>by rw[å.out Y ξ];simp[bF])).kept (au.setRow (S:=λe=>e=c.heap.size+1) (au.refl _ _) rfl _) (aC β) (λe r a=>?_)
    rcases L with u |⟨æ,u,C⟩
    ·have:=γ e (by rw[<-u,r]);omega
    ·rw[u]at r;have:=AL r;have:=υ.out;omega
   ·exact φ.trans (au.setRow (S:=λe=>e=c.heap.size+1) (au.refl _ _) rfl _) (λe í a=>by omega)
   ·rcases L with u |⟨æ,u,C⟩
    ·exact .inl u
    ·exact .inr ⟨æ,u,by have:=υ.out;omega⟩
def p8(T:TypeId)(w:World)(L:List (Nat×Nat))(e:Ending)(w':World):Prop:=∃v,e=.returned v/\w'.ownsRow w.heap.size T 2 v L.length (dU L)/\av w w'
theorem KR(c a:Nat)(b:World):Calls prog 266 #[.agg #[.int .i64 (c:Int),.int .i64 (a:Int)],.int .i64 (a:Int),.bool true] b (p8 380 b []):=by
 (have d:=AA<|Below.aJ b (.cells #[.int .i64 (c:Int),.int .i64 (a:Int)] 380));have b:((a:Int)==(a:Int))=true:=beq_self_eq_true _;(go_enter BI,ntmps266);go_wp2_with fail;go_ret;exact⟨_,rfl,Aa _ _ _ _,d⟩
theorem Nt(c a:Nat)(b:World):Calls prog 266 #[.agg #[.int .i64 (c:Int),.int .i64 (a:Int)],.int .i64 (a:Int),.bool false] b (p8 380 b [(c,a)]):=by
 obtain⟨d,e⟩:=bG (b.alloc (.cells #[.int .i64 (c:Int),.int .i64 (a:Int)] 380));have f:Hid (av b d):=e.out ▸ Below.aJ b _;have g:Hid (aL d b.heap.size 380 #[.int .i64 (c:Int),.int .i64 (a:Int)]):=e.out ▸ aL.new b _ _;have g:((a:Int)==(a:Int))=true:=beq_self_eq_true _
 have g:Hid ((d.alloc (.cells (bM (c,a)).toArray 380)).ownsRow b.heap.size 380 2 (.slice (some ⟨d.heap.size,0,none⟩) 1 1) 1 (bM (c,a))):=
  ⟨rfl,.inr ⟨d.heap.size,1,(bM (c,a)).toArray,rfl,f.size,heap_alloc_new d _,AJ _,by decide,rfl,rfl⟩⟩
 (go_enter BI,ntmps266);go_wp2_with fail;go_ret;(have h:d.heap.size=b.heap.size+1:=by rw[e.out];simp);have b:=g.out;have d:=f.alloc f.size (.cells (bM (c,a)).toArray 380);rw[h,e.out]at b;rw[e.out]at d;exact⟨_,rfl,b,d⟩
theorem Nu(d a f:Nat)(B:d < f)(C:f < a)(D:a<=1099511627776)(r:f - d<=ay (a - d))(b:Bool)(l:List (Nat×Nat))(E:l.length<=41)(e:World)
  (q:∀e,Calls prog 266 #[.agg #[.int .i64 (d:Int),.int .i64 ((d+ay (a - d):Nat):Int)],.int .i64 (f:Int),.bool b] e (p8 380 e l)):
  Calls prog 266 #[.agg #[.int .i64 (d:Int),.int .i64 (a:Int)],.int .i64 (f:Int),.bool b] e (p8 380 e (l++[(d+ay (a - d),a)])):=by
 obtain⟨b,I,J,L,M⟩:=bV SL
 obtain⟨h,o⟩:=bG (e.alloc (.cells #[.int .i64 (d:Int),.int .i64 (a:Int)] 380))
 have s:Hid (av e h):=o.out ▸ Below.aJ e _
 have k:Hid (aL h e.heap.size 380 #[.int .i64 (d:Int),.int .i64 (a:Int)]):=o.out ▸ aL.new e _ _
 have b:((f:Int)==(a:Int))=false:=beq_eq_false_iff_ne.2 ah
 have b:¬f=a:=ah
 obtain⟨g,hd⟩:∃g,a - d=g:=⟨_,rfl⟩
 have v:2<=g:=ah
 have w:=fK v
 have x:=AA (λb=>nU g v ah b)
 rw[hd]at q r ⊢
 obtain⟨m,y⟩:∃c,ay g=c:=⟨_,rfl⟩
 rw[y]at q r x w ⊢
 obtain⟨c,A⟩:∃c,d+m=c:=⟨_,rfl⟩
 rw[A]at q ⊢
 have n:(a:Int) - (d:Int)=(g:Int):=ah
 have t:(d:Int)+(m:Int)=(c:Int):=ah
 have z:IntKind.i64.wrap ((a:Int) - (d:Int))=(g:Int):=by rw[n];exact AO _ ah
 have n:IntKind.i64.wrap ((d:Int)+(m:Int))=(c:Int):=by rw[t];exact AO _ ah
 have m:=AO (g:Int) ah
 have g:=AO (c:Int) ah
 have g:((f:Int)<=(c:Int)):=ah
 have n:Hid (∀b,av h b->b.cell? ⟨e.heap.size,0,none⟩=some (.int .i64 (d:Int))/\b.cell? ⟨e.heap.size,1,none⟩=some (.int .i64 (a:Int))):=λb f=>⟨(f.cell (p:=⟨e.heap.size,0,none⟩) k.lt).trans (k.cell 0),(f.cell (p:=⟨e.heap.size,1,none⟩) k.lt).trans (k.cell 1)⟩
 obtain⟨m,t⟩:∃m,l.length=m:=⟨_,rfl⟩
 have z:Hid (m<=41):=by show _<=_;omega
 replace t:=AA t
 replace q:=AA q
 clear B C D r hd v w y A E
 go_enter BI,ntmps266
 go_wp2_with fail
 change(Code.region _ _ _).wp _ _ _ (e.alloc (.cells #[.int .i64 (d:Int),.int .i64 (a:Int)] 380))
 rw[<-o.out]
 clear o
 refine cB (aA h) (aA.jD ((Below.refl _ _).drew)) ?_
 refine aG ?_
 refine bC (λb e=>(n b e.below).1) ?_
 refine aG ?_
 refine bC (λb e=>(n b e.below).2) ?_
 refine aG ?_
 refine bC (λb e=>(n b e.below).1) ?_
 refine aG ?_
 refine cZ func292 (λb e=>(x b).mono (λg h ⟨v,f⟩=>⟨v,by rw[<-f];exact e⟩)) ?_
 iterate 2 refine aG ?_
 refine bR ?_
 intro d o
 have A:=AA<|s.trans (o.below.mono s.size)
 have r:=AA<|λb (f:av d b)=>n b (o.below.trans (f.mono o.below.size))
 clear o n k s
 go_wp2_with fail
 have aD:Hid (av d d.drew):=(Below.refl _ _).drew
 refine dI (λb=>av d b) 14 ?_
 refine aH 0 aD ?_
 refine eG 1 aD (λb e=>(r b e).1) ?_
 refine aH 2 aD ?_
 refine aH 3 aD ?_
 refine aH 4 aD ?_
 refine aH 5 aD ?_
 refine aH 7 aD ?_
 refine aH 8 aD ?_
 refine eG 9 aD (λb e=>(r b e).2) ?_
 refine aH 10 aD ?_
 refine iP (i:=6) (j:=11) rfl rfl bH (by rfl) (by rfl) (λK o=>?_) (λK o=>?_)
 ·refine cK (R:=λr h=>h.ownsRow d.heap.size 380 2 r m (dU l)/\av d h/\Below (d.drew).heap.size (d.drew) h) BI ((q _).mono λg h ⟨r,v,C,f⟩=>⟨_,v,by rw[<-t.out];exact cO C aD.size,aD.trans (f.mono aD.size),f⟩) ?_
  rintro e n ⟨b,k,B⟩;obtain⟨N,O,rfl,-⟩:=Own.reads b;replace b:=AA b;replace k:=AA k;clear B;go_simp;refine o _ _ k ?_;clear o K;refine fP 11 (λK o=>?_);refine ig 316 380 1 _ rfl 2 aR [bM (c,a)] A8 uV Gp rfl aR aR (λr w=>by simp only[List.mem_singleton]at w;rw[w];rfl) rfl ?_;have e:Hid (av d (n.alloc (.cells (bM (c,a)).toArray 380))):=k.alloc k.size _;have x:Hid (ax (n.alloc (.cells (bM (c,a)).toArray 380)) 2 (some ⟨n.heap.size,0,none⟩) 1 (bM (c,a))):=aL.reads (aL.new n 380 (bM (c,a)).toArray) 0 _ rfl (λj u D=>by rw[Nat.zero_add,List.getElem?_toArray];exact D);change K _ (n.alloc (.cells (bM (c,a)).toArray 380));replace b:Hid ((n.alloc (.cells (bM (c,a)).toArray 380)).ownsRow d.heap.size 380 2 (.slice N m O) m (dU l)):=aK b (Below.aJ _ _);go_simp;refine o _ _ e ?_;clear o K;refine aU 12 ?_;refine jK (.tmp 33) (.tmp 38) A8 I J L M b x (λg=>by cases g) (kP _) (iI (aC z)).1 (iI (aC z)).2 e.size ?_;intro E F y;(have n:F.ownsRow d.heap.size 380 2 E (m+1) (dU (l++[(c,a)])):=by rw[lW];exact y.own);have s:=y.below e e.size (λG g=>(b.lt G g).1);have H:=aQ A s;obtain⟨P,Q,rfl,-⟩:=Own.reads n;replace n:=AA n;refine aV s ?_;refine aH 13 s ?_;refine bT ?_;go_wp2_with fail;go_ret;exact⟨_,rfl,by rw[List.length_append,t.out];exact cO n A.size,H⟩
 ·refine ig 316 380 1 _ rfl 2 aR [bM (c,a)] A8 uV Gp rfl aR aR (λr w=>by simp only[List.mem_singleton]at w;rw[w];rfl) rfl ?_
  have k:Hid (av d (d.drew.alloc (.cells (bM (c,a)).toArray 380))):=aD.alloc aD.size _;have x:Hid (ax (d.drew.alloc (.cells (bM (c,a)).toArray 380)) 2 (some ⟨d.drew.heap.size,0,none⟩) 1 (bM (c,a))):=aL.reads (aL.new d.drew 380 (bM (c,a)).toArray) 0 _ rfl (λj u D=>by rw[Nat.zero_add,List.getElem?_toArray];exact D);change K _ (d.drew.alloc (.cells (bM (c,a)).toArray 380));go_simp;refine o _ _ k ?_;clear o K;refine aU 6 ?_;refine cK (R:=λr h=>h.ownsRow d.heap.size 380 2 r m (dU l)/\av d h/\Below (d.drew.alloc (.cells (bM (c,a)).toArray 380)).heap.size (d.drew.alloc (.cells (bM (c,a)).toArray 380)) h) BI ((q _).mono λg h ⟨r,v,C,f⟩=>⟨_,v,by rw[<-t.out];exact cO C k.size,k.trans (f.mono k.size),f⟩) ?_;rintro f h ⟨b,e,B⟩;obtain⟨N,O,rfl,-⟩:=Own.reads b;replace b:=AA b;replace e:=AA e;replace x:=AA (x.below B);clear B;refine aV e ?_;refine aU 12 ?_;refine jK (.tmp 33) (.tmp 38) A8 I J L M b x (λg=>by cases g) (kP _) (iI (aC z)).1 (iI (aC z)).2 e.size ?_;intro E F y;(have n:F.ownsRow d.heap.size 380 2 E (m+1) (dU (l++[(c,a)])):=by rw[lW];exact y.own);have s:=y.below e e.size (λG g=>(b.lt G g).1);have H:=aQ A s;obtain⟨P,Q,rfl,-⟩:=Own.reads n;replace n:=AA n;refine aV s ?_;refine aH 13 s ?_;refine bT ?_;go_wp2_with fail;go_ret;exact⟨_,rfl,by rw[List.length_append,t.out];exact cO n A.size,H⟩
theorem KQ(a d f:Nat)(B:a < f)(C:f < d)(D:d<=1099511627776)(r:ay (d - a) < f - a)(b:Bool)(l:List (Nat×Nat))(E:l.length<=41)(e:World)
  (q:∀e,Calls prog 266 #[.agg #[.int .i64 ((a+ay (d - a):Nat):Int),.int .i64 (d:Int)],.int .i64 (f:Int),.bool false] e (p8 380 e l)):
  Calls prog 266 #[.agg #[.int .i64 (a:Int),.int .i64 (d:Int)],.int .i64 (f:Int),.bool b] e (p8 380 e (l++[(a,a+ay (d - a))])):=by
 obtain⟨b,I,J,L,M⟩:=bV SL
 obtain⟨h,o⟩:=bG (e.alloc (.cells #[.int .i64 (a:Int),.int .i64 (d:Int)] 380))
 have s:Hid (av e h):=o.out ▸ Below.aJ e _
 have k:Hid (aL h e.heap.size 380 #[.int .i64 (a:Int),.int .i64 (d:Int)]):=o.out ▸ aL.new e _ _
 have b:((f:Int)==(d:Int))=false:=beq_eq_false_iff_ne.2 ah
 have b:¬f=d:=ah
 obtain⟨g,hd⟩:∃g,d - a=g:=⟨_,rfl⟩
 have v:2<=g:=ah
 have w:=fK v
 have x:=AA (λb=>nU g v ah b)
 rw[hd]at q r ⊢
 obtain⟨m,y⟩:∃c,ay g=c:=⟨_,rfl⟩
 rw[y]at q r x w ⊢
 obtain⟨c,A⟩:∃c,a+m=c:=⟨_,rfl⟩
 rw[A]at q ⊢
 have n:(d:Int) - (a:Int)=(g:Int):=ah
 have t:(a:Int)+(m:Int)=(c:Int):=ah
 have z:IntKind.i64.wrap ((d:Int) - (a:Int))=(g:Int):=by rw[n];exact AO _ ah
 have n:IntKind.i64.wrap ((a:Int)+(m:Int))=(c:Int):=by rw[t];exact AO _ ah
 have m:=AO (g:Int) ah
 have g:=AO (c:Int) ah
 have g:¬((f:Int)<=(c:Int)):=ah
 have n:Hid (∀b,av h b->b.cell? ⟨e.heap.size,0,none⟩=some (.int .i64 (a:Int))/\b.cell? ⟨e.heap.size,1,none⟩=some (.int .i64 (d:Int))):=λb f=>⟨(f.cell (p:=⟨e.heap.size,0,none⟩) k.lt).trans (k.cell 0),(f.cell (p:=⟨e.heap.size,1,none⟩) k.lt).trans (k.cell 1)⟩
 obtain⟨m,t⟩:∃m,l.length=m:=⟨_,rfl⟩
 have z:Hid (m<=41):=by show _<=_;omega
 replace t:=AA t
 replace q:=AA q
 clear B C D r hd v w y A E
 go_enter BI,ntmps266
 go_wp2_with fail
 change(Code.region _ _ _).wp _ _ _ (e.alloc (.cells #[.int .i64 (a:Int),.int .i64 (d:Int)] 380))
 rw[<-o.out]
 clear o
 refine cB (aA h) (aA.jD ((Below.refl _ _).drew)) ?_
 refine aG ?_
 refine bC (λb e=>(n b e.below).1) ?_
 refine aG ?_
 refine bC (λb e=>(n b e.below).2) ?_
 refine aG ?_
 refine bC (λb e=>(n b e.below).1) ?_
 refine aG ?_
 refine cZ func292 (λb e=>(x b).mono (λg h ⟨v,f⟩=>⟨v,by rw[<-f];exact e⟩)) ?_
 iterate 2 refine aG ?_
 refine bR ?_
 intro d o
 have A:=AA<|s.trans (o.below.mono s.size)
 have r:=AA<|λb (f:av d b)=>n b (o.below.trans (f.mono o.below.size))
 clear o n k s
 go_wp2_with fail
 have aD:Hid (av d d.drew):=(Below.refl _ _).drew
 refine dI (λb=>av d b) 13 ?_
 refine aH 0 aD ?_
 refine aH 1 aD ?_
 refine eG 2 aD (λb e=>(r b e).2) ?_
 refine aH 3 aD ?_
 refine aH 4 aD ?_
 refine aH 6 aD ?_
 refine eG 7 aD (λb e=>(r b e).1) ?_
 refine aH 8 aD ?_
 refine aH 9 aD ?_
 refine iP (i:=5) (j:=10) rfl rfl bH (by rfl) (by rfl) (λK o=>?_) (λK o=>?_)
 ·refine cK (R:=λr h=>h.ownsRow d.heap.size 380 2 r m (dU l)/\av d h/\Below (d.drew).heap.size (d.drew) h) BI ((q _).mono λg h ⟨r,v,C,f⟩=>⟨_,v,by rw[<-t.out];exact cO C aD.size,aD.trans (f.mono aD.size),f⟩) ?_
  rintro e n ⟨b,k,B⟩;obtain⟨N,O,rfl,-⟩:=Own.reads b;replace b:=AA b;replace k:=AA k;clear B;go_simp;refine o _ _ k ?_;clear o K;refine fP 10 (λK o=>?_);refine ig 316 380 1 _ rfl 2 aR [bM (a,c)] A8 uV Gp rfl aR aR (λr w=>by simp only[List.mem_singleton]at w;rw[w];rfl) rfl ?_;have e:Hid (av d (n.alloc (.cells (bM (a,c)).toArray 380))):=k.alloc k.size _;have x:Hid (ax (n.alloc (.cells (bM (a,c)).toArray 380)) 2 (some ⟨n.heap.size,0,none⟩) 1 (bM (a,c))):=aL.reads (aL.new n 380 (bM (a,c)).toArray) 0 _ rfl (λj u D=>by rw[Nat.zero_add,List.getElem?_toArray];exact D);change K _ (n.alloc (.cells (bM (a,c)).toArray 380));replace b:Hid ((n.alloc (.cells (bM (a,c)).toArray 380)).ownsRow d.heap.size 380 2 (.slice N m O) m (dU l)):=aK b (Below.aJ _ _);go_simp;refine o _ _ e ?_;clear o K;refine aU 11 ?_;refine jK (.tmp 45) (.tmp 50) A8 I J L M b x (λg=>by cases g) (kP _) (iI (aC z)).1 (iI (aC z)).2 e.size ?_;intro E F y;(have n:F.ownsRow d.heap.size 380 2 E (m+1) (dU (l++[(a,c)])):=by rw[lW];exact y.own);have s:=y.below e e.size (λG g=>(b.lt G g).1);have H:=aQ A s;obtain⟨P,Q,rfl,-⟩:=Own.reads n;replace n:=AA n;refine aV s ?_;refine aH 12 s ?_;refine bT ?_;go_wp2_with fail;go_ret;exact⟨_,rfl,by rw[List.length_append,t.out];exact cO n A.size,H⟩
 ·refine ig 316 380 1 _ rfl 2 aR [bM (a,c)] A8 uV Gp rfl aR aR (λr w=>by simp only[List.mem_singleton]at w;rw[w];rfl) rfl ?_
  have k:Hid (av d (d.drew.alloc (.cells (bM (a,c)).toArray 380))):=aD.alloc aD.size _;have x:Hid (ax (d.drew.alloc (.cells (bM (a,c)).toArray 380)) 2 (some ⟨d.drew.heap.size,0,none⟩) 1 (bM (a,c))):=aL.reads (aL.new d.drew 380 (bM (a,c)).toArray) 0 _ rfl (λj u D=>by rw[Nat.zero_add,List.getElem?_toArray];exact D);change K _ (d.drew.alloc (.cells (bM (a,c)).toArray 380));go_simp;refine o _ _ k ?_;clear o K;refine aU 5 ?_;refine cK (R:=λr h=>h.ownsRow d.heap.size 380 2 r m (dU l)/\av d h/\Below (d.drew.alloc (.cells (bM (a,c)).toArray 380)).heap.size (d.drew.alloc (.cells (bM (a,c)).toArray 380)) h) BI ((q _).mono λg h ⟨r,v,C,f⟩=>⟨_,v,by rw[<-t.out];exact cO C k.size,k.trans (f.mono k.size),f⟩) ?_;rintro f h ⟨b,e,B⟩;obtain⟨N,O,rfl,-⟩:=Own.reads b;replace b:=AA b;replace e:=AA e;replace x:=AA (x.below B);clear B;refine aV e ?_;refine aU 11 ?_;refine jK (.tmp 45) (.tmp 50) A8 I J L M b x (λg=>by cases g) (kP _) (iI (aC z)).1 (iI (aC z)).2 e.size ?_;intro E F y;(have n:F.ownsRow d.heap.size 380 2 E (m+1) (dU (l++[(a,c)])):=by rw[lW];exact y.own);have s:=y.below e e.size (λG g=>(b.lt G g).1);have H:=aQ A s;obtain⟨P,Q,rfl,-⟩:=Own.reads n;replace n:=AA n;refine aV s ?_;refine aH 12 s ?_;refine bT ?_;go_wp2_with fail;go_ret;exact⟨_,rfl,by rw[List.length_append,t.out];exact cO n A.size,H⟩
theorem z8:∀(f a b c:Nat) (e:Bool) (d:World),a < c->c<=b->b - a<=2 ^ f->f<=40->b<=1099511627776->
  Calls prog 266 #[.agg #[.int .i64 (a:Int),.int .i64 (b:Int)],.int .i64 (c:Int),.bool e] d (p8 380 d (mI a b c e))
 | f,a,b,c,e,d,g,k,i,j,h=>by
  by_cases k:c=b
  ·subst k
   rw[qF g];cases e with
   | true=>exact KR a c d
   | false=>exact Nt a c d
  ·have k:=fK (n:=b - a) ah
   have k:=qf (b - a);cases f with
   | zero=>simp at i;omega
   | succ f=>
    have k:=rW (n:=b - a) ah i
    have i:2 ^ (f+1)<=1099511627776:=by
     rw[show(1099511627776:Nat)=2 ^ 40 by decide];exact Nat.pow_le_pow_right ah j
    by_cases i:c - a<=ay (b - a)
    ·rw[qG g ah i]
     have j:=oD (b - a) a (a+ay (b - a)) c e ah g ah;have k:=oW 40 (c - a) (a+ay (b - a) - a) e ah ah (by rw[show(2:Nat) ^ 40=1099511627776 by decide];omega);exact Nu a b c g ah h i e _ ah d (λd=>z8 f a (a+ay (b - a)) c e d g ah ah ah ah)
    ·rw[pz g ah ah]
     have j:=oD (b - a) (a+ay (b - a)) b c false ah ah ah;have k:=oW 40 (c - (a+ay (b - a))) (b - (a+ay (b - a))) false ah ah (by rw[show(2:Nat) ^ 40=1099511627776 by decide];omega);exact KQ a b c g ah h ah e _ ah d (λd=>z8 f (a+ay (b - a)) b c false d ah ah ah ah h)
theorem Gy(a b:Int)(c:World):Calls prog 219 #[.int .i64 a,.int .i64 b] c λd e=>d=.returned (.bool (gV a b))/\c=e:=by
 have f:Hid (gV a b=(decide (0<=a)&&decide (a<=b)&&decide (b<=1099511627776))):=rfl;generalize gV a b=c at*
 rcases Bool.eq_false_or_eq_true (decide (0<=a))with c | c<;>rcases Bool.eq_false_or_eq_true (decide (a<=b))with d | d<;>rcases Bool.eq_false_or_eq_true (decide (b<=1099511627776))with e | e
 all_goals
  have a:=AA c
  have b:=AA d
  have c:=AA e
  go_enter func219,ntmps219
  go_wp2_with fail
  go_ret
  refine⟨?_,rfl⟩
  rw[f.out,a.out,b.out,c.out]
  rfl
theorem GU(a b:Nat)(c:a<=b)(hs:b<=1099511627776)(e:World):Calls prog 220 #[.int .i64 (a:Int),.int .i64 (b:Int)] e (p8 380 e (bW a b)):=by
 by_cases h0:a=0
 ·subst h0
  rw[show bW 0 b=[]from if_pos (.inl rfl)];clear c hs;(go_enter func220,ntmps220);go_wp2_with fail;go_ret;exact⟨_,rfl,Aa _ _ _ _,Below.refl _ _⟩
 ·have d:((a:Int)==0)=false:=beq_eq_false_iff_ne.2 ah
  by_cases d:a=b
  ·rw[show bW a b=[]from if_pos (.inr d)]
   subst d;have f:((a:Int)==(a:Int))=true:=beq_self_eq_true _;clear c hs;(go_enter func220,ntmps220);go_wp2_with fail;go_ret;exact⟨_,rfl,Aa _ _ _ _,Below.refl _ _⟩
  ·rw[show bW a b=mI 0 b a true from if_neg (λc=>c.elim h0 d)]
   have f:((a:Int)==(b:Int))=false:=beq_eq_false_iff_ne.2 ah;have f:=d;have d:=AA (λf=>z8 40 0 b a true f ah c (by rw[show(2:Nat) ^ 40=1099511627776 by decide];omega) (AJ _) hs);clear c hs;(go_enter func220,ntmps220);go_wp2_with fail;refine(d e).mono ?_;rintro c d ⟨e,rfl,a,b⟩;obtain⟨c,d,rfl,-⟩:=Own.reads a;replace a:=AA a;replace b:=AA b;go_wp2_with fail;go_ret;exact⟨_,rfl,a,b⟩
theorem xJ.push{f a i:World}{l gt ct m:Nat}{k:List aj}{q:aj}{e d:Value}{g:List Value}{h:Nat}{M:Nat->Prop}(t:¬M gt)(u:k.length=h)(hx:xJ M f l e.ownBlock g k)(o:f.ownsRow m 27 1 e h g)
  (c:av f a)(v:ax a 1 (some ⟨gt,0,none⟩) q.length (ak q))(p:f.heap.size<=gt/\gt < a.heap.size)(w:gt≠l)(x:q.length<=ct)
  (j:rC (a.alloc (.cells #[.slice (some ⟨gt,0,none⟩) q.length ct] 27)) m 27 1 e h 1 g [.slice (some ⟨gt,0,none⟩) q.length ct] d i):
  xJ M i l d.ownBlock (g++[.slice (some ⟨gt,0,none⟩) q.length ct]) (k++[q])/\i.ownsRow m 27 1 d (h+1) (g++[.slice (some ⟨gt,0,none⟩) q.length ct])/\au (λb=>some b=e.ownBlock) f i:=by
 have n:(a.alloc (.cells #[.slice (some ⟨gt,0,none⟩) q.length ct] 27)).heap.size=a.heap.size+1:=by simp
 have r:=λb (m:b < a.heap.size) (l:some b≠e.ownBlock)=>(j.grow.block b (by rw[n];omega) l).trans (Below.heap_alloc _ _ _ m)
 have f:a.heap.size+1<=i.heap.size:=by have:=j.grow.size;rw[n]at this;exact this
 have s:d.ownBlock=e.ownBlock\/d.ownBlock=some (a.heap.size+1):=by
  rcases j.at_ with f | f
  ·exact .inl f
  ·exact .inr (by rw[f,n])
 have y:g.length=h:=by have:=o.1;simpa using this
 have n:∀b,b < a.heap.size->some b≠e.ownBlock->some b≠d.ownBlock:=λb m l g=>by
  rcases s with f | f
  ·exact l (g.trans f)
  ·rw[f]at g;have:=AL g;omega
 have s:∀(d:Nat) (h:aj),d < a.heap.size->some d≠e.ownBlock->ax a 1 (some ⟨d,0,none⟩) h.length (ak h)->ax i 1 (some ⟨d,0,none⟩) h.length (ak h):=λd h A z f=>
  f.keep (w':=i) ah λf A g c=>by
   (injection g with g);(injection g with f i);subst f;exact r _ c z
 refine⟨λi h f=>?_,j.own,⟨j.grow.os.trans c.os,j.grow.tape.trans c.tape,j.grow.output.trans c.output,by have:=c.size;omega,λb m l=>(r b (aC c.size) l).trans (c.block b m)⟩⟩
 rcases Nat.lt_or_ge i k.length with b | b
 ·rw[List.getElem?_append_left b]at f
  obtain⟨d,m,r,z,A,l,B,j,C⟩:=hx i h f;have l:d < a.heap.size:=aC c.size;exact⟨d,m,by rw[List.getElem?_append_left ah];exact r,z,s d h l j (A.below c),ah,B,n d l j,C⟩
 ·rw[List.getElem?_append_right b]at f
  have a:i=k.length:=by
   have:=(AU.1 f).1;simp at this;omega
  subst a;rw[Nat.sub_self]at f;obtain rfl:=AL f;(have a:some gt≠e.ownBlock:=λg=>by have:=(o.lt gt g.symm).2;omega);exact⟨gt,ct,by rw[List.getElem?_append_right ah,y,u,Nat.sub_self];rfl,x,s gt q p.2 a v,ah,w,n gt p.2 a,t⟩
theorem xJ.weaken{a:World}{b:Nat}{c:Option Nat}{d:List Value}{e:List aj}{f:Nat->Prop}(hx:xJ f a b c d e):xJ (λ_=>False) a b c d e:=λa b c=>by
 obtain⟨d,e,f,g,h,i,j,k,-⟩:=hx a b c;exact⟨d,e,f,g,h,i,j,k,λa=>a⟩
theorem xJ.keep{d w':World}{b:Nat}{c:Option Nat}{e:List Value}{f:List aj}{M S:Nat->Prop}(hx:xJ M d b c e f)(g:au S d w')(h:∀a,S a->a=b\/some a=c\/M a):xJ M w' b c e f:=λa b f=>by
 obtain⟨i,j,k,l,m,n,c,d,e⟩:=hx a b f;refine⟨i,j,k,l,m.kept g (λf o b a=>?_),Ad n g.size,c,d,e⟩;(injection b with b);(injection b with f g);subst f
 rcases h _ a with a | a | a
 ·exact c a
 ·exact d a
 ·exact e a
theorem xJ.pieces{d:World}{c:Nat->Prop}{f g:Nat}{h:Option Nat}{e:Value}{b:List Value}{a:List aj}(i:d.ownsRow g 27 1 e a.length b)(hx:xJ c d f h b a):
  ∃b c,e=.slice b a.length c/\a.length<=c/\(b=none->a.length=0/\c=0)/\gq d b a:=by
 obtain⟨b,c,a,d,-,e,f,-⟩:=Own.reads i
 refine⟨b,c,a,d,e,λh0=>?_⟩
 obtain⟨b,c,d,e,g⟩:=f.at_ ah
 refine⟨b,c,d,e,λa f h=>?_⟩
 obtain⟨b,c,d,e,i,-⟩:=hx a f h
 exact⟨some ⟨b,0,none⟩,c,g a _ d,e,i,λf=>by cases f⟩
theorem gq.drewN{w:World}{a:Option Addr}{b:List aj}(c:gq w a b)(d:Nat):gq (w.drewN d) a b:=c
structure Ah where
 fr:aj
 sr:aj
 ft:List aj
 st:List aj
def sK(s:Int)(z:Ah)(p:Bool×aj):Ah:=
 if p.1 then⟨z.fr,nP s z.sr p.2,z.ft,z.st++[kb 1 :: (z.sr++p.2)]⟩
 else⟨nP s p.2 z.fr,nP s p.2 z.sr,z.ft++[kb 1 :: (p.2++z.fr)],z.st++[kb 1 :: (p.2++z.sr)]⟩
def iW(s:Int)(x:aj)(low:Nat)(P:List (Bool×aj))(j:Nat):Ah:=((P.take j).drop low).foldl (sK s) ⟨x,x,[],[]⟩
theorem yu(c:Int)(a:aj)(b:Nat)(d:List (Bool×aj)):iW c a b d b=⟨a,a,[],[]⟩:=by
 unfold iW;rw[List.drop_of_length_le (by rw[List.length_take];exact Nat.min_le_left _ _)];rfl
theorem vR{s:Int}{x:aj}{b:Nat}{c:List (Bool×aj)}{a:Nat}{d:Bool×aj}(f:b<=a)(e:c[a]?=some d):iW s x b c (a+1)=sK s (iW s x b c a) d:=by
 have a:=(AU.1 e).1;unfold iW;rw[List.take_add_one,e,List.drop_append_of_le_length (by rw[List.length_take];omega),List.foldl_append];rfl
structure Ah.Ok(z:Ah)(k:Nat):Prop where
 fl:z.fr.length=32
 sl:z.sr.length=32
 ft:∀q∈z.ft,q.length=65
 st:∀q∈z.st,q.length=65
 fk:z.ft.length<=k
 sk:z.st.length<=k
theorem Ah.Ok.step{a:Int}{z:Ah}{d:Nat}{p:Bool×aj}(b:z.Ok d)(e:p.2.length=32):(sK a z p).Ok (d+1):=by
 have f:=b.fl;have g:=b.sl;have a:=b.fk;have a:=b.sk;unfold sK
 split
 ·refine⟨f,gY _ _ _,b.ft,λc a=>?_,(by show z.ft.length<=d+1;omega),by simp;omega⟩
  rcases Aj.1 a with a | a
  ·exact b.st c a
  ·obtain rfl:=BS.1 a
   simp[g,e]
 ·refine⟨gY _ _ _,gY _ _ _,λc a=>?_,λc a=>?_,by simp;omega,by simp;omega⟩
  ·rcases Aj.1 a with a | a
   ·exact b.ft c a
   ·obtain rfl:=BS.1 a
    simp[f,e]
  ·rcases Aj.1 a with a | a
   ·exact b.st c a
   ·obtain rfl:=BS.1 a
    simp[g,e]
theorem wO{s:Int}{b:aj}{low:Nat}{P:List (Bool×aj)}(hx:b.length=32)(c:∀d∈P,d.2.length=32):∀a,low+a<=P.length->(iW s b low P (low+a)).Ok a
 | 0,_=>by
  rw[Nat.add_zero,yu];exact⟨hx,hx,(λd b=>by cases b),(λd b=>by cases b),AX _,AX _⟩
 | a+1,b=>by
  have b:low+a < P.length:=ah;rw[<-Nat.add_assoc,vR (Nat.le_add_right _ _) (List.getElem?_eq_getElem b)];exact(wO hx c a ah).step (c _ (CQ b))
def Gg(m:Nat):Bool:=decide (m=2 ^ Nat.log2 m)
def jV(old:Nat):Nat:=if Gg old then 0 else 1
def jc(s:Int)(old size:Nat)(oldRoot:aj)(ds:List aj):Ah:=
 iW s (if Gg old then oldRoot else ds.getD 0 []) (jV old) (((bW old size).map (bh old)).zip ds) ds.length
theorem om.avoid{d:Nat->Prop}{b:World}{e:Nat}{f:Option Nat}{g:Int}{c:List aj}(i:om b e f g c)(j:∀a∈c,a.length=65)(k:∀h,d h->∃u,b.cell? ⟨h,0,none⟩=some u/\∀l,u≠.int .u8 l):rq d b e f g c:=by
 obtain⟨c,d,e,f,g,h,hx⟩:=i;refine⟨c,d,e,f,g,h,λi a b=>?_⟩;obtain⟨c,e,f,g,d,h,l,m,-⟩:=hx i a b;refine⟨c,e,f,g,d,h,l,m,λi=>?_⟩;have e:=j a (Ab b);obtain⟨u,e,f⟩:=k c i;obtain⟨g,h,b,-,c⟩:=d.at_ ah;(injection b with b);(injection b with d g);subst d g;have b:=c 0 _ (eu a 0 ah);rw[Nat.add_zero,e]at b;exact f _ (AL b)
theorem om.front{h:World}{i:Nat}{f:Option Nat}{m:Int}{b:List aj}(n:om h i f m b)(o:b=[]->f=none):∀d,(d=i\/some d=f)->∃u,h.cell? ⟨d,0,none⟩=some u/\∀g,u≠.int .u8 g:=by
 obtain⟨B,C,p,j,k,D,hx⟩:=n;rintro d (rfl | e)
 ·exact⟨_,p.cell 0,λg a=>by injection a with q;cases q⟩
 ·obtain⟨c,l⟩:∃c,b[0]?=some c:=by
   cases b with
   | nil=>rw[o rfl]at e;cases e
   | cons c b=>exact⟨c,rfl⟩
  obtain⟨E,F,r,-⟩:=hx 0 c l;obtain⟨G,c2,rfl,-,-,-,s,t⟩:=Own.reads j
  have H:0 < b.length:=by cases b with
   | nil=>cases l
   | cons c b=>simp
  obtain⟨I,v,rfl,-,w⟩:=s.at_ ah;have x:=w 0 _ r;have y:=(t _ rfl).2;rw[y]at k;rw[<-k]at e;have z:=AL e
  have A:v=0:=by
   rcases j.2 with⟨a,-⟩ |⟨J,K,L,a,-⟩
   ·injection a with a;cases a
   ·injection a with a;injection a with a;injection a
  subst z A;exact⟨_,x,λg a=>by cases a⟩
structure zC(w1 wr:World)(g1 g2:Nat)(r1 r2:Option Nat)(b1 b2:Nat)(s:Int)(x1 x2:aj)(t1 t2:List aj):Prop where
 lf1:aL wr b1 23 (ak x1).toArray
 lf2:aL wr b2 23 (ak x2).toArray
 X5:om wr g1 r1 s t1
 Xu:om wr g2 r2 s t2
 n1:∀k,r1=some k->w1.heap.size<=k
 n2:∀k,r2=some k->w1.heap.size<=k
 ap:∀k,r1=some k->r2≠some k
 e1:t1=[]->r1=none
 e2:t2=[]->r2=none
 kept:au (λk=>k=g1\/k=g2\/k=b1\/k=b2) w1 wr
theorem zC.swap{b wr:World}{c d e f:Nat}{g h:Option Nat}{i:Int}{j k:aj}{t1 t2:List aj}(a:zC b wr c d g h e f i j k t1 t2):zC b wr d c h g f e i k j t2 t1:=
 ⟨a.lf2,a.lf1,a.Xu,a.X5,a.n2,a.n1,λb c d=>a.ap b d c,a.e2,a.e1,a.kept.mono (λf _ e=>by rcases e with a | a | a | a;exact .inr (.inl a);exact .inl a;exact .inr (.inr (.inr a));exact .inr (.inr (.inl a)))⟩
theorem zC.step{g wr f a:World}{h i d e:Nat}{o p:Option Nat}{b:Int}{m r z q:aj}{t1 t2:List aj}(c:zC g wr h i o p d e b m r t1 t2)(k:av wr f)(n:FY f h o b (t1++[q]) a)
  (x:∀j∈t1++[q],j.length=65)(s:∀j∈t2,j.length=65)(t:m.length=32)(y:h≠i)(u:h≠d)(A:h≠e)(B:i≠d)(C:d≠e)(D:h < g.heap.size/\i < g.heap.size/\d < g.heap.size/\e < g.heap.size):
  aL a d 23 (ak m).toArray/\∃l,zC g (a.setRow d (ak z).toArray) h i l p d e b z r (t1++[q]) t2:=by
 obtain⟨v,E,l,w⟩:=n
 have a:=c.kept.size
 have a:=k.size
 have a:=l.size
 obtain⟨a,F,G,H⟩:=D
 have n:∀b,b < g.heap.size->some b≠o:=λb o a=>by have:=c.n1 b a.symm;omega
 have o:aL f d 23 (ak m).toArray:=(k.block d c.lf1.lt).trans c.lf1
 have m:=o.kept l (λa=>by rcases a with a | a;exact u a.symm;exact n d G a)
 have o:aL f e 23 (ak r).toArray:=(k.block e c.lf2.lt).trans c.lf2
 have r:=o.kept l (λa=>by rcases a with a | a;exact A a.symm;exact n e H a)
 have f:=rq.kept c.X5 (au.of_below k) (λc=>c) (λ_ _ c=>c)
 have o:=rq.kept c.Xu (au.of_below k) (λc=>c) (λ_ _ c=>c)
 have A:∀b,p=some b->b < wr.heap.size:=λb a=>by obtain⟨_,_,_,_,_,p,_⟩:=c.Xu;exact(p b a).2
 have D:=(om.avoid o s (om.front f c.e1)).kept l (λa=>by rcases a with a | a;exact y a.symm;exact n i F a) (λb a f=>by
  rcases f with f | f
  ·have:=c.n2 b a;omega
  ·exact c.ap b f.symm a)
 have p:∀b,v=some b->g.heap.size<=b:=λb a=>by
  rcases w with g |⟨y,g,F⟩
  ·exact c.n1 b (by rw[<-g,a])
  ·rw[a]at g;have:=AL g;omega
 refine⟨m,v,setRow_heap _ _ _ _ _ _ m,(setRow_other _ _ _ _ (λa=>C a.symm)).trans r,?_,?_,p,c.n2,λb a f=>?_,(λa=>by simp at a),c.e2,?_⟩
 ·exact(om.off E m (λj o=>by rw[x j o];simp[aB,t])).kept (au.setRow (S:=λb=>b=d) (au.refl _ _) rfl _) u (λb a f=>by have:=p b a;omega)
 ·exact(om.off D m (λj o=>by rw[s j o];simp[aB,t])).kept (au.setRow (S:=λb=>b=d) (au.refl _ _) rfl _) B (λb a f=>by have:=c.n2 b a;omega)
 ·rcases w with g |⟨y,g,F⟩
  ·exact c.ap b (by rw[<-g,a]) f
  ·rw[a]at g;have:=AL g;have:=A b f;omega
 ·refine au.setRow (S:=λb=>b=h\/b=i\/b=d\/b=e) ((c.kept.trans (T:=λ_=>False) (au.of_below k) (λ_ _ c=>c.elim)).trans l (λb d a=>?_)) (.inr (.inr (.inl rfl))) _
  rcases a with a | a
  ·exact .inl a
  ·exact absurd a (n b d)
def fu(i l:Nat):Nat:=(i / 2 ^ l ^^^ 1)*2 ^ l
def eH(size:Nat):Nat:=if size<=1 then 0 else Nat.log2 (size - 1)+1
theorem uz(a:Nat):a ^^^ 1=if a % 2=1 then a - 1 else a+1:=by
 have c:(a ^^^ 1) / 2=a / 2:=by
  have c:=Nat.shiftRight_xor_distrib (a:=a) (b:=1) (i:=1);simpa[Nat.shiftRight_succ]using c
 have c:((a ^^^ 1) % 2=1)↔¬((a % 2=1)↔(1 % 2=1)):=Nat.xor_mod_two_eq_one
 split<;>omega
theorem yB(a:Nat):a ^^^ 1<=a+1:=by rw[uz];split<;>omega
theorem DF(b a:Nat):fu b a<=b+2 ^ a:=by
 unfold fu;have c:=Nat.mul_le_mul_right (2 ^ a) (yB (b / 2 ^ a));have d:=Nat.div_mul_le_self b (2 ^ a);rw[Nat.succ_mul]at c;omega
theorem Dr(a:Nat)(b:a < 9223372036854775806):bits .xor .i64 (a:Int) 1=((a ^^^ 1:Nat):Int):=by
 show IntKind.i64.wrap (((BitVec.ofInt 64 (a:Int) ^^^ BitVec.ofInt 64 1).toNat:Nat):Int)=_
 have b:(BitVec.ofInt 64 (a:Int) ^^^ BitVec.ofInt 64 1).toNat=a ^^^ 1:=by
  rw[BitVec.toNat_xor,BitVec.ofInt_natCast,BitVec.toNat_ofNat,Nat.mod_eq_of_lt ah];rfl
 rw[b];have:=yB a;exact AO _ ah
theorem nT{b a:Nat}(c:2 ^ a < b):a < eH b:=by
 unfold eH;have c:=Nat.two_pow_pos a;rw[if_neg ah];have:a<=Nat.log2 (b - 1):=(Nat.le_log2 ah).2 ah;omega
theorem jm{size k:Nat}(a:¬2 ^ k < size):eH size<=k:=by
 unfold eH
 split
 ·omega
 ·rename_i b
  have:Nat.log2 (size - 1) < k:=(Nat.log2_lt ah).2 ah;omega
theorem He{a:Nat}(b:a<=1099511627776):eH a<=40:=jm (by(have a:(2:Nat) ^ 40=1099511627776:=by decide);omega)
theorem mZ(a:Nat):a<=2 ^ eH a:=by
 rcases Nat.lt_or_ge (2 ^ eH a) a with b | b
 ·have:=nT b;omega
 ·exact b
theorem vz{c a b:Nat}(d:a < c):(Ea c a b).length=if fu a b < c then 1 else 0:=by
 unfold Ea fu;rw[uz];by_cases c:a / 2 ^ b % 2=1
 ·rw[if_pos c,if_pos c,if_pos]
  ·rfl
  ·have d:=Nat.div_mul_le_self a (2 ^ b)
   have d:=Nat.mul_le_mul_right (2 ^ b) (Nat.sub_le (a / 2 ^ b) 1);omega
 ·rw[if_neg c,if_neg c]
  split<;>rfl
theorem Kt{b a:Nat}(c:2 ^ b=a)(d:a<=1099511627776):wrap64 ((2:Int) ^ b)=(a:Int):=by
 (have d:((2:Int) ^ b)=(a:Int):=by rw[<-c];simp);rw[d];exact IntWalk.wrap64_in _ ah
theorem RU{a b:Nat}(c:2 ^ a=b)(d:a<=40):b<=1099511627776:=by
 rw[<-c];(have a:(2:Nat) ^ 40=1099511627776:=by decide);rw[<-a];exact Nat.pow_le_pow_right ah d
theorem Nr(size:Nat)(hs:size<=1099511627776)(a:World):
  Calls prog 252 #[.int .i64 size] a λb c=>b=.returned (.int .i64 (eH size:Nat))/\a=c:=by
 have a:=He hs
 obtain⟨d,e⟩:=aS (eH size)
 rw[e.out]at a ⊢
 go_enter func252,ntmps252
 go_wp2_with fail
 go_loop [3] (λa=>∃k:Nat,a=.int .i64 (k:Int)/\k<=d) (λa=>d - (intOf a).toNat)
 case atStart=>exact⟨0,rfl,AX _⟩
 case round=>
  obtain⟨k,rfl,a⟩:=hrel;obtain⟨c,a⟩:=aS (2 ^ k);have b:(0:Int)<=(k:Int):=ah;have b:(k:Int) < 64:=ah;have b:=Kt a (RU a ah);by_cases b:c < size
  ·have f:(c:Int) < (size:Int):=ah
   have c:=AA (e.out ▸ nT (by rw[a.out];exact b));clear b;go_wp2_with fail
   go_round
   case rel=>exact⟨k+1,by go_num,c⟩
   case measure=>(have:=c.out;simp[intOf];omega)
  ·have f:=AP ah
   have c:=AA (by show k=d;have:=jm (size:=size) (k:=k) (a.out ▸ b);rw[e.out]at this;omega);clear b;go_wp2_with fail;go_ret;exact⟨by rw[c.out];rfl,rfl⟩
theorem XH{a b c d:Int}{e:Bool}(f:a=b)(g:c=d):Ending.returned (.tuple #[.int .i64 a,.int .i64 c,.bool e])=.returned (.tuple #[.int .i64 b,.int .i64 d,.bool e]):=by rw[f,g]
theorem Gh(c d a:Nat)(hs:c<=1099511627776)(e:d < c)(h:a<=40)(b:World):
  Calls prog 253 #[.int .i64 c,.int .i64 d,.int .i64 a] b λe f=>e=.returned (.tuple #[.int .i64 (fu d a:Nat),.int .i64 (min (fu d a+2 ^ a) c:Nat),.bool (decide (fu d a < c))])/\b=f:=by
 obtain⟨e,f⟩:=aS (2 ^ a)
 have b:(0:Int)<=(a:Int):=ah
 have b:(a:Int) < 64:=ah
 have g:=RU f h
 have b:=Kt f g
 have b:bits .xor .i64 ((d:Int) / 2 ^ a) 1=((d / 2 ^ a ^^^ 1:Nat):Int):=by
  (have h:(d:Int) / 2 ^ a=((d / 2 ^ a:Nat):Int):=by simp);rw[h];have:=Nat.div_le_self d (2 ^ a);exact Dr _ ah
 obtain⟨j,hx⟩:=aS (d / 2 ^ a ^^^ 1)
 rw[hx.out]at b
 obtain⟨b,i⟩:=aS (fu d a)
 have k:b<=2199023255552:=by
  have:=DF d a;have d:=i.out;have d:=f.out;omega
 have l:wrap64 ((j:Int)*2 ^ a)=(b:Int):=by
  (have h:((j:Int)*2 ^ a)=(b:Int):=by rw[<-i.out,<-hx.out];unfold fu;simp);rw[h];exact IntWalk.wrap64_in _ ah
 have a:wrap64 ((b:Int)+(e:Int))=((b+e:Nat):Int):=by
  rw[IntWalk.wrap64_in _ ah];simp
 have a:IntKind.i64.wrap ((b:Int)+(e:Int))=((b+e:Nat):Int):=by
  rw[IntWalk.i64_in _ ah];simp
 rw[i.out,f.out]
 by_cases d:c < b+e
 ·have f:(c:Int) < ((b+e:Nat):Int):=ah
  have a:Hid (min (b+e) c=c):=Nat.min_eq_right ah;(have hd:decide ((b:Int) < (c:Int))=decide (b < c):=by simp);rw[a.out];clear d k g;(go_enter func253,ntmps253);go_wp2_with fail;go_ret3;exact⟨XH l rfl,rfl⟩
 ·have f:¬((c:Int) < ((b+e:Nat):Int)):=ah
  have a:Hid (min (b+e) c=b+e):=Nat.min_eq_left ah;(have hd:decide ((b:Int) < (c:Int))=decide (b < c):=by simp);rw[a.out];clear d k g;(go_enter func253,ntmps253);go_wp2_with fail;go_ret3;exact⟨XH rfl ah,rfl⟩
theorem mM:(ak (List.replicate 32 0)).toArray=bF:=by rfl
theorem FY.same{w c:World}{d:Nat}{b:Option Nat}{e:Int}{f:List aj}(a:om w d b e f)(g:av w c):FY w d b e f c:=
 ⟨b,rq.kept a (au.of_below g) (λa=>a) (λ_ _ a=>a),au.of_below g,.inl rfl⟩
theorem y9{b c:Int}(a:bP b c=true):1<=b/\b<=1099511627776/\0<=c/\c < b:=by
 simp only[bP,Bool.and_eq_true,decide_eq_true_eq]at a;exact⟨a.1.1.1,a.1.1.2,a.1.2,a.2⟩
theorem SV(b:Nat)(k:Option Nat)(f:Int)(c:List aj)(d g:Int)(a:aj)(w:a.length=32)(h:List aj)(i:Option Addr)(n l:Nat)(e:World)(x:bn e)(y:1 < b)(s:om e b k f c)
  (z:∀A∈c,A.length=65)(G:c.length < 549755813888)(m:j6 e i n h)(B:0 < n->∀t C,i=some ⟨t,C,none⟩->t≠b/\some t≠k):
  Calls prog 222 #[.pointer (some ⟨b,0,none⟩),.int .i64 d,.int .i64 g,.agg (ak a).toArray,.slice i n l] e λo p=>o=.returned (.tuple #[.agg (ak (jO f d g a c h).1).toArray,.int .i64 (jO f d g a c h).2.1])/\FY e b k f (jO f d g a c h).2.2 p:=by
 obtain⟨v,hx⟩:∃v,jO f d g a c h=v:=⟨_,rfl⟩
 rw[hx]
 unfold jO at hx
 cases hin:bP d g with
 | false=>
  rw[if_pos hin]at hx;subst hx;refine(SQ b d g a i n l e hin).mono ?_;rintro o p ⟨rfl,u⟩;exact⟨by rw[mM],FY.same s u⟩
 | true=>
  rw[if_neg (by rw[hin];decide)]at hx;obtain⟨H,I,D,J⟩:=y9 hin;obtain⟨q,rfl⟩:=Int.eq_ofNat_of_zero_le (show 0<=d by omega);obtain⟨j,rfl⟩:=Int.eq_ofNat_of_zero_le D;rw[Int.toNat_natCast,Int.toNat_natCast]at hx;by_cases r:(sides q j).length=n
  ·rw[if_neg (by rw[m.1,r];exact λE=>E rfl)]at hx
   subst hx;refine(Vp b k f c q j ah ah a w h i n l e x y s z (by have K:(2:Nat) ^ 40=1099511627776:=aR;have:=sQ (n:=q) (j:=j) (L:=40) ah ah;omega) m B r).mono ?_;rintro o p ⟨rfl,F⟩;rw[m.1];exact⟨rfl,F⟩
  ·rw[if_pos (by rw[m.1];exact r)]at hx
   subst hx;refine(SS b q j ah ah a i n l e r).mono ?_;rintro o p ⟨rfl,u⟩;exact⟨by rw[mM],FY.same s u⟩
theorem jl{f:Program}{i:Func}{g u j:Tmp}{b:TypeId}(m:i.results=#[.cell g b,.tmp u,.tmp j])(a:Array Value)(c:World)(d:Nat)(k:TypeId)(e:Array Value)(l:Nat×Nat)(h:TypeDesc)
  (n:a.getD g undef=.pointer (some ⟨d,0,none⟩))(o:c.heap[d]?=some (.cells e k l))
  (p:f.underlying b=some h)(hd:(match h with | .struct _ | .array _ _=>true | _=>false)=true)(q:(f.info? b).map (·.size)=some e.size):
  (results i a).run f c=.ok (.tuple #[.agg e,a.getD u undef,a.getD j undef]) c:=by
 have f:a[g]?.getD undef=.pointer (some ⟨d,0,none⟩):=by simpa using n
 simp[results,m,f,asAddr,run_loadVar_row c d k b e l h o p hd q,Result.andThen]
theorem lM{S:Nat->Prop}{w b:World}{c d e f:Nat}{a:Value}{g:List Value}(h:w.ownsRow c d e a f g)(j:au S w b)(k:∀i,a.ownBlock=some i->¬S i):b.ownsRow c d e a f g:=by
 refine⟨h.1,h.2.imp id λ⟨a,d,e,b,f,c,g⟩=>⟨a,d,e,b,f,?_,g⟩⟩;rw[j.block a (Array.getElem?_eq_some_iff.1 c).1 (k a (by rw[b];rfl)),c]
def tW(w:World)(a b:Nat):World:=w.drew.alloc (.cells #[.slice (some ⟨a,0,none⟩) 32 32,.slice (some ⟨b,0,none⟩) 32 32] 27)
theorem ja(a:World)(b c:Nat):(tW a b c).heap.size=a.heap.size+1:=by unfold tW;simp
theorem kT(a:World)(b c:Nat):av a (tW a b c):=((Below.refl _ a).drew).alloc (AJ _) _
theorem jQ{w:World}{a b:Nat}{c d:aj}(f:aL w a 23 (ak c).toArray)(g:aL w b 23 (ak d).toArray)(hx:c.length=32)(h:d.length=32):gq (tW w a b) (some ⟨w.heap.size,0,none⟩) [c,d]:=λ_=>by
 have e:aL (tW w a b) w.heap.size 27 #[.slice (some ⟨a,0,none⟩) 32 32,.slice (some ⟨b,0,none⟩) 32 32]:=aL.new w.drew 27 _;have i:aL (tW w a b) a 23 (ak c).toArray:=(f.drew).alloc _;have f:aL (tW w a b) b 23 (ak d).toArray:=(g.drew).alloc _;refine⟨w.heap.size,0,rfl,e.lt,λd z c=>?_⟩
 match d with
 | 0=>
  obtain rfl:=AL c;exact⟨some ⟨a,0,none⟩,32,by rw[e.cell,hx];rfl,ah,kU i,λa=>by cases a⟩
 | 1=>
  obtain rfl:=AL c;exact⟨some ⟨b,0,none⟩,32,by rw[e.cell,h];rfl,ah,kU f,λa=>by cases a⟩
 | d+2=>simp at c
structure Oc(wo wr:World)(br:Nat)(st:aj×List aj)(v:Value)(xs:List Value):Prop where
 leaf:aL wr br 23 (ak st.1).toArray
 own:wr.ownsRow wo.heap.size 27 1 v st.2.length xs
 Xz:xJ (λk=>k < wo.heap.size) wr br v.ownBlock xs st.2
 kept:au (·=br) wo wr
theorem Oc.step{b wr f d l m g:World}{c gt ct n:Nat}{h st':aj×List aj}{v i:Value}{j:List Value}{q:aj}(a:Oc b wr c h v j)(e:c < b.heap.size)(k:h.2.length=n)
  (e:av wr f)(o:av f d)(p:ax d 1 (some ⟨gt,0,none⟩) q.length (ak q))(r:f.heap.size<=gt/\gt < d.heap.size)(s:q.length<=ct)
  (t:rC (d.alloc (.cells #[.slice (some ⟨gt,0,none⟩) q.length ct] 27)) b.heap.size 27 1 v n 1 j [.slice (some ⟨gt,0,none⟩) q.length ct] i l)
  (d:av l m)(u:aL g c 23 (ak st'.1).toArray)(f:au (·=c) m g)(n:st'.2=h.2++[q]):Oc b g c st' i (j++[.slice (some ⟨gt,0,none⟩) q.length ct]):=by
 have b:=e.size
 have b:=a.kept.size
 obtain⟨h,g,j⟩:=xJ.push ah k (xJ.keep (S:=λ_=>False) a.Xz (au.of_below e) (λ_ a=>a.elim)) (k ▸ aK a.own e) o p r ah s t
 have l:∀b,i.ownBlock=some b->b≠c:=λb c=>by have:=(g.lt b c).1;omega
 refine⟨u,?_,?_,?_⟩
 ·rw[n,List.length_append,k]
  exact lM (aK g d) f (λb c a=>l b c a)
 ·rw[n]
  exact xJ.keep (xJ.keep (S:=λ_=>False) h (au.of_below d) (λ_ a=>a.elim)) f (λb a=>.inl a)
 ·refine(((a.kept.trans (T:=λ_=>False) (au.of_below e) (λ_ _ a=>a.elim)).trans j (λb e c=>?_)).trans (T:=λ_=>False) (au.of_below d) (λ_ _ a=>a.elim)).trans f (λb _ a=>a)
  have:=(a.own.lt b c.symm).1;omega
theorem Ta{e a b:World}{f:Obj}{c:Nat}(g:av e a)(h:a.heap.size=c)(d:au (·=c) (a.alloc f) b):av e b/\av a b/\c < b.heap.size:=by
 subst h;exact⟨vQ g d,vQ (Below.refl _ a) d,by have:=d.size;simp at this;omega⟩
def uJ(w:World)(X:aj×Int×List aj)(e:Ending)(w':World):Prop:=∃v xs r gc,e=.returned (.tuple #[.agg (ak X.1).toArray,v,.int .i64 X.2.1])/\w'.ownsRow 0 27 1 v X.2.2.length xs/\xJ (λ_=>False) w' gc r xs X.2.2/\av w w'
def jE(a b:Nat):Prop:=a % 2=1\/a=b
theorem Fq(a b:Int)(c:bP a b=false):a < 1\/(1<=a/\1099511627776 < a)\/(1<=a/\a<=1099511627776/\b < 0)\/(1<=a/\a<=1099511627776/\0<=b/\a<=b):=by
 simp only[bP,Bool.and_eq_false_iff,decide_eq_false_iff_not]at c;omega
theorem Kl(c b f:Int)(d:aj)(g:Option Addr)(h i:Nat)(a:World)(e:bP b f=false):
  bq 192 #[.int .i64 c,.int .i64 b,.int .i64 f,.agg (ak d).toArray,.slice g h i] a (.tuple #[.agg bF,.slice none 0 0,.int .i64 60]):=by
 have g:Hid (av a ((a.alloc (.cells (ak d).toArray 23)).alloc (.cells bF 23))):=(Below.aJ a _).alloc aZ _
 have c:Hid (aL ((a.alloc (.cells (ak d).toArray 23)).alloc (.cells bF 23)) (a.heap.size+1) 23 bF):=by
  have:=aL.new (a.alloc (.cells (ak d).toArray 23)) 23 bF;rwa[show(a.alloc (.cells (ak d).toArray 23)).heap.size=a.heap.size+1 by simp]at this
 have i:=Fq b f e
 clear e
 rcases i with d |⟨d,e⟩ |⟨d,e,h⟩ |⟨d,e,h,j⟩
 ·have i:=AY d
  clear d;(go_enter BK,ntmps192);go_wp2_with (rw[bA 23 _];refine fw c kL rfl CX ?_);refine bodyPost_ret (jl rfl _ _ (a.heap.size+1) 23 bF (0,0) _ rfl (setRow_heap _ _ _ _ _ _ c) AB rfl kL) rfl ?_;exact⟨rfl,below_setRow g ah _⟩
 ·have i:decide (b < 1)=false:=AP ah
  have k:=AY e;clear d e;(go_enter BK,ntmps192);go_wp2_with (rw[bA 23 _];refine fw c kL rfl CX ?_);refine bodyPost_ret (jl rfl _ _ (a.heap.size+1) 23 bF (0,0) _ rfl (setRow_heap _ _ _ _ _ _ c) AB rfl kL) rfl ?_;exact⟨rfl,below_setRow g ah _⟩
 ·have i:decide (b < 1)=false:=AP ah
  have k:decide (1099511627776 < b)=false:=AP ah;have l:=AY h;clear d e h;(go_enter BK,ntmps192);go_wp2_with (rw[bA 23 _];refine fw c kL rfl CX ?_);refine bodyPost_ret (jl rfl _ _ (a.heap.size+1) 23 bF (0,0) _ rfl (setRow_heap _ _ _ _ _ _ c) AB rfl kL) rfl ?_;exact⟨rfl,below_setRow g ah _⟩
 ·have i:decide (b < 1)=false:=AP ah
  have k:decide (1099511627776 < b)=false:=AP ah;have l:decide (f < 0)=false:=AP ah;have b:=AY j;clear d e h j;(go_enter BK,ntmps192);go_wp2_with (rw[bA 23 _];refine fw c kL rfl CX ?_);refine bodyPost_ret (jl rfl _ _ (a.heap.size+1) 23 bF (0,0) _ rfl (setRow_heap _ _ _ _ _ _ c) AB rfl kL) rfl ?_;exact⟨rfl,below_setRow g ah _⟩
def Tx(w:World)(xs:List Value)(ts:List aj):Prop:=∀(i:Nat) (q:aj),ts[i]?=some q->32 < q.length/\∃g c,xs[i]?=some (.slice (some ⟨g,0,none⟩) q.length c)/\q.length<=c/\ax w 1 (some ⟨g,0,none⟩) q.length (ak q)
theorem xJ.XB{e:Nat->Prop}{w f:World}{b:Nat}{d:Option Nat}{g:List Value}{c:List aj}(hx:xJ (λ_=>False) w b d g c)(i:∀a∈c,a.length=65)(j:au e w f)
  (k:∀b,e b->(∃h d,aL w b h d/\d.size < 65)\/(∃u,w.cell? ⟨b,0,none⟩=some u/\∀l,u≠.int .u8 l)):Tx f g c:=λe a c=>by
 obtain⟨b,g,l,m,f,n,o,p,-⟩:=hx e a c
 have e:=i a (Ab c)
 refine⟨ah,b,g,l,m,f.kept j (λc i e hs=>?_)⟩
 injection e with e
 injection e with b c
 subst b c
 obtain⟨e,i,b,-,c⟩:=f.at_ ah
 injection b with b
 injection b with e f
 subst e f
 rcases k _ hs with⟨h,d,e,b⟩ |⟨u,f,g⟩
 ·have b:=c 64 _ (eu a 64 ah)
  rw[e.cell,Array.getElem?_eq_none ah]at b;cases b
 ·have b:=c 0 _ (eu a 0 ah)
  rw[Nat.add_zero,f]at b;exact g _ (AL b)
theorem Tx.append{w:World}{b c:List Value}{a d:List aj}(f:Tx w b a)(g:Tx w c d)(h:b.length=a.length):Tx w (b++c) (a++d):=λd e b=>by
 rcases Nat.lt_or_ge d a.length with c | c
 ·rw[List.getElem?_append_left c]at b
  rw[List.getElem?_append_left ah];exact f d e b
 ·rw[List.getElem?_append_right c]at b
  rw[List.getElem?_append_right ah,h];exact g _ e b
theorem Tx.below{w a:World}{b:List Value}{c:List aj}(h:Tx w b c)(d:av w a):Tx a b c:=λa b c=>by
 obtain⟨e,f,g,i,j,k⟩:=h a b c;exact⟨e,f,g,i,j,k.below d⟩
theorem Kg{c:Program}{k:Func}{i j u:Tmp}{a:TypeId}(p:k.results=#[.cell i a,.cell j a,.tmp u])(b:Array Value)(w:World)(d e:Nat)(l t2:TypeId)(f g:Array Value)(m n:Nat×Nat)(h:TypeDesc)
  (q:b.getD i undef=.pointer (some ⟨d,0,none⟩))(r:w.heap[d]?=some (.cells f l m))(s:b.getD j undef=.pointer (some ⟨e,0,none⟩))(t:w.heap[e]?=some (.cells g t2 n))
  (o:c.underlying a=some h)(hd:(match h with | .struct _ | .array _ _=>true | _=>false)=true)(v:(c.info? a).map (·.size)=some f.size)(x:(c.info? a).map (·.size)=some g.size):
  (results k b).run c w=.ok (.tuple #[.agg f,.agg g,b.getD u undef]) w:=by
 have c:b[i]?.getD undef=.pointer (some ⟨d,0,none⟩):=by simpa using q
 have i:b[j]?.getD undef=.pointer (some ⟨e,0,none⟩):=by simpa using s
 simp[results,p,c,i,asAddr,run_loadVar_row w d l a f m h r o hd v,run_loadVar_row w e t2 a g n h t o hd x,Result.andThen]
theorem Ik{c:Program}{k:Func}{i j u l:Tmp}{a:TypeId}(q:k.results=#[.cell i a,.cell j a,.tmp u,.tmp l])(b:Array Value)(w:World)(d e:Nat)(m t2:TypeId)(f g:Array Value)(n o:Nat×Nat)(h:TypeDesc)
  (r:b.getD i undef=.pointer (some ⟨d,0,none⟩))(s:w.heap[d]?=some (.cells f m n))(t:b.getD j undef=.pointer (some ⟨e,0,none⟩))(v:w.heap[e]?=some (.cells g t2 o))
  (p:c.underlying a=some h)(hd:(match h with | .struct _ | .array _ _=>true | _=>false)=true)(x:(c.info? a).map (·.size)=some f.size)(y:(c.info? a).map (·.size)=some g.size):
  (results k b).run c w=.ok (.tuple #[.agg f,.agg g,b.getD u undef,b.getD l undef]) w:=by
 have c:b[i]?.getD undef=.pointer (some ⟨d,0,none⟩):=by simpa using r
 have i:b[j]?.getD undef=.pointer (some ⟨e,0,none⟩):=by simpa using t
 simp[results,q,c,i,asAddr,run_loadVar_row w d m a f n h s p hd x,run_loadVar_row w e t2 a g o h v p hd y,Result.andThen]
theorem au.tO{f:Nat->Prop}{d:Nat}{w e wr:World}(b:Below d w e)(c:au f e wr)(g:∀a,f a->d<=a)(h:d<=e.heap.size):Below d w wr:=
 ⟨c.os.trans b.os,c.tape.trans b.tape,c.output.trans b.output,by have:=c.size;have:=b.size;omega,λa d=>(c.block a ah (λe=>by have:=g a e;omega)).trans (b.block a d)⟩
theorem Nf:∀a:Nat,1<=a->∃b c,a=(2*b+1)*2 ^ c
 | 0,d=>by omega
 | a+1,_=>by
  by_cases e:(a+1) % 2=1
  ·exact⟨(a+1) / 2,0,ah⟩
  ·obtain⟨b,c,d⟩:=Nf ((a+1) / 2) ah
   refine⟨b,c+1,?_⟩;rw[Nat.pow_succ,<-Nat.mul_assoc,<-d];omega
termination_by a=>a
decreasing_by omega
theorem Ku{b c d:Nat}(e:b=(2*c+1)*2 ^ d):Gg b=decide (c=0):=by
 unfold Gg;by_cases a:c=0
 ·rw[decide_eq_true a]
  refine AY ?_;subst a;rw[show b=2 ^ d by omega,Nat.log2_two_pow]
 ·rw[decide_eq_false a]
  refine AP (λb=>a ?_);rw[b]at e;exact(IZ e.symm).1
theorem TY{a:Nat}(b:1<=a):(a &&& (a - 1)=0)↔Gg a=true:=by
 unfold Gg;rw[decide_eq_true_iff];have c:=Nat.log2_self_le (n:=a) ah;have d:a < 2 ^ (Nat.log2 a+1):=Nat.lt_log2_self;constructor
 ·intro h0
  rcases Nat.eq_or_lt_of_le c with b | b
  ·exact b.symm
  ·exfalso
   have e:=Nat.testBit_of_two_pow_le_and_two_pow_add_one_gt c d;have d:(a - 1).testBit (Nat.log2 a)=true:=Nat.testBit_of_two_pow_le_and_two_pow_add_one_gt ah ah;have c:=Nat.testBit_and a (a - 1) (Nat.log2 a);rw[h0,e,d]at c;simp at c
 ·intro b
  generalize Nat.log2 a=c at b;rw[b,Nat.and_two_pow_sub_one_eq_mod,Nat.mod_self]
theorem VR(m:Nat)(a:1<=m)(b:m<=1099511627776):bits .and .i64 (m:Int) ((m:Int) - 1)=((m &&& (m - 1):Nat):Int):=by
 show IntKind.i64.wrap (((BitVec.ofInt 64 (m:Int) &&& BitVec.ofInt 64 ((m:Int) - 1)).toNat:Nat):Int)=_;have a:((m:Int) - 1)=((m - 1:Nat):Int):=ah
 have b:(BitVec.ofInt 64 (m:Int) &&& BitVec.ofInt 64 ((m:Int) - 1)).toNat=m &&& (m - 1):=by
  rw[a,BitVec.toNat_and,BitVec.ofInt_natCast,BitVec.toNat_ofNat,BitVec.ofInt_natCast,BitVec.toNat_ofNat,Nat.mod_eq_of_lt ah,Nat.mod_eq_of_lt ah]
 rw[b];have:=Nat.and_le_left (n:=m) (m:=m - 1);exact AO _ ah
theorem zV{a b:Nat}(e:1<=a)(f:a < b):jV a < (bW a b).length/\(bW a b).length=jV a+(qZ a b).length/\((bW a b).map (bh a)).drop (jV a)=qZ a b:=by
 obtain⟨g,d,h⟩:=Nf a e;have c:=GI b 0 b a g d ah ah ah (by rw[Nat.sub_zero];exact h) (λd=>by omega);rw[Nat.sub_zero,Nat.sub_zero]at c;have i:bW a b=mI 0 b a true:=if_neg (λd=>by omega);have d:=congrArg List.length c;rw[List.length_map,List.length_append]at d;rw[i]
 have hd:(qZ a b).length≠0:=by
  by_cases i:a<=ay b
  ·rw[wM e f i];simp
  ·rw[um f ah];simp
 unfold jV;rw[Ku h];by_cases a:g=0
 ·rw[if_pos a]at d c
  rw[decide_eq_true a,if_pos rfl,c];simp at d ⊢;omega
 ·rw[if_neg a]at d c
  rw[decide_eq_false a,c];simp at d ⊢;omega
theorem Wm:(prog.info? 401).map (λa=>(a.zero,a.size,a.bytes))=some (some (.agg #[.int .i64 0,.int .i64 0]),2,16):=by kernel_rfl
theorem V7:(prog.info? 401).map (·.size)=some 2:=by kernel_rfl
theorem VY:((prog.info? 401).bind (·.zero)).isSome=true:=by kernel_rfl
theorem tC(a:Nat):∃b,ay a=2 ^ b:=⟨_,rfl⟩
theorem mr{m a:Nat}(b:2<=a)(c:2 ^ m < a):2 ^ m<=ay a:=by
 unfold ay;exact Nat.pow_le_pow_right ah ((Nat.le_log2 ah).2 ah)
theorem CR{m n:Nat}(c:¬2*2 ^ m < n)(b:2 ^ m<=ay n)(a:2<=n):2 ^ m=ay n:=by
 have c:=qf n;have c:=fK a;obtain⟨a,d⟩:=tC n;rw[d]at b c ⊢;have c:=(Nat.pow_le_pow_iff_right ah).1 b
 rcases Nat.lt_or_ge m a with b | b
 ·have:=Nat.pow_le_pow_right (show 0 < 2 by omega) (show m+1<=a from b)
  rw[Nat.pow_succ]at this;omega
 ·rw[show m=a by omega]
theorem Py(c a:Nat)(b:World):Calls prog 278 #[.int .i64 (c:Int),.int .i64 (a:Int),.int .i64 (a:Int),.bool true] b (p8 401 b []):=by
 have b:((a:Int)==(a:Int))=true:=beq_self_eq_true _;(go_enter func278,ntmps278);go_wp2_with fail;go_ret;exact⟨_,rfl,Aa _ _ _ _,Below.refl _ _⟩
theorem Rl(c a:Nat)(b:World):Calls prog 278 #[.int .i64 (c:Int),.int .i64 (a:Int),.int .i64 (a:Int),.bool false] b (p8 401 b [(c,a)]):=by
 have d:((a:Int)==(a:Int))=true:=beq_self_eq_true _
 have d:Hid ((b.alloc (.cells (bM (c,a)).toArray 401)).ownsRow b.heap.size 401 2 (.slice (some ⟨b.heap.size,0,none⟩) 1 1) 1 (bM (c,a))):=
  ⟨rfl,.inr ⟨b.heap.size,1,(bM (c,a)).toArray,rfl,AJ _,heap_alloc_new b _,AJ _,by decide,rfl,rfl⟩⟩
 (go_enter func278,ntmps278);go_wp2_with fail;go_ret;refine⟨_,rfl,?_,Below.aJ b _⟩;exact d
theorem Rm(b a g:Nat)(Q:b < g)(R:g < a)(S:a<=1099511627776)(A:g - b<=ay (a - b))(H:Bool)(j:List (Nat×Nat))(T:j.length<=41)(i:World)
  (k:∀i,Calls prog 278 #[.int .i64 (b:Int),.int .i64 ((b+ay (a - b):Nat):Int),.int .i64 (g:Int),.bool H] i (p8 401 i j)):
  Calls prog 278 #[.int .i64 (b:Int),.int .i64 (a:Int),.int .i64 (g:Int),.bool H] i (p8 401 i (j++[(b+ay (a - b),a)])):=by
 obtain⟨ι,U,V,W,X⟩:=bV Wm
 have κ:((g:Int)==(a:Int))=false:=beq_eq_false_iff_ne.2 ah
 have μ:¬g=a:=ah
 obtain⟨d,hd⟩:∃d,a - b=d:=⟨_,rfl⟩
 have s:2<=d:=ah
 have B:=fK s
 have C:=AA (λm p=>mr (m:=m) s p)
 have D:=AA (λm p t=>CR (m:=m) (n:=d) p t s)
 have E:=iQ d
 rw[hd]at k A ⊢
 obtain⟨e,I⟩:∃p,ay d=p:=⟨_,rfl⟩
 rw[I]at k A B E C D ⊢
 obtain⟨c,J⟩:∃c,b+e=c:=⟨_,rfl⟩
 rw[J]at k ⊢
 have ν:(a:Int) - (b:Int)=(d:Int):=ah
 have ξ:(b:Int)+(e:Int)=(c:Int):=ah
 have ο:((g:Int) - (b:Int)<=(e:Int)):=ah
 have ρ:(0:Int)<=(b:Int):=ah
 have σ:(b:Int)<=1099511627776:=ah
 have τ:(0:Int)<=(a:Int):=ah
 have υ:(a:Int)<=1099511627776:=ah
 have φ:(0:Int)<=(g:Int):=ah
 have χ:(g:Int)<=1099511627776:=ah
 have ψ:(0:Int)<=(e:Int):=ah
 have b8:(e:Int)<=1099511627776:=ah
 have ω:(d:Int)<=1099511627776:=ah
 obtain⟨m,v⟩:∃m,j.length=m:=⟨_,rfl⟩
 have K:Hid (m<=41):=by show _<=_;omega
 have w:Hid (1<=e/\e < d/\d<=1099511627776):=⟨E,B,ah⟩
 replace v:=AA v
 replace k:=AA k
 clear Q R S A hd s B I J T E
 go_enter func278,ntmps278
 go_wp2_with fail
 go_loop [9] (λq=>∃c h:Nat,q=.int .i64 (c:Int)/\Hid (c=2 ^ h)/\1<=c/\c<=e) (λq=>e - (intOf q).toNat)
 case atStart=>exact⟨1,0,rfl,rfl,AJ _,w.1⟩
 case round=>
  obtain⟨f,h,rfl,r,Γ,Y⟩:=hrel;have Δ:=AO (2*(f:Int)) (aC w);have Θ:=IntWalk.wrap64_in (2*(f:Int)) (aC w);have Ξ:(0:Int)<=(f:Int):=ah;have Φ:(f:Int)<=1099511627776:=aC w;by_cases x:2*f < d
  ·have Z:2*(f:Int) < (d:Int):=ah
   (have F:Hid (2*f=2 ^ (h+1)):=by show _=_;rw[r.out,Nat.pow_succ,Nat.mul_comm]);have t:Hid (2*f<=e):=(F.out ▸ C _ (by rw[<-F.out];exact x));clear x;go_wp2_with fail
   go_round
   case rel=>exact⟨2*f,h+1,by go_num,F,ah,t⟩
   case measure=>(have:=t.out;simp[intOf];omega)
  ·have Z:¬(2*(f:Int) < (d:Int)):=ah
   obtain rfl:f=e:=by
    have:=D h (r.out ▸ x) (r.out ▸ Y);rw[<-r.out]at this;exact this
   clear x C D r;go_wp2_with fail;refine(k _).mono ?_;rintro h l ⟨q,rfl,y,G⟩;rw[v.out]at y;obtain⟨α,β,rfl,-⟩:=Own.reads y;have L:Hid ((l.alloc (.cells (bM (c,a)).toArray 401)).ownsRow i.heap.size 401 2 (.slice α m β) m (dU j)):=aK y (Below.aJ _ _);have γ:Hid (ax (l.alloc (.cells (bM (c,a)).toArray 401)) 2 (some ⟨l.heap.size,0,none⟩) 1 (bM (c,a))):=aL.reads (aL.new l 401 (bM (c,a)).toArray) 0 _ rfl (λΨ u δ=>by rw[Nat.zero_add,List.getElem?_toArray];exact δ);have M:Hid (av i (l.alloc (.cells (bM (c,a)).toArray 401))):=G.alloc G.size _;have N:=AA M.size;clear y G
   go_wp2_with (first
    |(rw[bY 43];refine dL (o:=⟨some 43,_,_,_,_,_⟩) rfl 362 401 1 _ rfl 2 aR [bM (c,a)] Bw V7 VY rfl aR aR (λq O=>by simp only[List.mem_singleton]at O;rw[O];rfl) rfl ?_;change wpList _ _ _ _ _ (l.alloc (.cells (bM (c,a)).toArray 401)))
    |(rw[bY 44];refine iL (.tmp 37) (.tmp 43) Bw U V W X L γ (λh=>by cases h) (kP _) (iI (aC K)).1 (iI (aC K)).2 N ?_;intro ε ζ P;have z:ζ.ownsRow i.heap.size 401 2 ε (m+1) (dU (j++[(c,a)])):=(by rw[lW];exact P.own);have η:=AA<|P.below M N (λθ h=>(L.lt θ h).1);obtain⟨Ω,À,rfl,-⟩:=Own.reads z;replace z:=AA z))
   go_ret;exact⟨_,rfl,by rw[List.length_append,v.out];exact z,η⟩
theorem Px(a c g:Nat)(P:a < g)(Q:g < c)(R:c<=1099511627776)(A:ay (c - a) < g - a)(S:Bool)(j:List (Nat×Nat))(T:j.length<=41)(i:World)
  (k:∀i,Calls prog 278 #[.int .i64 ((a+ay (c - a):Nat):Int),.int .i64 (c:Int),.int .i64 (g:Int),.bool false] i (p8 401 i j)):
  Calls prog 278 #[.int .i64 (a:Int),.int .i64 (c:Int),.int .i64 (g:Int),.bool S] i (p8 401 i (j++[(a,a+ay (c - a))])):=by
 obtain⟨ι,U,V,W,X⟩:=bV Wm
 have κ:((g:Int)==(c:Int))=false:=beq_eq_false_iff_ne.2 ah
 have μ:¬g=c:=ah
 obtain⟨d,hd⟩:∃d,c - a=d:=⟨_,rfl⟩
 have s:2<=d:=ah
 have B:=fK s
 have C:=AA (λm p=>mr (m:=m) s p)
 have D:=AA (λm p t=>CR (m:=m) (n:=d) p t s)
 have E:=iQ d
 rw[hd]at k A ⊢
 obtain⟨e,H⟩:∃p,ay d=p:=⟨_,rfl⟩
 rw[H]at k A B E C D ⊢
 obtain⟨b,I⟩:∃b,a+e=b:=⟨_,rfl⟩
 rw[I]at k ⊢
 have ν:(c:Int) - (a:Int)=(d:Int):=ah
 have ξ:(a:Int)+(e:Int)=(b:Int):=ah
 have ο:¬((g:Int) - (a:Int)<=(e:Int)):=ah
 have ρ:(0:Int)<=(a:Int):=ah
 have σ:(a:Int)<=1099511627776:=ah
 have τ:(0:Int)<=(c:Int):=ah
 have υ:(c:Int)<=1099511627776:=ah
 have φ:(0:Int)<=(g:Int):=ah
 have χ:(g:Int)<=1099511627776:=ah
 have ψ:(0:Int)<=(e:Int):=ah
 have b8:(e:Int)<=1099511627776:=ah
 have ω:(d:Int)<=1099511627776:=ah
 obtain⟨m,v⟩:∃m,j.length=m:=⟨_,rfl⟩
 have J:Hid (m<=41):=by show _<=_;omega
 have w:Hid (1<=e/\e < d/\d<=1099511627776):=⟨E,B,ah⟩
 replace v:=AA v
 replace k:=AA k
 clear P Q R A hd s B H I T E
 go_enter func278,ntmps278
 go_wp2_with fail
 go_loop [9] (λq=>∃b h:Nat,q=.int .i64 (b:Int)/\Hid (b=2 ^ h)/\1<=b/\b<=e) (λq=>e - (intOf q).toNat)
 case atStart=>exact⟨1,0,rfl,rfl,AJ _,w.1⟩
 case round=>
  obtain⟨f,h,rfl,r,Γ,Y⟩:=hrel;have Δ:=AO (2*(f:Int)) (aC w);have Θ:=IntWalk.wrap64_in (2*(f:Int)) (aC w);have Ξ:(0:Int)<=(f:Int):=ah;have Φ:(f:Int)<=1099511627776:=aC w;by_cases x:2*f < d
  ·have Z:2*(f:Int) < (d:Int):=ah
   (have F:Hid (2*f=2 ^ (h+1)):=by show _=_;rw[r.out,Nat.pow_succ,Nat.mul_comm]);have t:Hid (2*f<=e):=(F.out ▸ C _ (by rw[<-F.out];exact x));clear x;go_wp2_with fail
   go_round
   case rel=>exact⟨2*f,h+1,by go_num,F,ah,t⟩
   case measure=>(have:=t.out;simp[intOf];omega)
  ·have Z:¬(2*(f:Int) < (d:Int)):=ah
   obtain rfl:f=e:=by
    have:=D h (r.out ▸ x) (r.out ▸ Y);rw[<-r.out]at this;exact this
   clear x C D r;go_wp2_with fail;refine(k _).mono ?_;rintro h l ⟨q,rfl,y,G⟩;rw[v.out]at y;obtain⟨α,β,rfl,-⟩:=Own.reads y;have K:Hid ((l.alloc (.cells (bM (a,b)).toArray 401)).ownsRow i.heap.size 401 2 (.slice α m β) m (dU j)):=aK y (Below.aJ _ _);have γ:Hid (ax (l.alloc (.cells (bM (a,b)).toArray 401)) 2 (some ⟨l.heap.size,0,none⟩) 1 (bM (a,b))):=aL.reads (aL.new l 401 (bM (a,b)).toArray) 0 _ rfl (λΨ u δ=>by rw[Nat.zero_add,List.getElem?_toArray];exact δ);have L:Hid (av i (l.alloc (.cells (bM (a,b)).toArray 401))):=G.alloc G.size _;have M:=AA L.size;clear y G
   go_wp2_with (first
    |(rw[bY 56];refine dL (o:=⟨some 56,_,_,_,_,_⟩) rfl 362 401 1 _ rfl 2 aR [bM (a,b)] Bw V7 VY rfl aR aR (λq N=>by simp only[List.mem_singleton]at N;rw[N];rfl) rfl ?_;change wpList _ _ _ _ _ (l.alloc (.cells (bM (a,b)).toArray 401)))
    |(rw[bY 57];refine iL (.tmp 50) (.tmp 56) Bw U V W X K γ (λh=>by cases h) (kP _) (iI (aC J)).1 (iI (aC J)).2 M ?_;intro ε ζ O;have z:ζ.ownsRow i.heap.size 401 2 ε (m+1) (dU (j++[(a,b)])):=(by rw[lW];exact O.own);have η:=AA<|O.below L M (λθ h=>(K.lt θ h).1);obtain⟨Ω,À,rfl,-⟩:=Own.reads z;replace z:=AA z))
   go_ret;exact⟨_,rfl,by rw[List.length_append,v.out];exact z,η⟩
theorem Ic:∀(f a b c:Nat) (e:Bool) (d:World),a < c->c<=b->b - a<=2 ^ f->f<=40->b<=1099511627776->
  Calls prog 278 #[.int .i64 (a:Int),.int .i64 (b:Int),.int .i64 (c:Int),.bool e] d (p8 401 d (mI a b c e))
 | f,a,b,c,e,d,g,k,i,j,h=>by
  by_cases k:c=b
  ·subst k
   rw[qF g];cases e with
   | true=>exact Py a c d
   | false=>exact Rl a c d
  ·have k:=fK (n:=b - a) ah
   have k:=qf (b - a);cases f with
   | zero=>simp at i;omega
   | succ f=>
    have k:=rW (n:=b - a) ah i
    have i:2 ^ (f+1)<=1099511627776:=by
     rw[show(1099511627776:Nat)=2 ^ 40 by decide];exact Nat.pow_le_pow_right ah j
    by_cases i:c - a<=ay (b - a)
    ·rw[qG g ah i]
     have j:=oD (b - a) a (a+ay (b - a)) c e ah g ah;have k:=oW 40 (c - a) (a+ay (b - a) - a) e ah ah (by rw[show(2:Nat) ^ 40=1099511627776 by decide];omega);exact Rm a b c g ah h i e _ ah d (λd=>Ic f a (a+ay (b - a)) c e d g ah ah ah ah)
    ·rw[pz g ah ah]
     have j:=oD (b - a) (a+ay (b - a)) b c false ah ah ah;have k:=oW 40 (c - (a+ay (b - a))) (b - (a+ay (b - a))) false ah ah (by rw[show(2:Nat) ^ 40=1099511627776 by decide];omega);exact Px a b c g ah h ah e _ ah d (λd=>Ic f (a+ay (b - a)) b c false d ah ah ah ah h)
theorem sV(a b:Nat)(c:a<=b)(hs:b<=1099511627776)(e:World):Calls prog 251 #[.int .i64 (a:Int),.int .i64 (b:Int)] e (p8 401 e (bW a b)):=by
 by_cases h0:a=0
 ·subst h0
  rw[show bW 0 b=[]from if_pos (.inl rfl)];clear c hs;(go_enter func251,ntmps251);go_wp2_with fail;go_ret;exact⟨_,rfl,Aa _ _ _ _,Below.refl _ _⟩
 ·have d:((a:Int)==0)=false:=beq_eq_false_iff_ne.2 ah
  by_cases d:a=b
  ·rw[show bW a b=[]from if_pos (.inr d)]
   subst d;have f:((a:Int)==(a:Int))=true:=beq_self_eq_true _;clear c hs;(go_enter func251,ntmps251);go_wp2_with fail;go_ret;exact⟨_,rfl,Aa _ _ _ _,Below.refl _ _⟩
  ·rw[show bW a b=mI 0 b a true from if_neg (λc=>c.elim h0 d)]
   have f:((a:Int)==(b:Int))=false:=beq_eq_false_iff_ne.2 ah;have f:=d;have d:=AA (λf=>Ic 40 0 b a true f ah c (by rw[show(2:Nat) ^ 40=1099511627776 by decide];omega) (AJ _) hs);clear c hs;(go_enter func251,ntmps251);go_wp2_with fail;refine(d e).mono ?_;rintro c d ⟨e,rfl,a,b⟩;obtain⟨c,d,rfl,-⟩:=Own.reads a;replace a:=AA a;replace b:=AA b;go_wp2_with fail;go_ret;exact⟨_,rfl,a,b⟩
theorem Tx.kept{S:Nat->Prop}{w b:World}{d:List Value}{e:List aj}(i:Tx w d e)(j:au S w b)(k:∀a,S a->(∃f c,aL w a f c/\c.size<=32)\/(∃u,w.cell? ⟨a,0,none⟩=some u/\∀g,u≠.int .u8 g)):Tx b d e:=λb d e=>by
 obtain⟨g,a,l,m,n,h⟩:=i b d e;refine⟨g,a,l,m,n,h.kept j (λb i e hs=>?_)⟩;(injection e with e);(injection e with a b);subst a b;obtain⟨e,i,a,-,b⟩:=h.at_ ah;(injection a with a);(injection a with e h);subst e h
 rcases k _ hs with⟨f,c,e,a⟩ |⟨u,h,i⟩
 ·have a:=b 32 _ (eu d 32 g)
  rw[e.cell,Array.getElem?_eq_none ah]at a;cases a
 ·have a:=b 0 _ (eu d 0 ah)
  rw[Nat.add_zero,h]at a;exact i _ (AL a)
theorem GJ{e:World}{m c:Nat}{f:Value}{h:List Value}{b:List aj}(i:e.ownsRow m 27 1 f c h)(hx:Tx e h b)(n:b.length=c)(o:b=[]->f.ownBlock=none){j:Nat}(g:f.ownBlock=some j):∃u,e.cell? ⟨j,0,none⟩=some u/\∀c,u≠.int .u8 c:=by
 obtain⟨d,k⟩:∃d,b[0]?=some d:=by
  cases b with
  | nil=>rw[o rfl]at g;cases g
  | cons d b=>exact⟨d,rfl⟩
 obtain⟨-,p,z,q,-⟩:=hx 0 d k
 have A:0 < c:=by rw[<-n];cases b with
  | nil=>cases k
  | cons d b=>simp
 obtain⟨B,c2,rfl,-,-,-,r,s⟩:=Own.reads i;obtain⟨C,t,rfl,-,v⟩:=r.at_ ah;have w:=v 0 _ q;have l:=(s _ rfl).2;rw[g]at l;have x:=AL l
 have y:t=0:=by
  rcases i.2 with⟨a,-⟩ |⟨p,D,E,a,-⟩
  ·injection a with a;cases a
  ·injection a with a;injection a with a;injection a
 subst x y;exact⟨_,w,λc a=>by cases a⟩
structure xK(wo wr:World)(b1 b2:Nat)(x1 x2:aj)(v1 v2:Value)(xs1 xs2:List Value)(t1 t2:List aj):Prop where
 lf1:aL wr b1 23 (ak x1).toArray
 lf2:aL wr b2 23 (ak x2).toArray
 o1:wr.ownsRow wo.heap.size 27 1 v1 t1.length xs1
 o2:wr.ownsRow wo.heap.size 27 1 v2 t2.length xs2
 Wx:Tx wr xs1 t1
 Xo:Tx wr xs2 t2
 ap:∀k,v1.ownBlock=some k->v2.ownBlock≠some k
 e1:t1=[]->v1.ownBlock=none
 e2:t2=[]->v2.ownBlock=none
 kept:au (λk=>k=b1\/k=b2) wo wr
theorem xK.swap{b wr:World}{c d:Nat}{e f:aj}{g h:Value}{i j:List Value}{t1 t2:List aj}(a:xK b wr c d e f g h i j t1 t2):xK b wr d c f e h g j i t2 t1:=
 ⟨a.lf2,a.lf1,a.o2,a.o1,a.Xo,a.Wx,λb c d=>a.ap b d c,a.e2,a.e1,a.kept.mono (λ_ _ e=>e.symm)⟩
theorem xK.below{b wr c:World}{d e:Nat}{f g:aj}{i j:Value}{k l:List Value}{t1 t2:List aj}(h:xK b wr d e f g i j k l t1 t2)(a:av wr c):xK b c d e f g i j k l t1 t2:=
 ⟨(a.block _ h.lf1.lt).trans h.lf1,(a.block _ h.lf2.lt).trans h.lf2,aK h.o1 a,aK h.o2 a,Tx.below h.Wx a,Tx.below h.Xo a,h.ap,h.e1,h.e2,h.kept.trans (T:=λ_=>False) (au.of_below a) (λ_ _ h=>h.elim)⟩
theorem xK.push{a wr c b:World}{d e gt ct h:Nat}{j k q:aj}{f l o:Value}{i m:List Value}{t1 t2:List aj}(g:xK a wr d e j k f l i m t1 t2)(p:av wr c)(r:t1.length=h)
  (s:ax c 1 (some ⟨gt,0,none⟩) q.length (ak q))(t:32 < q.length)(n:wr.heap.size<=gt/\gt < c.heap.size)(v:q.length<=ct)(w:d < a.heap.size/\e < a.heap.size)
  (n:rC (c.alloc (.cells #[.slice (some ⟨gt,0,none⟩) q.length ct] 27)) a.heap.size 27 1 f h 1 i [.slice (some ⟨gt,0,none⟩) q.length ct] o b):
  xK a b d e j k o l (i++[.slice (some ⟨gt,0,none⟩) q.length ct]) m (t1++[q]) t2:=by
 subst r
 have o:=g.below p
 have b:xK a (c.alloc (.cells #[.slice (some ⟨gt,0,none⟩) q.length ct] 27)) d e j k f l i m t1 t2:=o.below (Below.aJ c _)
 have a:=g.kept.size
 have a:=p.size
 have m:(c.alloc (.cells #[.slice (some ⟨gt,0,none⟩) q.length ct] 27)).heap.size=c.heap.size+1:=by simp
 have e:=(au.refl _ _).grown n.grow (λd a=>.inl a.symm)
 have j:=λd (a:f.ownBlock=some d)=>(b.o1.lt d a).1
 have p:some gt≠f.ownBlock:=λa=>by have:=(g.o1.lt gt a.symm).2;omega
 have k:∀i,some i=f.ownBlock->(∃r l,aL (c.alloc (.cells #[.slice (some ⟨gt,0,none⟩) q.length ct] 27)) i r l/\l.size<=32)\/(∃u,(c.alloc (.cells #[.slice (some ⟨gt,0,none⟩) q.length ct] 27)).cell? ⟨i,0,none⟩=some u/\∀h,u≠.int .u8 h):=λi c=>.inr (GJ b.o1 b.Wx rfl b.e1 c.symm)
 refine⟨?_,?_,?_,?_,?_,?_,λd a c=>?_,(λa=>by simp at a),g.e2,?_⟩
 ·exact b.lf1.kept e (λa=>by have:=j _ a.symm;omega)
 ·exact b.lf2.kept e (λa=>by have:=j _ a.symm;omega)
 ·rw[List.length_append]
  exact n.own
 ·exact lM b.o2 e (λd a c=>b.ap d c.symm a)
 ·refine Tx.append (Tx.kept b.Wx e k) (λf i h=>?_) (by have:=g.o1.1;simpa using this)
  match f with
  | 0=>
   obtain rfl:=AL h;exact⟨t,gt,ct,rfl,v,(s.alloc _).kept e (λi l a c=>by injection a with a;injection a with i l;subst i;exact p c)⟩
  | f+1=>simp at h
 ·exact Tx.kept b.Xo e k
 ·rcases n.at_ with h | h
  ·exact g.ap d (by rw[<-h,a]) c
  ·rw[h,m]at a
   have g:=AL a;have:=(o.o2.lt d c).2;omega
 ·exact b.kept.trans e (λf c a=>by have:=j f a.symm;omega)
theorem xK.store{e d f:World}{b g:Nat}{h i z:aj}{j k:Value}{l m:List Value}{t1 t2:List aj}(a:xK e d b g h i j k l m t1 t2)(n:h.length=32)(o:aL f b 23 (ak z).toArray)(c:au (·=b) d f)(p:b≠g)(q:b < e.heap.size):
  xK e f b g z i j k l m t1 t2:=by
 have f:∀e,e=b->(∃h g,aL d e h g/\g.size<=32)\/(∃u,d.cell? ⟨e,0,none⟩=some u/\∀i,u≠.int .u8 i):=λe b=>by subst b;exact .inl ⟨_,_,a.lf1,by simp[aB,n]⟩
 refine⟨o,a.lf2.kept c (λb=>p b.symm),lM a.o1 c (λd b e=>?_),lM a.o2 c (λd b e=>?_),Tx.kept a.Wx c f,Tx.kept a.Xo c f,a.ap,a.e1,a.e2,a.kept.trans c (λe _ b=>.inl b)⟩
 ·have:=(a.o1.lt d b).1;omega
 ·have:=(a.o2.lt d b).1;omega
theorem GZ{d e a:Nat}(k:a < e):((2*d+1)*2 ^ e - 1) / 2 ^ a % 2=1:=by
 obtain⟨b,rfl⟩:∃b,e=a+1+b:=⟨e - a - 1,ah⟩;have g:=Nat.two_pow_pos a;have h:=Nat.two_pow_pos b;(have f:(2*d+1)*2 ^ (a+1+b)=((2*d+1)*2 ^ b)*2*2 ^ a:=by rw[Nat.pow_add,Nat.pow_succ];simp only[Nat.mul_assoc,Nat.mul_comm,Nat.mul_left_comm]);have i:0 < (2*d+1)*2 ^ b:=Nat.mul_pos ah h;generalize(2*d+1)*2 ^ b=c at f i
 have j:c*2*2 ^ a - 1=(c*2 - 1)*2 ^ a+(2 ^ a - 1):=by
  have l:c*2*2 ^ a=(c*2 - 1)*2 ^ a+2 ^ a:=by
   conv=>lhs;rw[show c*2=(c*2 - 1)+1 by omega,Nat.add_mul,Nat.one_mul]
  omega
 rw[f,j,Nat.add_comm,Nat.add_mul_div_right _ _ g,Nat.div_eq_of_lt ah,Nat.zero_add];omega
theorem NJ{b a:Nat}:((2*b+1)*2 ^ a - 1) / 2 ^ a % 2=0:=by
 have c:=Nat.two_pow_pos a
 have d:(2*b+1)*2 ^ a - 1=(2*b)*2 ^ a+(2 ^ a - 1):=by
  rw[Nat.add_mul,Nat.one_mul];omega
 rw[d,Nat.add_comm,Nat.add_mul_div_right _ _ c,Nat.div_eq_of_lt ah];omega
theorem bJ.up{c a f d:Nat}(e:a=(2*f+1)*2 ^ d)(g:a<=c):∀b,b<=d->bJ c (a - 1) b ((a - 1) / 2 ^ b) ((c - 1) / 2 ^ b)
 | 0,_=>by simpa using bJ.zero c (a - 1)
 | b+1,c=>by
  have c:=Nat.two_pow_pos d;(have c:1<=a:=by rw[e,Nat.add_mul,Nat.one_mul];omega);have a:=bJ.up e g b ah;have b:=(a.odd ah (e ▸ GZ ah)).2;rwa[xu,xu]
theorem PI{a b d c e:Nat}{f:Bool}(g:a=(2*d+1)*2 ^ c)(i:a < b)(h:(sides b (a - 1))[c+e]?=some f):(qZ a b)[e]?=some f:=by
 have e:=Nat.two_pow_pos c;(have e:1<=a:=by rw[g,Nat.add_mul,Nat.one_mul];omega);rw[ul b a b d c (Nat.le_refl _) e ah g (λf=>by omega),List.getElem?_append_right aZ,List.length_replicate,Nat.add_sub_cancel_left]at h;exact h
theorem EB{a b d c:Nat}(e:a=(2*d+1)*2 ^ c)(f:a < b):(sides b (a - 1)).length=c+(qZ a b).length:=by
 have f:=Nat.two_pow_pos c;(have f:1<=a:=by rw[e,Nat.add_mul,Nat.one_mul];omega);rw[ul b a b d c (Nat.le_refl _) f ah e (λg=>by omega),List.length_append,List.length_replicate]
structure Yy(s:Int)(old size:Nat)(root:aj)(ds:List aj)(q a:Nat)(Zf:Nat->Ah)(D:List aj)(x0:aj)(N:Nat):Prop where
 d:D=if q=0 then root :: ds else ds
 len:D.length=N
 Xt:jk D
 n2:2<=N
 n42:N<=42
 zero:D[0]?=some x0
 x32:x0.length=32
 start:Zf 1=⟨x0,x0,[],[]⟩
 step:∀j,1<=j->j < N->∃d,D[j]?=some d/\d.length=32/\∀b,(sides size (old - 1))[a+j - 1]?=some b->Zf (j+1)=sK s (Zf j) (b,d)
 ok:∀j,1<=j->j<=N->(Zf j).Ok (j - 1)
 last:jc s old size root ds=Zf N
 sd:(sides size (old - 1)).length=a+N - 1
theorem Dz(n:Int){a c:Nat}{root:aj}{ds:List aj}{g l:Nat}(b:1<=a)(j:a < c)(hs:c<=1099511627776)(t:root.length=32)(hd:jk ds)(d:oP a c=ds.length)(o:a=(2*g+1)*2 ^ l):
  ∃e d f i,Yy n a c root ds g l e d f i:=by
 obtain⟨e,i,u⟩:=zV b j
 have b:=nA (BB j)
 have v:=EB o j
 have b:=wN (BB j) hs
 have q:=Ku o
 have m:jV a=if g=0 then 0 else 1:=by
  unfold jV;rw[q];by_cases i:g=0
  ·simp[i]
  ·simp[i]
 have b:(((bW a c).map (bh a)).zip ds).length=ds.length:=by rw[List.length_zip,List.length_map];omega
 obtain⟨f,r⟩:∃f,(if Gg a then root else ds.getD 0 [])=f:=⟨_,rfl⟩
 obtain⟨d,k⟩:∃d,(if g=0 then root :: ds else ds)=d:=⟨_,rfl⟩
 have b:d.length+jV a=ds.length+1:=by
  rw[m,<-k]
  split<;>simp
 have w:∀b,1<=b->d[b]?=ds[jV a+(b - 1)]?:=λb p=>by
  obtain⟨e,rfl⟩:∃e,b=e+1:=⟨b - 1,ah⟩;rw[m,<-k]
  split
  ·simp
  ·rw[Nat.add_sub_cancel,Nat.add_comm 1 e]
 have s:jk d:=by
  rw[<-k]
  split
  ·intro m x
   rcases Ag.1 x with rfl | h
   ·exact t
   ·exact hd _ h
  ·exact hd
 have t:d[0]?=some f:=by
  rw[<-k,<-r,q];by_cases i:g=0
  ·simp[i]
  ·rw[if_neg i,if_neg (by simp[i])]
   have:0 < ds.length:=ah;simp[List.getD,List.getElem?_eq_getElem this]
 have g:=s.at_ t
 have q:∀e,jV a+e<=ds.length->(iW n f (jV a) (((bW a c).map (bh a)).zip ds) (jV a+e)).Ok e:=λe i=>wO g (λi x=>hd _ (List.of_mem_zip (show(i.1,i.2)∈_ from x)).2) e ah
 refine⟨λb=>iW n f (jV a) (((bW a c).map (bh a)).zip ds) (jV a+(b - 1)),d,f,(qZ a c).length+1,k.symm,ah,s,ah,ah,t,g,?_,λb p e=>?_,λb p e=>q (b - 1) ah,?_,by rw[v];omega⟩
 ·show iW _ _ _ _ (jV a+0)=_
  rw[Nat.add_zero,yu]
 ·have e:jV a+(b - 1) < ds.length:=ah
  obtain⟨m,d⟩:∃m,ds[jV a+(b - 1)]?=some m:=⟨_,AV e⟩;refine⟨m,by rw[w b p,d],hd.at_ d,λf e=>?_⟩;rw[show l+b - 1=l+(b - 1) by omega]at e;have f:=PI o j e;rw[<-u,List.getElem?_drop]at f;show iW _ _ _ _ (jV a+(b+1 - 1))=_;rw[show jV a+(b+1 - 1)=jV a+(b - 1)+1 by omega];exact vR (Nat.le_add_right _ _) (List.getElem?_zip_eq_some.2 ⟨f,d⟩)
 ·show jc _ _ _ _ _=iW _ _ _ _ (jV a+((qZ a c).length+1 - 1))
  unfold jc;rw[r,show jV a+((qZ a c).length+1 - 1)=ds.length by omega]
theorem Qd(a:World)(c:Nat)(d:c<=a.heap.size)(b:aj)(hx:b.length=32):(a.alloc (.cells (ak b).toArray 23)).ownsRow c 23 32 (.slice (some ⟨a.heap.size,0,none⟩) 1 1) 1 (ak b):=
 ⟨by simp[aB,hx],.inr ⟨a.heap.size,1,(ak b).toArray,rfl,d,heap_alloc_new a _,AJ _,by decide,by simp[aB,hx],by rw[List.take_of_length_le (by simp[aB,hx])]⟩⟩
def Xl(w:World)(Z:Ah)(e:Ending)(w':World):Prop:=∃A c xs,e=.returned (.tuple #[.agg (ak Z.fr).toArray,.agg (ak Z.sr).toArray,.slice A (Z.ft.length+Z.st.length) c,.int .i64 0])/\ax w' 1 A (Z.ft.length+Z.st.length) xs/\Tx w' xs (Z.ft++Z.st)/\av w w'
def Yc(w:World)(Z:Ah)(e:Ending)(w':World):Prop:=∃A c xs,e=.returned (.tuple #[.agg (ak Z.fr).toArray,.agg (ak Z.sr).toArray,.slice A (Z.ft.length+Z.st.length) c,.int .i64 0])/\(A=none->Z.ft.length+Z.st.length=0/\c=0)/\ax w' 1 A (Z.ft.length+Z.st.length) xs/\Tx w' xs (Z.ft++Z.st)/\av w w'
theorem Iy(z:Int)(î:z < 9223372036854775808)(B K:Nat)(M:1<=B)(υ:B < K)(hs:K<=1099511627776)(root:aj)(Q:root.length=32)(ds:List aj)(t:Option Addr)(θ y:Nat)(c:oP B K=θ)(w:World)(a:j6 w t θ ds):
  Calls prog 230 #[.int .i64 z,.int .i64 (B:Int),.int .i64 (K:Int),.agg (ak root).toArray,.slice t θ y] w (Yc w (jc z B K root ds)):=by
 obtain⟨b,ú,û,ü,ý⟩:=bV Hg
 obtain⟨b,X,Y,β,γ⟩:=bV Jc
 obtain⟨q,ι,b⟩:=Nf B M
 obtain⟨L,A,P,φ,e⟩:=Dz z (root:=root) (ds:=ds) M υ hs Q a.2.1 (by rw[c,a.1]) b
 rw[e.last]
 have j:Hid (θ<=41):=c ▸ wN ah hs
 have l:=AA (λh=>sV B K ah hs h)
 have r:Hid ((bW B K).length=θ):=by show _=_;rw[nA ah,c]
 have T:=AA (bJ.up b (BB υ) ι (AJ ι))
 have χ:=AA (λf (g:f < ι)=>@GZ q ι f g)
 have E:=AA (@NJ q ι)
 rw[<-b]at χ E
 have k:(w.alloc (.cells (ak root).toArray 23)).heap.size=w.heap.size+1:=by simp
 have Ĝ:((w.alloc (.cells (ak root).toArray 23)).alloc (.cells bF 23)).heap.size=w.heap.size+2:=by simp
 have i:(((w.alloc (.cells (ak root).toArray 23)).alloc (.cells bF 23)).alloc (.cells bF 23)).heap.size=w.heap.size+3:=by simp
 have s:Hid (av w (((w.alloc (.cells (ak root).toArray 23)).alloc (.cells bF 23)).alloc (.cells bF 23))):=((Below.aJ w _).alloc aZ _).alloc (by simp;omega) _
 have v:Hid (aL (((w.alloc (.cells (ak root).toArray 23)).alloc (.cells bF 23)).alloc (.cells bF 23)) w.heap.size 23 (ak root).toArray):=((aL.new w _ _).alloc _).alloc _
 have C:Hid (aL (((w.alloc (.cells (ak root).toArray 23)).alloc (.cells bF 23)).alloc (.cells bF 23)) (w.heap.size+1) 23 bF):=by
  have:=(aL.new (w.alloc (.cells (ak root).toArray 23)) 23 bF).alloc (.cells bF 23);rwa[k]at this
 have D:Hid (aL (((w.alloc (.cells (ak root).toArray 23)).alloc (.cells bF 23)).alloc (.cells bF 23)) (w.heap.size+2) 23 bF):=by
  have:=aL.new ((w.alloc (.cells (ak root).toArray 23)).alloc (.cells bF 23)) 23 bF;rwa[Ĝ]at this
 have F:Hid (aL ((((w.alloc (.cells (ak root).toArray 23)).alloc (.cells bF 23)).alloc (.cells bF 23)).alloc (.cells bF 23)) (w.heap.size+3) 23 bF):=by
  have:=aL.new (((w.alloc (.cells (ak root).toArray 23)).alloc (.cells bF 23)).alloc (.cells bF 23)) 23 bF;rwa[i]at this
 have d:=AA i
 have δ:=AA (aP (x:=root) Q)
 have m:=AA (aP (x:=P) e.x32)
 have n:Hid (1<=B/\B < K/\K<=1099511627776):=⟨M,υ,hs⟩
 have I:=AA b
 have U:Hid ((2*q+1)*2 ^ ι<=1099511627776):=by show _<=_;omega
 have O:decide ((B:Int) < 0)=false:=AP ah
 have W:decide (K < B)=false:=AP ah
 have α:decide (1099511627776 < (K:Int))=false:=AP ah
 have ζ:((B:Int)==0)=false:=beq_eq_false_iff_ne.2 ah
 have η:((B:Int)==(K:Int))=false:=beq_eq_false_iff_ne.2 ah
 have κ:¬B=0:=ah
 have μ:¬B=K:=ah
 have ν:¬K < B:=ah
 replace a:=AA a
 replace î:=AA î
 replace e:=AA e
 replace Q:=AA Q
 clear hs k Ĝ i b M υ c
 go_enter func230,ntmps230
 go_wp2_with (rw[bA 23 14];refine dB F kL rfl CX ?_;intro c G ε;have ξ:Hid (av w c):=(s.alloc (aC d) _).trans (au.aW ε ah (by have:=d.out;simp;omega));have Z:Hid (aL c w.heap.size 23 (ak root).toArray):=(v.alloc _).kept ε ah;have J:Hid (aL c (w.heap.size+1) 23 bF):=(C.alloc _).kept ε ah;have N:Hid (aL c (w.heap.size+2) 23 bF):=(D.alloc _).kept ε ah;have Ì:Hid (w.heap.size+4<=c.heap.size):=(by have:=ε.size;have υ:=d.out;show _<=_;simp at this;omega);clear s v C D F d ε G)
 refine(l _).mono ?_
 rintro b d ⟨k,rfl,i,S⟩
 rw[r.out]at i
 obtain⟨s,v,rfl,-⟩:=Own.reads i
 have D:=aQ ξ S
 have V:=bf S Z
 have Ω:=bf S J
 have H:=bf S N
 have ĝ:Hid (w.heap.size+4<=d.heap.size):=by have:=S.size;have:=Ì.out;show _<=_;omega
 have s:((θ:Int)==(θ:Int))=true:=beq_self_eq_true _
 clear i S Z J N Ì ξ l r O W α ζ η κ μ ν
 go_wp2_with fail
 clear s
 have ζ:Hid ((B:Int)=(((2*q+1)*2 ^ ι:Nat):Int)):=by show _=_;rw[<-I.out]
 go_loop [16] (λk=>∃p f:Nat,k=.int .i64 (p:Int)/\Hid (f<=ι)/\Hid (p=(2*q+1)*2 ^ f)) (λk=>(intOf k).toNat)
 case atStart=>exact⟨B,ι,rfl,AJ _,I⟩
 case round=>
  obtain⟨p,f,rfl,Û,Ą⟩:=hrel
  have η:(p:Int)<=1099511627776:=by
   have M:(2*q+1)*2 ^ f<=(2*q+1)*2 ^ ι:=Nat.mul_le_mul_left _ (Nat.pow_le_pow_right aR Û);have υ:=Ą.out;have i:=U.out;omega
  have Ğ:(0:Int)<=(p:Int):=ah
  rcases Nat.eq_zero_or_pos f with ğ | ğ
  ·have r:Hid (p=2*q+1):=by show _=_;rw[Ą.out,ğ];simp
   have C:(p:Int) % 2=1:=aC r;(have α:(p:Int).tmod 2=1:=by rw[Int.tmod_eq_emod_of_nonneg Ğ];exact C);clear ğ Ą Û C;go_upto_if 65 with fail
   go_cut [15]from 64 to 69 (λk wr=>∃I c2,k=.slice I φ c2/\Hid (j6 wr I φ A)/\Hid (av d wr))
   case first=>
    by_cases v:q=0
    ·have N:p=1:=aC r
     (have l:Hid (A=root :: ds):=by show _=_;rw[e.out.d,if_pos v]);(have s:Hid (φ=θ+1):=by show _=_;rw[<-e.out.len,l.out,List.length_cons,a.out.1]);subst N;clear r α v;(have i:Hid (∀k∈[ak root],k.length=32):=λk F=>by simp only[List.mem_singleton]at F;rw[F,aB];exact Q);(have κ:Hid (([ak root].flatten).toArray=(ak root).toArray):=by show _=_;simp);have W:Hid ((d.alloc (.cells (ak root).toArray 23)).ownsRow d.heap.size 23 32 (.slice (some ⟨d.heap.size,0,none⟩) 1 1) 1 (ak root)):=Qd d _ (AJ _) root Q;have J:Hid (av d (d.alloc (.cells (ak root).toArray 23))):=Below.aJ d _;have μ:=AA ((a.below D).below J)
     have ν:Hid (t=none->θ=0/\y=0):=λb=>by
      have M:=s.out;have υ:=e.n2;obtain⟨J,o,O,-⟩:=a.2.2.at_ ah;rw[b]at O;cases O
     (have ο:Hid (1+θ<=maxLen):=by have:=j.out;show _<=_;unfold maxLen;omega);have ρ:Hid ((1+θ)*32<=140737488355328):=by have:=j.out;show _<=_;omega
     have σ:Hid (∀u∈ds.flatMap ak,u.oneCell'=true):=λu ψ=>by
      obtain⟨j,-,hd⟩:=List.mem_flatMap.1 ψ;exact aY j u hd
     go_wp2_with (first
      |(rw[aF 66];refine aM V δ.size AB ?_)
      |(rw[bY 67];refine dL (o:=⟨some 67,_,_,_,_,_⟩) rfl 44 23 1 _ rfl 32 aR [ak root] Ac jN xL rfl aR aR i rfl ?_;rw[κ.out])
      |(rw[bY 69];refine iL (.tmp 67) (.tmp 68) Ac X Y β γ W μ.2.2 ν σ ο ρ aZ ?_;intro ą i κ;obtain⟨X,Y,rfl,-⟩:=Own.reads κ.own;replace κ:=AA κ))
     go_meet
     case rel=>
      refine⟨X,Y,by rw[s.out,Nat.add_comm],?_,κ.below (Below.aJ d _) aZ (λf b=>(W.lt f b).1)⟩;show j6 _ _ _ _;rw[s.out,l.out];have d:=κ.own;rw[Nat.add_comm 1 θ]at d;exact EU (ds:=root :: ds) (by rw[List.flatMap_cons];exact d) (l.out ▸ e.Xt) (by rw[List.length_cons,a.out.1]) _ _ rfl
    ·have N:((p:Int)==1)=false:=beq_eq_false_iff_ne.2 (aC r)
     have d:¬p=1:=aC r;(have l:Hid (A=ds):=by show _=_;rw[e.out.d,if_neg v]);(have s:Hid (θ=φ):=by show _=_;rw[<-e.out.len,l.out,a.out.1]);clear r α v;go_wp2_with fail;go_meet
     case rel=>exact⟨t,y,by rw[s.out],by show j6 _ _ _ _;rw[l.out,<-s.out];exact a.below D,Below.refl _ _⟩
   case rest=>
    obtain⟨I,c2,rfl,X,t⟩:=hcut;obtain⟨l,rfl⟩:=fB wc;clear a;clear r α η Ğ;obtain⟨d,s⟩:=bG (B - 1);obtain⟨s1,Ì⟩:=bG (K - 1);have a:((B:Int) - 1)=(d:Int):=dn s n;have r:((K:Int) - 1)=(s1:Int):=dn Ì n;(have v:wrap64 (d:Int)=(d:Int):=by have:=s.out;have:=n.out;exact IntWalk.wrap64_in _ ah);(have y:wrap64 (s1:Int)=(s1:Int):=by have:=Ì.out;have:=n.out;exact IntWalk.wrap64_in _ ah);go_wp2_with fail;clear a r v y
    go_loop [17,18] (λx ï=>∃f a r:Nat,x=.int .i64 (a:Int)/\ï=.int .i64 (r:Int)/\Hid (f<=ι)/\Hid (a=d / 2 ^ f)/\Hid (r=s1 / 2 ^ f)) (λx _=>(intOf x).toNat)
    case atStart=>exact⟨0,d,s1,rfl,rfl,AX _,by show _=_;simp,by show _=_;simp⟩
    case round=>
     obtain⟨f,a,r,rfl,rfl,Û,v,Ê⟩:=hrel;have Ć:(0:Int)<=(a:Int):=ah;have δ:(0:Int)<=(r:Int):=ah;have ī:(a:Int) < 1099511627776:=Ng (Nat.div_le_self d (2 ^ f)) v s n;have η:(r:Int) < 1099511627776:=Ng (Nat.div_le_self s1 (2 ^ f)) Ê Ì n;by_cases À:f < ι
     ·have C:(a:Int) % 2=1:=by have g:=χ f À;rw[<-s.out,<-v.out]at g;omega
      (have α:(a:Int).tmod 2=1:=by rw[Int.tmod_eq_emod_of_nonneg Ć];exact C);(have ć:(a:Int).tdiv 2=((a / 2:Nat):Int):=by rw[Int.tdiv_eq_ediv_of_nonneg ah];omega);(have y:(r:Int).tdiv 2=((r / 2:Nat):Int):=by rw[Int.tdiv_eq_ediv_of_nonneg ah];omega);have y:Hid (f+1<=ι):=À;(have Ġ:Hid (a / 2=d / 2 ^ (f+1)):=by show _=_;rw[xu,v.out]);(have d:Hid (r / 2=s1 / 2 ^ (f+1)):=by show _=_;rw[xu,Ê.out]);(have A:Hid (a / 2 < a):=by show _ < _;omega);clear À C v Ê Û;go_wp2_with fail
      go_round
      case rel=>exact⟨f+1,a / 2,r / 2,(by first| rfl |(congr 1;omega)),(by first| rfl |(congr 1;omega)),y,Ġ,d⟩
      case measure=>(have:=A.out;simp[intOf];omega)
     ·obtain rfl:f=ι:=aC Û
      (have C:(a:Int) % 2=0:=by have g:=E.out;rw[<-s.out,<-v.out]at g;omega);(have α:(a:Int).tmod 2=0:=by rw[Int.tmod_eq_emod_of_nonneg Ć];exact C);(have Y:Hid (bJ K (B - 1) f a r):=by have g:=T.out;rw[<-s.out,<-Ì.out,<-v.out,<-Ê.out,s.out]at g;exact g);obtain⟨J,o,rfl,y,N⟩:=X.at_ e.zero
      have ð:Hid (∀h,av l h->∀d k,(ak P)[d]?=some k->h.cell? ⟨J,o+d,none⟩=some k):=λh Á d k F=>by
       have:=(Á.cell (p:=⟨J,o+0*32+d,none⟩) y).trans (N d k F);simpa using this
      have G:(0:Int) < (φ:Int):=aC e.n2;have μ:¬φ=0:=ah;replace y:=AA y;clear À C v Ê Û N
      go_wp2_with (first
       |(rw[aF 83];refine bS (ð l (Below.refl _ _)) m.part AB ?_)
       |(rw[bA 23 19];refine dB (aL.new l _ _) m.size m.zero m.one ?_;intro i v s;have I:Hid (av l i):=dx s;have W:Hid (l.heap.size < i.heap.size):=(by have:=s.size;show _ < _;simp at this;omega);replace v:=AA v;clear s)
       |(rw[aF 86];refine bS (ð i I) m.part AB ?_)
       |(rw[bA 23 20];refine dB (aL.new i _ _) m.size m.zero m.one ?_;intro s m A;have P:Hid (av i s):=dx A;have β:Hid (i.heap.size < s.heap.size):=(by have:=A.size;show _ < _;simp at this;omega);replace m:=AA m;clear A))
      have γ:Hid (xK s s l.heap.size i.heap.size (L 1).fr (L 1).sr (.slice none 0 0) (.slice none 0 0) [] [] (L 1).ft (L 1).st):=by
       show xK _ _ _ _ _ _ _ _ _ _ _ _;rw[e.out.start];exact⟨(P.block _ v.lt).trans v,m,Aa _ _ _ _,Aa _ _ _ _,(λþ q g=>by simp at g),(λþ q g=>by simp at g),(λf b=>by cases b),(λ_=>rfl),(λ_=>rfl),au.refl _ _⟩
      have ÿ:=aQ I P;have Ĭ:Hid (av w s):=D.trans ((t.trans (ÿ.mono t.size)).mono D.size);have ľ:Hid (aL s (w.heap.size+1) 23 bF):=((t.trans (ÿ.mono t.size)).block _ Ω.lt).trans Ω;have Ŀ:Hid (aL s (w.heap.size+2) 23 bF):=((t.trans (ÿ.mono t.size)).block _ H.lt).trans H;(have A:Hid (w.heap.size+4<=l.heap.size/\l.heap.size < i.heap.size/\i.heap.size < s.heap.size):=by have:=ĝ.out;have:=t.size;have:=W.out;have:=β.out;show _/\_;omega);clear I P W β v m Ω H V D t ĝ G μ ð y α χ E T ζ U Ć δ ī η;go_wp2_with fail
      go_loopw [17,18,21,22,23] (λx ï D E m wr=>∃(d a r:Nat) (t v:Value) (ζ W:List Value),m=.int .i64 (d:Int)/\Hid (1<=d/\d<=φ)/\x=.int .i64 (a:Int)/\ï=.int .i64 (r:Int)/\D=t/\E=v/\Hid (bJ K (B - 1) (f+d - 1) a r)/\Hid (xK s wr l.heap.size i.heap.size (L d).fr (L d).sr t v ζ W (L d).ft (L d).st)) (λ_ _ _ _ m _=>φ - (intOf m).toNat)
      case atStart=>exact⟨1,a,r,_,_,[],[],rfl,⟨AJ _,by have:=e.n2;omega⟩,rfl,rfl,rfl,rfl,Y,γ⟩
      case round=>
       clear γ Y;obtain⟨d,D,Ψ,t,v,ζ,W,rfl,Ë,rfl,rfl,a,m,Ā,G⟩:=hrel;rw[a,m];clear a m;have m:=AA (e.ok d Ë.1 Ë.2);have ġ:=AA (e.step d Ë.1);obtain⟨a,ĭ⟩:=aS (L d);rw[ĭ.out]at m G ġ;have ñ:=AA (aP (x:=a.fr) m.fl);have Ü:=AA (aP (x:=a.sr) m.sl);obtain⟨I,ε⟩:=aS (a.ft.length);obtain⟨E,S⟩:=aS (a.st.length);(have Ģ:Hid (I<=42/\E<=42):=by have:=m.fk;have:=m.sk;have:=ε.out;have:=S.out;have:=Ë.out;have:=e.n42;show _/\_;omega);obtain⟨ω,c1,rfl,-⟩:=Own.reads (ε.out ▸ G.out.o1);obtain⟨Γ,Δ,rfl,-,-,ģ,Ĉ,-⟩:=Own.reads (S.out ▸ G.out.o2);have ŀ:Hid (av l wr):=au.tO ÿ G.kept (λf g=>by have:=A.out;rcases g with g | g<;>omega) ÿ.size;have t:=Ā.le;have Ł:(D:Int) < 1099511627776:=aC n;have ł:(Ψ:Int) < 1099511627776:=aC n;have v:(0:Int)<=(D:Int):=ah;have v:(0:Int)<=(Ψ:Int):=ah;have v:(0:Int)<=(d:Int):=ah;have v:(d:Int)<=42:=dn Ë e.n42;have v:(φ:Int)<=42:=aC e.n42;(have Í:Hid (B - 1 < K):=by have:=n.out;show _ < _;omega);clear t;by_cases À:d < φ
       ·obtain⟨j,hd,H,Ý⟩:=ġ.out À
        replace H:=AA H;replace Ý:=AA Ý;have β:=AA (aP (x:=j) H);obtain⟨n,t,b,y,N⟩:=X.at_ hd;(injection b with b);(injection b with n O);subst n O;(have ð:Hid (∀f k,(ak j)[f]?=some k->wr.cell? ⟨J,o+d*32+f,none⟩=some k):=λf k F=>(ŀ.cell (p:=⟨J,o+d*32+f,none⟩) y).trans (N f k F));(have Ĥ:Hid (f+d - 1 < (sides K (B - 1)).length):=by have:=e.sd;have:=Ë.out;show _ < _;omega);have ā:Hid (d+1<=φ):=À;have Ĝ:(d:Int) < (φ:Int):=ah;(have ĥ:Hid (I+1<=maxLen/\(I+1)*24<=140737488355328):=by have:=Ģ.out;show _/\_;unfold maxLen;omega);(have Ă:Hid (E+1<=maxLen/\(E+1)*24<=140737488355328):=by have:=Ģ.out;show _/\_;unfold maxLen;omega);have ă:Hid (wr.ownsRow s.heap.size 27 1 (.slice ω I c1) I ζ):=ε.out ▸ G.out.o1;have Ħ:Hid (wr.ownsRow s.heap.size 27 1 (.slice Γ E Δ) E W):=S.out ▸ G.out.o2;(have Ń:Hid (some wr.heap.size≠(Value.slice ω I c1).ownBlock):=λb=>by have:=(ă.lt _ b.symm).2;omega);(have Į:Hid (some wr.heap.size≠(Value.slice Γ E Δ).ownBlock):=λb=>by have:=(Ħ.lt _ b.symm).2;omega);(have ń:Hid (wr.heap.size≠l.heap.size/\wr.heap.size≠i.heap.size):=by have:=G.kept.size;have:=A.out;show _/\_;omega);clear À hd y N ģ Ĉ ġ;by_cases η:D % 2=1
        ·have C:(D:Int) % 2=1:=ah
         (have α:(D:Int).tmod 2=1:=by rw[Int.tmod_eq_emod_of_nonneg ah];exact C);have Þ:=bJ.left Í D Ψ Ā (.inl η) Ĥ;have į:Hid (jE D Ψ):=.inl η;obtain⟨Â,Î⟩:=aS (nP z j a.fr);obtain⟨μ,ò⟩:∃q:aj,Hid (kb 1 :: (j++a.fr)=q):=⟨_,AA rfl⟩;(have Ã:Hid (μ.length=65):=by show _=_;rw[<-ò.out];simp[m.out.fl,H.out]);have ó:=AA (aP (x:=Â) (Î.out ▸ gY z _ _))
         have İ:Hid (∀h,bq 254 #[.int .i64 z,.agg (ak j).toArray,.agg (ak a.fr).toArray] h (.agg (ak Â).toArray)):=λh=>by
          have:=kG j a.fr H m.fl z h î;rw[show dP (bB (kb 1 :: (j++a.fr))) (cu z)=Â from Î.out]at this;exact this
         have ı:=AA (ó.same a.fr m.fl);have Ņ:Hid (Â.length=32):=Î.out ▸ gY z _ _;obtain⟨ο,Ä⟩:=aS (nP z j a.sr);obtain⟨N,Å⟩:∃q:aj,Hid (kb 1 :: (j++a.sr)=q):=⟨_,AA rfl⟩;(have γ:Hid (N.length=65):=by show _=_;rw[<-Å.out];simp[m.out.sl,H.out]);have Æ:=AA (aP (x:=ο) (Ä.out ▸ gY z _ _))
         have ĉ:Hid (∀h,bq 254 #[.int .i64 z,.agg (ak j).toArray,.agg (ak a.sr).toArray] h (.agg (ak ο).toArray)):=λh=>by
          have:=kG j a.sr H m.sl z h î;rw[show dP (bB (kb 1 :: (j++a.sr))) (cu z)=ο from Ä.out]at this;exact this
         have Ċ:=AA (Æ.same a.sr m.sl)
         have ċ:Hid (L (d+1)=⟨Â,ο,a.ft++[μ],a.st++[N]⟩):=by
          show _=_;rw[Ý.out _ Þ,sK];simp[Î.out,ò.out,Ä.out,Å.out]
         clear Þ Ý η
         go_wp2_with (first
          |(rw[aF 96];refine bS ð β.part AB ?_)
          |(rw[bA 23 24];refine dB (aL.new wr _ _) β.size β.zero β.one ?_;intro c ρ ß;have ξ:Hid (av wr c):=dx ß;have Z:Hid (xK s c l.heap.size i.heap.size a.fr a.sr (.slice ω I c1) (.slice Γ E Δ) ζ W a.ft a.st):=G.below ξ;have ħ:=AA (aK ă ξ);have Ĵ:=AA (aK Ħ ξ);replace ρ:=AA ρ;clear ß))
         have Č:Hid (Calls prog 224 #[.int .i64 1,.slice (some ⟨c.heap.size,0,none⟩) 2 2] (tW c wr.heap.size l.heap.size) λb h=>∃k,b=.returned k/\h.ownsRow (tW c wr.heap.size l.heap.size).heap.size 5 1 k 65 (ak μ)/\Below (tW c wr.heap.size l.heap.size).heap.size (tW c wr.heap.size l.heap.size) h):=by
          have Ï:=jQ (w:=c) ρ Z.lf1 H m.fl;have:=iB [j,a.fr] 2 rfl (some ⟨c.heap.size,0,none⟩) 2 1 (tW c wr.heap.size l.heap.size) (by simp[H.out,m.out.fl]) aR Ï;rw[show kb 1 :: [j,a.fr].flatten=μ by rw[<-ò.out];simp,show 1+[j,a.fr].flatten.length=65 by simp[H.out,m.out.fl]]at this;exact this
         refine dI (λ_=>True) 8 ?_;refine aH 0 trivial ?_;refine aH 1 trivial ?_;refine aH 2 trivial ?_;refine jJ 3 trivial ?_;change wpAnyH _ _ _ _ _ _ _ _ (tW c wr.heap.size l.heap.size);refine aU 4 ?_;refine cK (R:=λk X=>Below (tW c wr.heap.size l.heap.size).heap.size (tW c wr.heap.size l.heap.size) X/\X.ownsRow (tW c wr.heap.size l.heap.size).heap.size 5 1 k 65 (ak μ)) Aw (Č.mono λb X ⟨k,Θ,η,Á⟩=>⟨_,Θ,Á,η⟩) ?_;rintro Ĩ Y ⟨č,ô⟩;obtain⟨T,ν,rfl,Ð,σ⟩:=ô.form aR;refine aV trivial ?_;(have Ď:Hid (c.heap.size<=T/\T < Y.heap.size):=by have:=ja c wr.heap.size l.heap.size;exact⟨ah,σ⟩);have O:Hid (av c Y):=(kT c _ _).trans (č.mono (by rw[ja];omega));obtain⟨bJ,ĩ,Ñ,Ò,-,-,Q,-⟩:=Own.reads ô;(injection Ñ with Ó Ī Ô);subst Ó Ô;have ď:Hid (ax Y 1 (some ⟨T,0,none⟩) 65 (ak μ)):=Q;replace Ò:=AA Ò;have Đ:Hid ((Y.alloc (.cells #[.slice (some ⟨T,0,none⟩) 65 ν] 27)).ownsRow s.heap.size 27 1 (.slice ω I c1) I ζ):=(aK (aK ħ O) (Below.aJ Y _));have đ:Hid (ax (Y.alloc (.cells #[.slice (some ⟨T,0,none⟩) 65 ν] 27)) 1 (some ⟨Y.heap.size,0,none⟩) 1 [.slice (some ⟨T,0,none⟩) 65 ν]):=aL.reads (aL.new Y 27 #[.slice (some ⟨T,0,none⟩) 65 ν]) 0 _ rfl (λd u ψ=>by rw[Nat.zero_add];simpa using ψ);(have Ē:Hid (s.heap.size<=(Y.alloc (.cells #[.slice (some ⟨T,0,none⟩) 65 ν] 27)).heap.size):=by have:=O.size;have:=(Z).kept.size;show _<=_;simp;omega);clear č ô Ð σ Q Č;refine jJ 5 trivial ?_;refine aU 6 ?_;refine jK (.tmp 105) (.tmp 110) Ao ú û ü ý Đ đ (λb=>by cases b) (gm rfl) ĥ.1 ĥ.2 Ē ?_;intro ą ē U;obtain⟨ĵ,Ķ,rfl,-⟩:=Own.reads U.own;replace U:=AA U;refine aV trivial ?_;refine aH 7 trivial ?_;refine bT ?_;have Ĕ:Hid (au (λq=>some q=(Value.slice ω I c1).ownBlock) c ē):=⟨U.grow.os.trans O.os,U.grow.tape.trans O.tape,U.grow.output.trans O.output,(by have M:=U.grow.size;have υ:=O.size;simp at M;omega),λp Õ Ö=>(U.grow.block p (by have:=O.size;simp;omega) Ö).trans ((Below.heap_alloc _ _ _ (aC O.size)).trans (O.block p Õ))⟩;have Ø:Hid (aL ē wr.heap.size 23 (ak j).toArray):=(ρ).kept Ĕ (λb=>Ń b);have Ξ:=AA (xK.push (q:=μ) (gt:=T) (ct:=ν) (Z) O ε (Ã.out ▸ ď) (aC Ã) Ď (Ã.out ▸ Ò) ⟨by have:=A.out;omega,by have:=A.out;omega⟩ (Ã.out ▸ U));rw[Ã.out]at Ξ;clear đ Ē Đ U ď Ò Ď O Ĕ
         go_wp2_with (first
          |(rw[aF 113];refine aM Ø β.size AB ?_)
          |(rw[aF 114];refine aM Ξ.lf1 ñ.size AB ?_)
          |(go_at_call 254;refine(İ _).mono ?_;rintro b ĕ ⟨rfl,Φ⟩;have Ė:Hid (aL ĕ l.heap.size 23 (ak a.fr).toArray):=(Φ.block _ Ξ.lf1.lt).trans Ξ.lf1;replace Φ:=AA Φ)
          |(rw[bA 23 19];refine lF Ė.out ó.out.size ı.out ó.out.one ?_;intro n ė õ;have Ù:=AA (xK.store (Ξ.out.below Φ.out) m.out.fl ė õ (aC A) (aC A));have Ę:Hid (aL n wr.heap.size 23 (ak j).toArray):=aL.kept (w:=ĕ) ((Φ.out.block _ Ø.out.lt).trans Ø.out) õ (λb=>ń.out.1 b);have ķ:Hid (n.ownsRow s.heap.size 27 1 (.slice Γ E Δ) E W):=S.out ▸ Ù.out.o2;clear ė õ Φ Ė Ø Ξ))
         have à:Hid (Calls prog 224 #[.int .i64 1,.slice (some ⟨n.heap.size,0,none⟩) 2 2] (tW n wr.heap.size i.heap.size) λb h=>∃k,b=.returned k/\h.ownsRow (tW n wr.heap.size i.heap.size).heap.size 5 1 k 65 (ak N)/\Below (tW n wr.heap.size i.heap.size).heap.size (tW n wr.heap.size i.heap.size) h):=by
          have Ï:=jQ (w:=n) Ę Ù.lf2 H m.sl;have:=iB [j,a.sr] 2 rfl (some ⟨n.heap.size,0,none⟩) 2 1 (tW n wr.heap.size i.heap.size) (by simp[H.out,m.out.sl]) aR Ï;rw[show kb 1 :: [j,a.sr].flatten=N by rw[<-Å.out];simp,show 1+[j,a.sr].flatten.length=65 by simp[H.out,m.out.sl]]at this;exact this
         refine dI (λ_=>True) 8 ?_;refine aH 0 trivial ?_;refine aH 1 trivial ?_;refine aH 2 trivial ?_;refine jJ 3 trivial ?_;change wpAnyH _ _ _ _ _ _ _ _ (tW n wr.heap.size i.heap.size);refine aU 4 ?_;refine cK (R:=λk X=>Below (tW n wr.heap.size i.heap.size).heap.size (tW n wr.heap.size i.heap.size) X/\X.ownsRow (tW n wr.heap.size i.heap.size).heap.size 5 1 k 65 (ak N)) Aw (à.mono λb X ⟨k,Θ,η,Á⟩=>⟨_,Θ,Á,η⟩) ?_;rintro Ĩ F ⟨á,Ç⟩;obtain⟨v,P,rfl,Ð,σ⟩:=Ç.form aR;refine aV trivial ?_;(have â:Hid (n.heap.size<=v/\v < F.heap.size):=by have:=ja n wr.heap.size i.heap.size;exact⟨ah,σ⟩);have t:Hid (av n F):=(kT n _ _).trans (á.mono (by rw[ja];omega));obtain⟨bJ,ĩ,Ñ,τ,-,-,Q,-⟩:=Own.reads Ç;(injection Ñ with Ó Ī Ô);subst Ó Ô;have ã:Hid (ax F 1 (some ⟨v,0,none⟩) 65 (ak N)):=Q;replace τ:=AA τ;have ä:Hid ((F.alloc (.cells #[.slice (some ⟨v,0,none⟩) 65 P] 27)).ownsRow s.heap.size 27 1 (.slice Γ E Δ) E W):=(aK (aK ķ t) (Below.aJ F _));have å:Hid (ax (F.alloc (.cells #[.slice (some ⟨v,0,none⟩) 65 P] 27)) 1 (some ⟨F.heap.size,0,none⟩) 1 [.slice (some ⟨v,0,none⟩) 65 P]):=aL.reads (aL.new F 27 #[.slice (some ⟨v,0,none⟩) 65 P]) 0 _ rfl (λd u ψ=>by rw[Nat.zero_add];simpa using ψ);(have æ:Hid (s.heap.size<=(F.alloc (.cells #[.slice (some ⟨v,0,none⟩) 65 P] 27)).heap.size):=by have:=t.size;have:=(Ù.swap).kept.size;show _<=_;simp;omega);clear á Ç Ð σ Q à;refine jJ 5 trivial ?_;refine aU 6 ?_;refine jK (.tmp 116) (.tmp 121) Ao ú û ü ý ä å (λb=>by cases b) (gm rfl) Ă.1 Ă.2 æ ?_;intro ą ç y;obtain⟨ę,Ě,rfl,-⟩:=Own.reads y.own;replace y:=AA y;refine aV trivial ?_;refine aH 7 trivial ?_;refine bT ?_;have è:Hid (au (λq=>some q=(Value.slice Γ E Δ).ownBlock) n ç):=⟨y.grow.os.trans t.os,y.grow.tape.trans t.tape,y.grow.output.trans t.output,(by have M:=y.grow.size;have υ:=t.size;simp at M;omega),λp Õ Ö=>(y.grow.block p (by have:=t.size;simp;omega) Ö).trans ((Below.heap_alloc _ _ _ (aC t.size)).trans (t.block p Õ))⟩;have é:Hid (aL ç wr.heap.size 23 (ak j).toArray):=(Ę).kept è (λb=>Į b);have V:=AA (xK.push (q:=N) (gt:=v) (ct:=P) (Ù.swap) t S (γ.out ▸ ã) (aC γ) â (γ.out ▸ τ) ⟨by have:=A.out;omega,by have:=A.out;omega⟩ (γ.out ▸ y));rw[γ.out]at V;clear å æ ä y ã τ â t è
         go_wp2_with (first
          |(rw[aF 124];refine aM é β.size AB ?_)
          |(rw[aF 125];refine aM V.lf1 Ü.size AB ?_)
          |(go_at_call 254;refine(ĉ _).mono ?_;rintro b ě ⟨rfl,δ⟩;have ê:Hid (aL ě i.heap.size 23 (ak a.sr).toArray):=(δ.block _ V.lf1.lt).trans V.lf1;replace δ:=AA δ)
          |(rw[bA 23 20];refine lF ê Æ.size Ċ Æ.one ?_;intro È ë ì;have í:=AA (xK.store (V.below δ) m.sl ë ì (aC A) (aC A)).swap;clear ë ì δ ê é V))
         have Ú:Hid (xK s È l.heap.size i.heap.size (L (d+1)).fr (L (d+1)).sr (.slice ĵ (I+1) Ķ) (.slice ę (E+1) Ě) (ζ++[.slice (some ⟨T,0,none⟩) 65 ν]) (W++[.slice (some ⟨v,0,none⟩) 65 P]) (L (d+1)).ft (L (d+1)).st):=ċ.out ▸ í;clear C α G Z í
         go_loopw [17,18] (λx ï Ĺ=>∃e J:Nat,x=.int .i64 (e:Int)/\ï=.int .i64 (J:Int)/\e<=D/\J<=Ψ/\Hid (bJ K (B - 1) (f+d - 1) e J)/\Hid (jE e J)/\Ĺ=È) (λx _ _=>(intOf x).toNat)
         case atStart=>exact⟨D,Ψ,rfl,rfl,AJ _,AJ _,Ā,į,rfl⟩
         case round=>
          obtain⟨e,J,rfl,rfl,Ġ,ĝ,Ω,ö,rfl⟩:=hrel;have ī:(e:Int) < 1099511627776:=aC Ł;have ņ:(J:Int) < 1099511627776:=aC ł;have Ć:(0:Int)<=(e:Int):=ah;have Ň:(0:Int)<=(J:Int):=ah;by_cases χ:e % 2=1
          ·have C:(e:Int) % 2=1:=ah
           (have α:(e:Int).tmod 2=1:=by rw[Int.tmod_eq_emod_of_nonneg ah];exact C);(have ć:(e:Int).tdiv 2=((e / 2:Nat):Int):=by rw[Int.tdiv_eq_ediv_of_nonneg ah];omega);(have Ì:(J:Int).tdiv 2=((J / 2:Nat):Int):=by rw[Int.tdiv_eq_ediv_of_nonneg ah];omega);obtain⟨-,É⟩:=Ω.odd Í χ;replace É:=AA É;clear χ ö C;go_wp2_with fail;go_roundw
           case rel=>exact⟨d+1,e / 2,J / 2,_,_,_,_,by go_num,⟨ah,ā⟩,(by first| rfl |(congr 1;omega)),(by first| rfl |(congr 1;omega)),rfl,rfl,(by have g:=É.out;rw[show f+d - 1+1=f+(d+1) - 1 by have:=Ë.out;omega]at g;exact g),Ú⟩
           case measure=>(have:=ā.out;simp[intOf];omega)
          ·have C:(e:Int) % 2=0:=ah
           (have α:(e:Int).tmod 2=0:=by rw[Int.tmod_eq_emod_of_nonneg ah];exact C);(have ĺ:e=J:=by have:e % 2=1\/e=J:=ö;omega);subst ĺ;have ć:(e:Int).tdiv 2=((e / 2:Nat):Int):=by rw[Int.tdiv_eq_ediv_of_nonneg ah];omega
           have Ļ:¬e=0:=λb=>by
            have M:=Ω.out;rw[b]at M;have:=M.done Í rfl;have:=Ĥ.out;omega
           have ø:((e:Int)==0)=false:=beq_eq_false_iff_ne.2 ah;(have ļ:((e:Int)!=0)=true:=by rw[bne,ø];rfl);have ň:¬((e:Int)=0):=ah;have Ľ:Hid (bJ K (B - 1) (f+d - 1) (e / 2) (e / 2)):=Ω.skip Í χ rfl;(have ù:Hid (e / 2 < e):=by show _ < _;omega);clear χ ö Ļ C;go_wp2_with fail;go_roundw
           case rel=>exact⟨e / 2,e / 2,(by first| rfl |(congr 1;omega)),(by first| rfl |(congr 1;omega)),by have:=ù.out;omega,by have:=ù.out;omega,Ľ,.inr rfl,by first| rfl | trivial⟩
           case measure=>(have:=ù.out;simp[intOf];omega)
        ·by_cases Θ:D=Ψ
         ·subst Θ
          have C:(D:Int) % 2=0:=ah;(have α:(D:Int).tmod 2=0:=by rw[Int.tmod_eq_emod_of_nonneg ah];exact C);have ø:((D:Int)==(D:Int))=true:=beq_self_eq_true _;have Þ:=bJ.left Í D D Ā (.inr rfl) Ĥ;have į:Hid (jE D D):=.inr rfl;obtain⟨Â,Î⟩:=aS (nP z j a.fr);obtain⟨μ,ò⟩:∃q:aj,Hid (kb 1 :: (j++a.fr)=q):=⟨_,AA rfl⟩;(have Ã:Hid (μ.length=65):=by show _=_;rw[<-ò.out];simp[m.out.fl,H.out]);have ó:=AA (aP (x:=Â) (Î.out ▸ gY z _ _))
          have İ:Hid (∀h,bq 254 #[.int .i64 z,.agg (ak j).toArray,.agg (ak a.fr).toArray] h (.agg (ak Â).toArray)):=λh=>by
           have:=kG j a.fr H m.fl z h î;rw[show dP (bB (kb 1 :: (j++a.fr))) (cu z)=Â from Î.out]at this;exact this
          have ı:=AA (ó.same a.fr m.fl);have Ņ:Hid (Â.length=32):=Î.out ▸ gY z _ _;obtain⟨ο,Ä⟩:=aS (nP z j a.sr);obtain⟨N,Å⟩:∃q:aj,Hid (kb 1 :: (j++a.sr)=q):=⟨_,AA rfl⟩;(have γ:Hid (N.length=65):=by show _=_;rw[<-Å.out];simp[m.out.sl,H.out]);have Æ:=AA (aP (x:=ο) (Ä.out ▸ gY z _ _))
          have ĉ:Hid (∀h,bq 254 #[.int .i64 z,.agg (ak j).toArray,.agg (ak a.sr).toArray] h (.agg (ak ο).toArray)):=λh=>by
           have:=kG j a.sr H m.sl z h î;rw[show dP (bB (kb 1 :: (j++a.sr))) (cu z)=ο from Ä.out]at this;exact this
          have Ċ:=AA (Æ.same a.sr m.sl)
          have ċ:Hid (L (d+1)=⟨Â,ο,a.ft++[μ],a.st++[N]⟩):=by
           show _=_;rw[Ý.out _ Þ,sK];simp[Î.out,ò.out,Ä.out,Å.out]
          clear Þ Ý η
          go_wp2_with (first
           |(rw[aF 96];refine bS ð β.part AB ?_)
           |(rw[bA 23 24];refine dB (aL.new wr _ _) β.size β.zero β.one ?_;intro c ρ ß;have ξ:Hid (av wr c):=dx ß;have Z:Hid (xK s c l.heap.size i.heap.size a.fr a.sr (.slice ω I c1) (.slice Γ E Δ) ζ W a.ft a.st):=G.below ξ;have ħ:=AA (aK ă ξ);have Ĵ:=AA (aK Ħ ξ);replace ρ:=AA ρ;clear ß))
          have Č:Hid (Calls prog 224 #[.int .i64 1,.slice (some ⟨c.heap.size,0,none⟩) 2 2] (tW c wr.heap.size l.heap.size) λb h=>∃k,b=.returned k/\h.ownsRow (tW c wr.heap.size l.heap.size).heap.size 5 1 k 65 (ak μ)/\Below (tW c wr.heap.size l.heap.size).heap.size (tW c wr.heap.size l.heap.size) h):=by
           have Ï:=jQ (w:=c) ρ Z.lf1 H m.fl;have:=iB [j,a.fr] 2 rfl (some ⟨c.heap.size,0,none⟩) 2 1 (tW c wr.heap.size l.heap.size) (by simp[H.out,m.out.fl]) aR Ï;rw[show kb 1 :: [j,a.fr].flatten=μ by rw[<-ò.out];simp,show 1+[j,a.fr].flatten.length=65 by simp[H.out,m.out.fl]]at this;exact this
          refine dI (λ_=>True) 8 ?_;refine aH 0 trivial ?_;refine aH 1 trivial ?_;refine aH 2 trivial ?_;refine jJ 3 trivial ?_;change wpAnyH _ _ _ _ _ _ _ _ (tW c wr.heap.size l.heap.size);refine aU 4 ?_;refine cK (R:=λk X=>Below (tW c wr.heap.size l.heap.size).heap.size (tW c wr.heap.size l.heap.size) X/\X.ownsRow (tW c wr.heap.size l.heap.size).heap.size 5 1 k 65 (ak μ)) Aw (Č.mono λb X ⟨k,Θ,η,Á⟩=>⟨_,Θ,Á,η⟩) ?_;rintro Ĩ Y ⟨č,ô⟩;obtain⟨T,ν,rfl,Ð,σ⟩:=ô.form aR;refine aV trivial ?_;(have Ď:Hid (c.heap.size<=T/\T < Y.heap.size):=by have:=ja c wr.heap.size l.heap.size;exact⟨ah,σ⟩);have O:Hid (av c Y):=(kT c _ _).trans (č.mono (by rw[ja];omega));obtain⟨bJ,ĩ,Ñ,Ò,-,-,Q,-⟩:=Own.reads ô;(injection Ñ with Ó Ī Ô);subst Ó Ô;have ď:Hid (ax Y 1 (some ⟨T,0,none⟩) 65 (ak μ)):=Q;replace Ò:=AA Ò;have Đ:Hid ((Y.alloc (.cells #[.slice (some ⟨T,0,none⟩) 65 ν] 27)).ownsRow s.heap.size 27 1 (.slice ω I c1) I ζ):=(aK (aK ħ O) (Below.aJ Y _));have đ:Hid (ax (Y.alloc (.cells #[.slice (some ⟨T,0,none⟩) 65 ν] 27)) 1 (some ⟨Y.heap.size,0,none⟩) 1 [.slice (some ⟨T,0,none⟩) 65 ν]):=aL.reads (aL.new Y 27 #[.slice (some ⟨T,0,none⟩) 65 ν]) 0 _ rfl (λd u ψ=>by rw[Nat.zero_add];simpa using ψ);(have Ē:Hid (s.heap.size<=(Y.alloc (.cells #[.slice (some ⟨T,0,none⟩) 65 ν] 27)).heap.size):=by have:=O.size;have:=(Z).kept.size;show _<=_;simp;omega);clear č ô Ð σ Q Č;refine jJ 5 trivial ?_;refine aU 6 ?_;refine jK (.tmp 105) (.tmp 110) Ao ú û ü ý Đ đ (λb=>by cases b) (gm rfl) ĥ.1 ĥ.2 Ē ?_;intro ą ē U;obtain⟨ĵ,Ķ,rfl,-⟩:=Own.reads U.own;replace U:=AA U;refine aV trivial ?_;refine aH 7 trivial ?_;refine bT ?_;have Ĕ:Hid (au (λq=>some q=(Value.slice ω I c1).ownBlock) c ē):=⟨U.grow.os.trans O.os,U.grow.tape.trans O.tape,U.grow.output.trans O.output,(by have M:=U.grow.size;have υ:=O.size;simp at M;omega),λp Õ Ö=>(U.grow.block p (by have:=O.size;simp;omega) Ö).trans ((Below.heap_alloc _ _ _ (aC O.size)).trans (O.block p Õ))⟩;have Ø:Hid (aL ē wr.heap.size 23 (ak j).toArray):=(ρ).kept Ĕ (λb=>Ń b);have Ξ:=AA (xK.push (q:=μ) (gt:=T) (ct:=ν) (Z) O ε (Ã.out ▸ ď) (aC Ã) Ď (Ã.out ▸ Ò) ⟨by have:=A.out;omega,by have:=A.out;omega⟩ (Ã.out ▸ U));rw[Ã.out]at Ξ;clear đ Ē Đ U ď Ò Ď O Ĕ
          go_wp2_with (first
           |(rw[aF 113];refine aM Ø β.size AB ?_)
           |(rw[aF 114];refine aM Ξ.lf1 ñ.size AB ?_)
           |(go_at_call 254;refine(İ _).mono ?_;rintro b ĕ ⟨rfl,Φ⟩;have Ė:Hid (aL ĕ l.heap.size 23 (ak a.fr).toArray):=(Φ.block _ Ξ.lf1.lt).trans Ξ.lf1;replace Φ:=AA Φ)
           |(rw[bA 23 19];refine lF Ė.out ó.out.size ı.out ó.out.one ?_;intro n ė õ;have Ù:=AA (xK.store (Ξ.out.below Φ.out) m.out.fl ė õ (aC A) (aC A));have Ę:Hid (aL n wr.heap.size 23 (ak j).toArray):=aL.kept (w:=ĕ) ((Φ.out.block _ Ø.out.lt).trans Ø.out) õ (λb=>ń.out.1 b);have ķ:Hid (n.ownsRow s.heap.size 27 1 (.slice Γ E Δ) E W):=S.out ▸ Ù.out.o2;clear ė õ Φ Ė Ø Ξ))
          have à:Hid (Calls prog 224 #[.int .i64 1,.slice (some ⟨n.heap.size,0,none⟩) 2 2] (tW n wr.heap.size i.heap.size) λb h=>∃k,b=.returned k/\h.ownsRow (tW n wr.heap.size i.heap.size).heap.size 5 1 k 65 (ak N)/\Below (tW n wr.heap.size i.heap.size).heap.size (tW n wr.heap.size i.heap.size) h):=by
           have Ï:=jQ (w:=n) Ę Ù.lf2 H m.sl;have:=iB [j,a.sr] 2 rfl (some ⟨n.heap.size,0,none⟩) 2 1 (tW n wr.heap.size i.heap.size) (by simp[H.out,m.out.sl]) aR Ï;rw[show kb 1 :: [j,a.sr].flatten=N by rw[<-Å.out];simp,show 1+[j,a.sr].flatten.length=65 by simp[H.out,m.out.sl]]at this;exact this
          refine dI (λ_=>True) 8 ?_;refine aH 0 trivial ?_;refine aH 1 trivial ?_;refine aH 2 trivial ?_;refine jJ 3 trivial ?_;change wpAnyH _ _ _ _ _ _ _ _ (tW n wr.heap.size i.heap.size);refine aU 4 ?_;refine cK (R:=λk X=>Below (tW n wr.heap.size i.heap.size).heap.size (tW n wr.heap.size i.heap.size) X/\X.ownsRow (tW n wr.heap.size i.heap.size).heap.size 5 1 k 65 (ak N)) Aw (à.mono λb X ⟨k,Θ,η,Á⟩=>⟨_,Θ,Á,η⟩) ?_;rintro Ĩ F ⟨á,Ç⟩;obtain⟨v,P,rfl,Ð,σ⟩:=Ç.form aR;refine aV trivial ?_;(have â:Hid (n.heap.size<=v/\v < F.heap.size):=by have:=ja n wr.heap.size i.heap.size;exact⟨ah,σ⟩);have t:Hid (av n F):=(kT n _ _).trans (á.mono (by rw[ja];omega));obtain⟨bJ,ĩ,Ñ,τ,-,-,Q,-⟩:=Own.reads Ç;(injection Ñ with Ó Ī Ô);subst Ó Ô;have ã:Hid (ax F 1 (some ⟨v,0,none⟩) 65 (ak N)):=Q;replace τ:=AA τ;have ä:Hid ((F.alloc (.cells #[.slice (some ⟨v,0,none⟩) 65 P] 27)).ownsRow s.heap.size 27 1 (.slice Γ E Δ) E W):=(aK (aK ķ t) (Below.aJ F _));have å:Hid (ax (F.alloc (.cells #[.slice (some ⟨v,0,none⟩) 65 P] 27)) 1 (some ⟨F.heap.size,0,none⟩) 1 [.slice (some ⟨v,0,none⟩) 65 P]):=aL.reads (aL.new F 27 #[.slice (some ⟨v,0,none⟩) 65 P]) 0 _ rfl (λd u ψ=>by rw[Nat.zero_add];simpa using ψ);(have æ:Hid (s.heap.size<=(F.alloc (.cells #[.slice (some ⟨v,0,none⟩) 65 P] 27)).heap.size):=by have:=t.size;have:=(Ù.swap).kept.size;show _<=_;simp;omega);clear á Ç Ð σ Q à;refine jJ 5 trivial ?_;refine aU 6 ?_;refine jK (.tmp 116) (.tmp 121) Ao ú û ü ý ä å (λb=>by cases b) (gm rfl) Ă.1 Ă.2 æ ?_;intro ą ç y;obtain⟨ę,Ě,rfl,-⟩:=Own.reads y.own;replace y:=AA y;refine aV trivial ?_;refine aH 7 trivial ?_;refine bT ?_;have è:Hid (au (λq=>some q=(Value.slice Γ E Δ).ownBlock) n ç):=⟨y.grow.os.trans t.os,y.grow.tape.trans t.tape,y.grow.output.trans t.output,(by have M:=y.grow.size;have υ:=t.size;simp at M;omega),λp Õ Ö=>(y.grow.block p (by have:=t.size;simp;omega) Ö).trans ((Below.heap_alloc _ _ _ (aC t.size)).trans (t.block p Õ))⟩;have é:Hid (aL ç wr.heap.size 23 (ak j).toArray):=(Ę).kept è (λb=>Į b);have V:=AA (xK.push (q:=N) (gt:=v) (ct:=P) (Ù.swap) t S (γ.out ▸ ã) (aC γ) â (γ.out ▸ τ) ⟨by have:=A.out;omega,by have:=A.out;omega⟩ (γ.out ▸ y));rw[γ.out]at V;clear å æ ä y ã τ â t è
          go_wp2_with (first
           |(rw[aF 124];refine aM é β.size AB ?_)
           |(rw[aF 125];refine aM V.lf1 Ü.size AB ?_)
           |(go_at_call 254;refine(ĉ _).mono ?_;rintro b ě ⟨rfl,δ⟩;have ê:Hid (aL ě i.heap.size 23 (ak a.sr).toArray):=(δ.block _ V.lf1.lt).trans V.lf1;replace δ:=AA δ)
           |(rw[bA 23 20];refine lF ê Æ.size Ċ Æ.one ?_;intro È ë ì;have í:=AA (xK.store (V.below δ) m.sl ë ì (aC A) (aC A)).swap;clear ë ì δ ê é V))
          have Ú:Hid (xK s È l.heap.size i.heap.size (L (d+1)).fr (L (d+1)).sr (.slice ĵ (I+1) Ķ) (.slice ę (E+1) Ě) (ζ++[.slice (some ⟨T,0,none⟩) 65 ν]) (W++[.slice (some ⟨v,0,none⟩) 65 P]) (L (d+1)).ft (L (d+1)).st):=ċ.out ▸ í;clear C α ø G Z í
          go_loopw [17,18] (λx ï Ĺ=>∃e J:Nat,x=.int .i64 (e:Int)/\ï=.int .i64 (J:Int)/\e<=D/\J<=D/\Hid (bJ K (B - 1) (f+d - 1) e J)/\Hid (jE e J)/\Ĺ=È) (λx _ _=>(intOf x).toNat)
          case atStart=>exact⟨D,D,rfl,rfl,AJ _,AJ _,Ā,į,rfl⟩
          case round=>
           obtain⟨e,J,rfl,rfl,Ġ,ĝ,Ω,ö,rfl⟩:=hrel;have ī:(e:Int) < 1099511627776:=aC Ł;have ņ:(J:Int) < 1099511627776:=aC ł;have Ć:(0:Int)<=(e:Int):=ah;have Ň:(0:Int)<=(J:Int):=ah;by_cases χ:e % 2=1
           ·have C:(e:Int) % 2=1:=ah
            (have α:(e:Int).tmod 2=1:=by rw[Int.tmod_eq_emod_of_nonneg ah];exact C);(have ć:(e:Int).tdiv 2=((e / 2:Nat):Int):=by rw[Int.tdiv_eq_ediv_of_nonneg ah];omega);(have Ì:(J:Int).tdiv 2=((J / 2:Nat):Int):=by rw[Int.tdiv_eq_ediv_of_nonneg ah];omega);obtain⟨-,É⟩:=Ω.odd Í χ;replace É:=AA É;clear χ ö C;go_wp2_with fail;go_roundw
            case rel=>exact⟨d+1,e / 2,J / 2,_,_,_,_,by go_num,⟨ah,ā⟩,(by first| rfl |(congr 1;omega)),(by first| rfl |(congr 1;omega)),rfl,rfl,(by have g:=É.out;rw[show f+d - 1+1=f+(d+1) - 1 by have:=Ë.out;omega]at g;exact g),Ú⟩
            case measure=>(have:=ā.out;simp[intOf];omega)
           ·have C:(e:Int) % 2=0:=ah
            (have α:(e:Int).tmod 2=0:=by rw[Int.tmod_eq_emod_of_nonneg ah];exact C);(have ĺ:e=J:=by have:e % 2=1\/e=J:=ö;omega);subst ĺ;have ć:(e:Int).tdiv 2=((e / 2:Nat):Int):=by rw[Int.tdiv_eq_ediv_of_nonneg ah];omega
            have Ļ:¬e=0:=λb=>by
             have M:=Ω.out;rw[b]at M;have:=M.done Í rfl;have:=Ĥ.out;omega
            have ø:((e:Int)==0)=false:=beq_eq_false_iff_ne.2 ah;(have ļ:((e:Int)!=0)=true:=by rw[bne,ø];rfl);have ň:¬((e:Int)=0):=ah;have Ľ:Hid (bJ K (B - 1) (f+d - 1) (e / 2) (e / 2)):=Ω.skip Í χ rfl;(have ù:Hid (e / 2 < e):=by show _ < _;omega);clear χ ö Ļ C;go_wp2_with fail;go_roundw
            case rel=>exact⟨e / 2,e / 2,(by first| rfl |(congr 1;omega)),(by first| rfl |(congr 1;omega)),by have:=ù.out;omega,by have:=ù.out;omega,Ľ,.inr rfl,by first| rfl | trivial⟩
            case measure=>(have:=ù.out;simp[intOf];omega)
         ·have C:(D:Int) % 2=0:=ah
          (have α:(D:Int).tmod 2=0:=by rw[Int.tmod_eq_emod_of_nonneg ah];exact C);have ø:((D:Int)==(Ψ:Int))=false:=beq_eq_false_iff_ne.2 ah;have ļ:¬((D:Int)=(Ψ:Int)):=ah;obtain⟨Þ,É⟩:=Ā.right Í η Θ;replace É:=AA É;obtain⟨ο,Ä⟩:=aS (nP z a.sr j);obtain⟨N,Å⟩:∃q:aj,Hid (kb 1 :: (a.sr++j)=q):=⟨_,AA rfl⟩;(have γ:Hid (N.length=65):=by show _=_;rw[<-Å.out];simp[m.out.sl,H.out]);have Æ:=AA (aP (x:=ο) (Ä.out ▸ gY z _ _))
          have ĉ:Hid (∀h,bq 254 #[.int .i64 z,.agg (ak a.sr).toArray,.agg (ak j).toArray] h (.agg (ak ο).toArray)):=λh=>by
           have:=kG a.sr j m.sl H z h î;rw[show dP (bB (kb 1 :: (a.sr++j))) (cu z)=ο from Ä.out]at this;exact this
          have Ċ:=AA (Æ.same a.sr m.sl)
          have ċ:Hid (L (d+1)=⟨a.fr,ο,a.ft,a.st++[N]⟩):=by
           show _=_;rw[Ý.out _ Þ,sK];simp[Ä.out,Å.out]
          clear Þ Ý η Θ
          go_wp2_with (first
           |(rw[aF 96];refine bS ð β.part AB ?_)
           |(rw[bA 23 24];refine dB (aL.new wr _ _) β.size β.zero β.one ?_;intro c ρ ß;have ξ:Hid (av wr c):=dx ß;have Z:Hid (xK s c l.heap.size i.heap.size a.fr a.sr (.slice ω I c1) (.slice Γ E Δ) ζ W a.ft a.st):=G.below ξ;have ħ:=AA (aK ă ξ);have Ĵ:=AA (aK Ħ ξ);replace ρ:=AA ρ;clear ß))
          have à:Hid (Calls prog 224 #[.int .i64 1,.slice (some ⟨c.heap.size,0,none⟩) 2 2] (tW c i.heap.size wr.heap.size) λb h=>∃k,b=.returned k/\h.ownsRow (tW c i.heap.size wr.heap.size).heap.size 5 1 k 65 (ak N)/\Below (tW c i.heap.size wr.heap.size).heap.size (tW c i.heap.size wr.heap.size) h):=by
           have Ï:=jQ (w:=c) Z.lf2 ρ m.sl H;have:=iB [a.sr,j] 2 rfl (some ⟨c.heap.size,0,none⟩) 2 1 (tW c i.heap.size wr.heap.size) (by simp[m.out.sl,H.out]) aR Ï;rw[show kb 1 :: [a.sr,j].flatten=N by rw[<-Å.out];simp,show 1+[a.sr,j].flatten.length=65 by simp[m.out.sl,H.out]]at this;exact this
          refine dI (λ_=>True) 8 ?_;refine aH 0 trivial ?_;refine aH 1 trivial ?_;refine aH 2 trivial ?_;refine jJ 3 trivial ?_;change wpAnyH _ _ _ _ _ _ _ _ (tW c i.heap.size wr.heap.size);refine aU 4 ?_;refine cK (R:=λk X=>Below (tW c i.heap.size wr.heap.size).heap.size (tW c i.heap.size wr.heap.size) X/\X.ownsRow (tW c i.heap.size wr.heap.size).heap.size 5 1 k 65 (ak N)) Aw (à.mono λb X ⟨k,Θ,η,Á⟩=>⟨_,Θ,Á,η⟩) ?_;rintro Ĩ F ⟨á,Ç⟩;obtain⟨v,P,rfl,Ð,σ⟩:=Ç.form aR;refine aV trivial ?_;(have â:Hid (c.heap.size<=v/\v < F.heap.size):=by have:=ja c i.heap.size wr.heap.size;exact⟨ah,σ⟩);have t:Hid (av c F):=(kT c _ _).trans (á.mono (by rw[ja];omega));obtain⟨bJ,ĩ,Ñ,τ,-,-,Q,-⟩:=Own.reads Ç;(injection Ñ with Ó Ī Ô);subst Ó Ô;have ã:Hid (ax F 1 (some ⟨v,0,none⟩) 65 (ak N)):=Q;replace τ:=AA τ;have ä:Hid ((F.alloc (.cells #[.slice (some ⟨v,0,none⟩) 65 P] 27)).ownsRow s.heap.size 27 1 (.slice Γ E Δ) E W):=(aK (aK Ĵ t) (Below.aJ F _));have å:Hid (ax (F.alloc (.cells #[.slice (some ⟨v,0,none⟩) 65 P] 27)) 1 (some ⟨F.heap.size,0,none⟩) 1 [.slice (some ⟨v,0,none⟩) 65 P]):=aL.reads (aL.new F 27 #[.slice (some ⟨v,0,none⟩) 65 P]) 0 _ rfl (λd u ψ=>by rw[Nat.zero_add];simpa using ψ);(have æ:Hid (s.heap.size<=(F.alloc (.cells #[.slice (some ⟨v,0,none⟩) 65 P] 27)).heap.size):=by have:=t.size;have:=(Z.swap).kept.size;show _<=_;simp;omega);clear á Ç Ð σ Q à;refine jJ 5 trivial ?_;refine aU 6 ?_;refine jK (.tmp 138) (.tmp 143) Ao ú û ü ý ä å (λb=>by cases b) (gm rfl) Ă.1 Ă.2 æ ?_;intro ą ç y;obtain⟨ę,Ě,rfl,-⟩:=Own.reads y.own;replace y:=AA y;refine aV trivial ?_;refine aH 7 trivial ?_;refine bT ?_;have è:Hid (au (λq=>some q=(Value.slice Γ E Δ).ownBlock) c ç):=⟨y.grow.os.trans t.os,y.grow.tape.trans t.tape,y.grow.output.trans t.output,(by have M:=y.grow.size;have υ:=t.size;simp at M;omega),λp Õ Ö=>(y.grow.block p (by have:=t.size;simp;omega) Ö).trans ((Below.heap_alloc _ _ _ (aC t.size)).trans (t.block p Õ))⟩;have é:Hid (aL ç wr.heap.size 23 (ak j).toArray):=(ρ).kept è (λb=>Į b);have V:=AA (xK.push (q:=N) (gt:=v) (ct:=P) (Z.swap) t S (γ.out ▸ ã) (aC γ) â (γ.out ▸ τ) ⟨by have:=A.out;omega,by have:=A.out;omega⟩ (γ.out ▸ y));rw[γ.out]at V;clear å æ ä y ã τ â t è
          go_wp2_with (first
           |(rw[aF 146];refine aM V.lf1 Ü.size AB ?_)
           |(rw[aF 147];refine aM é β.size AB ?_)
           |(go_at_call 254;refine(ĉ _).mono ?_;rintro b ě ⟨rfl,δ⟩;have ê:Hid (aL ě i.heap.size 23 (ak a.sr).toArray):=(δ.block _ V.lf1.lt).trans V.lf1;replace δ:=AA δ)
           |(rw[bA 23 20];refine lF ê Æ.size Ċ Æ.one ?_;intro È ë ì;have í:=AA (xK.store (V.below δ) m.sl ë ì (aC A) (aC A)).swap;clear ë ì δ ê é V))
          have Ú:Hid (xK s È l.heap.size i.heap.size (L (d+1)).fr (L (d+1)).sr (.slice ω I c1) (.slice ę (E+1) Ě) ζ (W++[.slice (some ⟨v,0,none⟩) 65 P]) (L (d+1)).ft (L (d+1)).st):=ċ.out ▸ í;(have ć:(D:Int).tdiv 2=((D / 2:Nat):Int):=by rw[Int.tdiv_eq_ediv_of_nonneg ah];omega);(have c:(Ψ:Int).tdiv 2=((Ψ / 2:Nat):Int):=by rw[Int.tdiv_eq_ediv_of_nonneg ah];omega);clear C α ø ļ G Z í;go_wp2_with fail;go_roundw
          case rel=>exact⟨d+1,D / 2,Ψ / 2,_,_,_,_,by go_num,⟨ah,ā⟩,(by first| rfl |(congr 1;omega)),(by first| rfl |(congr 1;omega)),rfl,rfl,(by have g:=É.out;rw[show f+d - 1+1=f+(d+1) - 1 by have:=Ë.out;omega]at g;exact g),Ú⟩
          case measure=>(have:=ā.out;simp[intOf];omega)
       ·obtain rfl:d=φ:=aC Ë
        have Ĝ:¬((d:Int) < (d:Int)):=ah;rw[ĭ.out];have m:Hid (aL wr (w.heap.size+1) 23 bF):=ľ.kept G.kept (aC A);have n:Hid (aL wr (w.heap.size+2) 23 bF):=Ŀ.kept G.kept (aC A);obtain⟨c,d⟩:∃c:Nat->Prop,Hid (c=λr=>some r=(Value.slice ω I c1).ownBlock\/r=w.heap.size+1\/r=w.heap.size+2):=⟨_,rfl⟩;have k:Hid (∀r,some r=(Value.slice ω I c1).ownBlock->s.heap.size<=r):=λr b=>(G.o1.lt r b.symm).1
        have t:Hid (∀r,c r->(∃j e,aL wr r j e/\e.size<=32)\/(∃u,wr.cell? ⟨r,0,none⟩=some u/\∀θ,u≠.int .u8 θ)):=λr Ê=>by
         rw[d.out]at Ê
         rcases Ê with Ê | rfl | rfl
         ·exact .inr (GJ G.o1 G.Wx rfl G.e1 Ê.symm)
         ·exact .inl ⟨_,_,m,by simp[bF]⟩
         ·exact .inl ⟨_,_,n,by simp[bF]⟩
        have e:Hid (∀r,w.heap.size+3<=r->r < s.heap.size->¬c r):=λr M υ g=>by
         rw[d.out]at g
         rcases g with g | g | g
         ·have:=k r g;omega
         ·omega
         ·omega
        (have y:Hid (∀h,au c wr h->aL h l.heap.size 23 (ak a.fr).toArray):=λh g=>G.lf1.kept g (e _ (aC A) (aC A)));have z:Hid (∀h,au c wr h->aL h i.heap.size 23 (ak a.sr).toArray):=λh g=>G.lf2.kept g (e _ (aC A) (aC A))
        have B:Hid (∀u∈W,u.oneCell'=true):=λu ψ=>by
         obtain⟨þ,j,rfl⟩:=List.getElem_of_mem ψ;(have e:W.length=E:=by simpa using Ĉ.1);obtain⟨q,v⟩:∃q,a.st[þ]?=some q:=⟨_,AV (aC S)⟩;obtain⟨-,r,C,e,-⟩:=G.Xo þ q v;rw[List.getElem?_eq_getElem j]at e;rw[Option.some.inj e];rfl
        (have C:Hid (ζ.length=a.ft.length):=by show _=_;have:=G.o1.1;simpa using this);have ă:Hid (wr.ownsRow s.heap.size 27 1 (.slice ω I c1) I ζ):=ε.out ▸ G.out.o1;have D:Hid (s.heap.size<=wr.heap.size):=G.kept.size;(have j:Hid (w.heap.size+4<=s.heap.size):=by have:=A.out;show _<=_;omega);have v:Hid (av w wr):=au.tO Ĭ G.kept (λr g=>by have:=A.out;rcases g with g | g<;>omega) Ĭ.size;replace Ĉ:=AA Ĉ;replace ģ:=AA ģ;clear À ġ ľ Ŀ ÿ Ĭ ŀ;go_wp2_with fail;have aD:Hid (au c wr wr.drew):=(au.refl _ _).drew;refine dI (λh=>au c wr h) 9 ?_;refine eO 0 rfl aD (λh e=>gM 23 (.tmp 19) rfl (l.heap.size) rfl 23 ((ak a.fr).toArray) (0,0) _ (y h e) AB rfl ñ.size) ?_;refine eO 1 rfl aD (λh e=>gM 23 (.tmp 20) rfl (i.heap.size) rfl 23 ((ak a.sr).toArray) (0,0) _ (z h e) AB rfl Ü.size) ?_;refine aH 2 aD ?_;refine aH 3 aD ?_;refine aU 4 ?_;refine jK (.tmp 155) (.tmp 156) Ao ú û ü ý ă Ĉ ģ B (by have:=Ģ.out;unfold maxLen;omega) (aC Ģ) D ?_;intro e È κ;obtain⟨i,l,rfl,-⟩:=Own.reads κ.own;have e:Hid (au c wr È):=(au.refl c wr).drew.grown κ.grow (λf b=>.inl (d.out ▸ .inl b.symm));(have r:Hid (∀f,(Value.slice i (I+E) l).ownBlock=some f->s.heap.size<=f):=λf b=>(κ.own.lt f b).1);have h:Hid (aL È (w.heap.size+1) 23 bF):=aL.grown (w:=wr.drew) m κ.grow (λb=>by have g:=k _ b;have:=j.out;omega);have z:Hid (aL È (w.heap.size+2) 23 bF):=aL.grown (w:=wr.drew) n κ.grow (λb=>by have g:=k _ b;have:=j.out;omega);replace κ:=AA κ;refine aV e ?_;refine aU 5 ?_;refine fM h ñ.size ñ.zero ñ.one ?_;intro h A m;have y:Hid (au c wr h):=e.trans m (λþ _ g=>by rw[d.out];exact .inr (.inl g));refine aV y ?_;refine aU 6 ?_;refine fM (z.kept m ah) Ü.size Ü.zero Ü.one ?_;intro e z n;have h:Hid (au c wr e):=y.trans n (λþ _ g=>by rw[d.out];exact .inr (.inr g));refine aV h ?_;refine aH 7 h ?_;refine aH 8 h ?_;refine bT ?_;have y:Hid (aL e (w.heap.size+1) 23 (ak a.fr).toArray):=aL.kept A n ah;have A:Hid (aL e (w.heap.size+2) 23 (ak a.sr).toArray):=z;have c:e.ownsRow s.heap.size 27 1 (.slice i (I+E) l) (I+E) (ζ++W):=lM (lM κ.own m (λf b g=>by have:=r f b;have:=j.out;omega)) n (λf b g=>by have:=r f b;have:=j.out;omega);obtain⟨n,r,m,-,-,b,Ú,-⟩:=Own.reads c;(injection m with n s r);subst n r;have m:Hid (Tx e (ζ++W) (a.ft++a.st)):=Tx.append (Tx.kept G.Wx h t) (Tx.kept G.Xo h t) C;have n:Hid (av w e):=au.tO v h (λf g=>by rw[d.out]at g;rcases g with g | g | g;(have:=k f g;have:=j.out;omega);omega;omega) v.size;replace Ú:=AA Ú;replace b:=AA b;clear κ c;go_wp2_with fail;refine bodyPost_ret (Ik rfl _ _ (w.heap.size+1) (w.heap.size+2) 23 23 (ak a.fr).toArray (ak a.sr).toArray (0,0) (0,0) _ rfl y rfl A AB rfl ñ.size Ü.size) rfl ?_;rw[ĭ.out];exact⟨i,l,ζ++W,by rw[ε.out,S.out];rfl,by rw[ε.out,S.out];exact b,by rw[ε.out,S.out];exact Ú,m,n⟩
  ·obtain⟨b,rfl⟩:∃b,f=b+1:=⟨f - 1,ah⟩
   obtain⟨a,c⟩:=bG ((2*q+1)*2 ^ b);(have d:p=2*a:=by rw[Ą.out,c.out,Nat.pow_succ,<-Nat.mul_assoc,Nat.mul_comm]);(have S:Hid (b<=ι):=by have:=Û.out;show _<=_;omega);have e:Hid (1<=a):=c.out ▸ Nat.mul_pos ah (Nat.two_pow_pos _);(have α:(p:Int).tmod 2=0:=by rw[Int.tmod_eq_emod_of_nonneg Ğ];omega);(have Ġ:(p:Int).tdiv 2=(a:Int):=by rw[Int.tdiv_eq_ediv_of_nonneg Ğ];omega);have f:(0:Int)<=(a:Int):=ah;have f:(a:Int)<=1099511627776:=ah;(have À:Hid (a < p):=by have:=e.out;show _ < _;omega);clear ğ Ą Û d;go_wp2_with fail
   go_round
   case rel=>exact⟨a,b,rfl,S,c⟩
   case measure=>(have:=À.out;simp[intOf];omega)
theorem Iz(s:Int)(k:s < 9223372036854775808)(a b:Nat)(h:1<=a)(i:a < b)(hs:b<=1099511627776)(d:aj)(l:d.length=32)(j:List aj)(c:Option Addr)(e f:Nat)(m:oP a b=e)(g:World)(n:j6 g c e j):
  Calls prog 230 #[.int .i64 s,.int .i64 (a:Int),.int .i64 (b:Int),.agg (ak d).toArray,.slice c e f] g (Xl g (jc s a b d j)):=
 (Iy s k a b h i hs d l j c e f m g n).mono λ_ _ ⟨c,f,o,h,_,i,p,q⟩=>⟨c,f,o,h,i,p,q⟩
theorem WL{w:World}{b c d e:Nat}{a:Value}{f:List Value}(g:w.ownsRow 0 c d a e f)(i:∀h,a.ownBlock=some h->b<=h):w.ownsRow b c d a e f:=
 ⟨g.1,g.2.imp id λ⟨a,c,d,b,_,e⟩=>⟨a,c,d,b,i a (by rw[b];rfl),e⟩⟩
theorem Tx.keep{S:Nat->Prop}{b w':World}{c:List Value}{d:List aj}(f:Tx b c d)(g:au S b w')(h:∀a,S a->∃u,b.cell? ⟨a,0,none⟩=some u/\∀e,u≠.int .u8 e):Tx w' c d:=λb d c=>by
 obtain⟨i,a,j,k,l,e⟩:=f b d c;refine⟨i,a,j,k,l,e.kept g (λc f b hs=>?_)⟩;(injection b with b);(injection b with a c);subst a c;obtain⟨b,f,a,-,c⟩:=e.at_ ah;(injection a with a);(injection a with b e);subst b e;obtain⟨u,b,e⟩:=h _ hs;have a:=c 0 _ (eu d 0 ah);rw[Nat.add_zero,b]at a;exact e _ (AL a)
theorem Tx.pieces{d:World}{g:Nat}{e:Value}{f:List Value}{a:List aj}(h:d.ownsRow g 27 1 e a.length f)(hx:Tx d f a):∃b c,e=.slice b a.length c/\a.length<=c/\(b=none->a.length=0/\c=0)/\gq d b a:=by
 obtain⟨b,c,a,d,-,e,f,-⟩:=Own.reads h;refine⟨b,c,a,d,e,λh0=>?_⟩;obtain⟨b,c,d,e,g⟩:=f.at_ ah;refine⟨b,c,d,e,λa f h=>?_⟩;obtain⟨-,b,c,d,e,i⟩:=hx a f h;exact⟨some ⟨b,0,none⟩,c,g a _ d,e,i,λf=>by cases f⟩
def Ud(w:World)(Z:Ah)(e:Ending)(w':World):Prop:=∃A c xs,e=.returned (.tuple #[.agg (ak Z.fr).toArray,.agg (ak Z.sr).toArray,.slice A (Z.ft.length+Z.st.length) c])/\ax w' 1 A (Z.ft.length+Z.st.length) xs/\Tx w' xs (Z.ft++Z.st)/\av w w'
def Po(w:World)(Z:Ah)(e:Ending)(w':World):Prop:=∃A c xs,e=.returned (.tuple #[.agg (ak Z.fr).toArray,.agg (ak Z.sr).toArray,.slice A (Z.ft.length+Z.st.length) c])/\w'.ownsRow w.heap.size 27 1 (.slice A (Z.ft.length+Z.st.length) c) (Z.ft.length+Z.st.length) xs/\Tx w' xs (Z.ft++Z.st)/\av w w'
theorem Po.post{a:World}{b:Ah}{c:Ending}{d:World}(e:Po a b c d):Ud a b c d:=by
 obtain⟨a,b,c,d,f,g,h⟩:=e;obtain⟨j,k,e,-,-,-,i,-⟩:=Own.reads f;(injection e with f j k);subst f;exact⟨a,b,c,d,i,g,h⟩
theorem QO(s:Int)(k a:Nat)(G:1<=k)(q:k < a)(hs:a<=1099511627776)(d:aj)(r:d.length=32)(M:List aj)(b:Option Addr)(y c:Nat)(N:(bW k a).length=y)(w:World)(e:bn w)(H:j6 w b y M):
  Calls prog 221 #[.int .i64 s,.int .i64 (k:Int),.int .i64 (a:Int),.agg (ak d).toArray,.slice b y c] w (Po w (jc s k a d M)):=by
 obtain⟨b,À,Á,Â,Ã⟩:=bV Hg
 have α:Hid (y<=41):=by show _<=_;rw[<-N,nA ah];exact wN ah hs
 obtain⟨T,-,-⟩:=zV G q
 rw[N]at T
 obtain⟨low,f⟩:∃low,jV k=low:=⟨_,rfl⟩
 rw[f]at T
 obtain⟨t,b⟩:∃t,((bW k a).map (bh k)).zip M=t:=⟨_,rfl⟩
 obtain⟨m,h⟩:∃m,(if Gg k then d else M.getD 0 [])=m:=⟨_,rfl⟩
 have c:jc s k a d M=iW s m low t y:=by unfold jc;rw[b,f,h,H.1]
 rw[c]
 clear c
 have O:t.length=y:=by rw[<-b,List.length_zip,List.length_map,N,H.1];omega
 have C:∀p∈t,p.2.length=32:=λp B=>by rw[<-b]at B;exact H.2.1 _ (List.of_mem_zip (show(p.1,p.2)∈_ from B)).2
 obtain⟨R,n⟩:∃R,M[0]?=some R:=⟨_,AV (aC H.1)⟩
 have o:m.length=32:=by
  rw[<-h]
  split
  ·exact r
  ·have:=H.2.1.at_ n
   simpa[List.getD,n]using this
 have Θ:Hid (∀j,low<=j->j<=y->(iW s m low t j).Ok (j - low)):=λj G q=>by
  have:=wO (s:=s) (low:=low) o C (j - low) ah;rwa[show low+(j - low)=j by omega]at this
 have Ξ:Hid (∀j p g,(bW k a)[j]?=some p->M[j]?=some g->t[j]?=some (bh k p,g)):=λj p g G q=>by
  rw[<-b];exact List.getElem?_zip_eq_some.2 ⟨by rw[List.getElem?_map,G];rfl,q⟩
 obtain⟨ν,D⟩:∃ν,bW k a=ν:=⟨_,rfl⟩
 have A:=AA (λc=>GU k a ah hs c)
 rw[D]at A Ξ N
 have F:=TY G
 have Y:=VR k G ah
 have E:Hid (av w (((w.alloc (.cells (ak d).toArray 23)).alloc (.cells bF 23)).alloc (.cells bF 23))):=((Below.aJ w _).alloc aZ _).alloc (by simp;omega) _
 have J:Hid ((((w.alloc (.cells (ak d).toArray 23)).alloc (.cells bF 23)).alloc (.cells bF 23)).heap.size=w.heap.size+3):=by show _=_;simp
 have a:((w.alloc (.cells (ak d).toArray 23)).alloc (.cells bF 23)).heap.size=w.heap.size+2:=by simp
 have L:(w.alloc (.cells (ak d).toArray 23)).heap.size=w.heap.size+1:=by simp
 have P:Hid (aL (((w.alloc (.cells (ak d).toArray 23)).alloc (.cells bF 23)).alloc (.cells bF 23)) w.heap.size 23 (ak d).toArray):=((aL.new w _ _).alloc _).alloc _
 have Z:Hid (aL (((w.alloc (.cells (ak d).toArray 23)).alloc (.cells bF 23)).alloc (.cells bF 23)) (w.heap.size+1) 23 bF):=by
  have:=(aL.new (w.alloc (.cells (ak d).toArray 23)) 23 bF).alloc (.cells bF 23);rwa[L]at this
 have Q:Hid (aL (((w.alloc (.cells (ak d).toArray 23)).alloc (.cells bF 23)).alloc (.cells bF 23)) (w.heap.size+2) 23 bF):=by
  have:=aL.new ((w.alloc (.cells (ak d).toArray 23)).alloc (.cells bF 23)) 23 bF;rwa[a]at this
 have l:=AA (aP (x:=d) r)
 have I:=AA (aP (x:=m) o)
 have ρ:=AA (λc (β:av w c)=>e.below β e.1)
 have σ:=AA e.1
 have ι:=AA f
 have ο:=AA h
 have τ:=AA n
 replace H:=AA H
 replace N:=AA N
 replace T:=AA T
 have κ:Hid (1<=k/\k<=1099511627776):=by show _/\_;omega
 have S:=AA o
 clear hs r e h o n f L a b O C D G q
 go_enter func221,ntmps221
 go_wp2_with fail
 change Calls _ _ _ (((w.alloc (.cells (ak d).toArray 23)).alloc (.cells bF 23)).alloc (.cells bF 23)) _
 generalize(((w.alloc (.cells (ak d).toArray 23)).alloc (.cells bF 23)).alloc (.cells bF 23))=a at*
 refine(A _).mono ?_
 rintro e f ⟨v,rfl,a,L⟩
 rw[N.out]at a
 obtain⟨h,n,rfl,-,-,-,υ,b⟩:=Own.reads a
 have X:=aQ E L
 have h:=bf L P
 have Ä:=bf L Z
 have Å:=bf L Q
 have O:Hid (w.heap.size+3<=f.heap.size):=by have:=L.size;have:=J.out;show _<=_;omega
 replace υ:=AA υ
 clear a L E P Z Q J A b
 go_wp2_with fail
 obtain⟨a,b⟩:=bG ((f.alloc (.cells #[.int .i64 s,.slice none 0 0] 322)).alloc (.cells #[.int .i64 s,.slice none 0 0] 322))
 have J:Hid (av f a):=b.out ▸ (Below.aJ f _).alloc aZ _
 have φ:Hid (aL a f.heap.size 322 #[.int .i64 s,.slice none 0 0]):=b.out ▸ heap_alloc2_old f _ _
 have χ:Hid (aL a (f.heap.size+1) 322 #[.int .i64 s,.slice none 0 0]):=b.out ▸ heap_alloc2_new f _ _
 have γ:Hid (a.heap.size=f.heap.size+2):=by show _=_;rw[b.out];simp
 have δ:=bf J h
 change(Code.region _ _ _).wp _ _ _ ((f.alloc (.cells #[.int .i64 s,.slice none 0 0] 322)).alloc (.cells #[.int .i64 s,.slice none 0 0] 322))
 rw[<-b.out]
 clear b h
 go_cut [16,17,18]from 29 to 30 (λv u z wr=>∃n r:Nat,v=.pointer (some ⟨n,0,none⟩)/\u=.pointer (some ⟨r,0,none⟩)/\z=.int .i64 0/\Hid (n≠r)/\Hid (a.heap.size<=n)/\Hid (a.heap.size<=r)/\Hid (aL wr n 23 (ak d).toArray)/\Hid (aL wr r 23 (ak d).toArray)/\Hid (av a wr))
 case first=>
  have aD:Hid (av a a.drew):=(Below.refl _ _).drew;refine dI (λc=>av a c) 7 ?_;refine eO 0 rfl aD (λc h=>gM 23 (.tmp 8) rfl (w.heap.size) rfl 23 ((ak d).toArray) (0,0) _ ((h.block _ δ.lt).trans δ) AB rfl l.size) ?_;refine eO 1 rfl aD (λc h=>gM 23 (.tmp 8) rfl (w.heap.size) rfl 23 ((ak d).toArray) (0,0) _ ((h.block _ δ.lt).trans δ) AB rfl l.size) ?_;refine iP (i:=2) (j:=3) rfl rfl bH (by rfl) (by rfl) (λK S=>?_) (λK S=>?_)
  ·have b:Hid (av a (a.drew.alloc (.cells bF 23))):=aD.alloc aD.size _
   have o:Hid (aL (a.drew.alloc (.cells bF 23)) a.drew.heap.size 23 bF):=aL.new _ _ _;go_simp;refine S _ _ b ?_;clear S K;refine aU 3 ?_;have C:Hid (av a ((a.drew.alloc (.cells bF 23)).alloc (.cells bF 23))):=b.alloc b.size _;have E:Hid (aL ((a.drew.alloc (.cells bF 23)).alloc (.cells bF 23)) (a.drew.alloc (.cells bF 23)).heap.size 23 bF):=aL.new _ _ _;refine aV C ?_;(have U:Hid ((a.drew.alloc (.cells bF 23)).heap.size=a.heap.size+1):=by show _=_;simp);replace o:Hid (aL ((a.drew.alloc (.cells bF 23)).alloc (.cells bF 23)) a.heap.size 23 bF):=o.alloc _;(replace E:Hid (aL ((a.drew.alloc (.cells bF 23)).alloc (.cells bF 23)) (a.heap.size+1) 23 bF):=by have:=E.out;rw[U.out]at this;exact this);refine aU 4 ?_;refine fM o l.size l.zero l.one ?_;intro Φ ε P;(have A:=AA<|C.trans (au.aW P ah C.size));(have ζ:=AA<|E.kept P ah);refine aV A ?_;refine aU 5 ?_;refine fM ζ l.size l.zero l.one ?_;intro ψ η Q;(have D:=AA<|A.trans (au.aW Q ah A.size));(have θ:=AA<|ε.kept Q ah);refine aV D ?_;refine aH 6 D ?_;refine bT ?_;go_wp2_with fail;go_meet
   case rel=>exact⟨a.heap.size,a.heap.size+1,rfl,rfl,rfl,(by show _≠_;omega),(by show _<=_;omega),(by show _<=_;omega),θ,η,D⟩
  ·have b:Hid (av a (a.drew.alloc (.cells bF 23))):=aD.alloc aD.size _
   have o:Hid (aL (a.drew.alloc (.cells bF 23)) a.drew.heap.size 23 bF):=aL.new _ _ _;go_simp;refine S _ _ b ?_;clear S K;refine aU 2 ?_;have C:Hid (av a ((a.drew.alloc (.cells bF 23)).alloc (.cells bF 23))):=b.alloc b.size _;have E:Hid (aL ((a.drew.alloc (.cells bF 23)).alloc (.cells bF 23)) (a.drew.alloc (.cells bF 23)).heap.size 23 bF):=aL.new _ _ _;refine aV C ?_;(have U:Hid ((a.drew.alloc (.cells bF 23)).heap.size=a.heap.size+1):=by show _=_;simp);replace o:Hid (aL ((a.drew.alloc (.cells bF 23)).alloc (.cells bF 23)) a.heap.size 23 bF):=o.alloc _;(replace E:Hid (aL ((a.drew.alloc (.cells bF 23)).alloc (.cells bF 23)) (a.heap.size+1) 23 bF):=by have:=E.out;rw[U.out]at this;exact this);refine aU 4 ?_;refine fM E l.size l.zero l.one ?_;intro Φ ε P;(have A:=AA<|C.trans (au.aW P ah C.size));(have ζ:=AA<|o.kept P ah);refine aV A ?_;refine aU 5 ?_;refine fM ζ l.size l.zero l.one ?_;intro ψ η Q;(have D:=AA<|A.trans (au.aW Q ah A.size));(have θ:=AA<|ε.kept Q ah);refine aV D ?_;refine aH 6 D ?_;refine bT ?_;go_wp2_with fail;go_meet
   case rel=>exact⟨a.heap.size+1,a.heap.size,rfl,rfl,rfl,(by show _≠_;omega),(by show _<=_;omega),(by show _<=_;omega),θ,η,D⟩
 case rest=>
  obtain⟨n,r,rfl,rfl,rfl,ξ,U,V,ω,Γ,W⟩:=hcut;obtain⟨o,rfl⟩:=fB wc;have C:(0:Int)<=(k:Int):=ah;(have E:(k:Int)<=1099511627776:=by have:=κ.out;omega);(have S:(1:Int)<=(k:Int):=by have:=κ.out;omega);obtain⟨a,b⟩:∃a,k &&& (k - 1)=a:=⟨_,rfl⟩;rw[b]at Y F;replace F:=AA F;clear b;go_upto_if 35 with fail;clear C E S
  try clear Y
  go_cut [18]from 31 to 41 (λv wr=>v=.int .i64 (low:Int)/\Hid (aL wr n 23 (ak m).toArray)/\Hid (aL wr r 23 (ak m).toArray)/\Hid (au (λb=>b=n\/b=r) o wr))
  case first=>
   by_cases B:Gg k=true
   ·have E:=F.2 B
    (have C:low=0:=by rw[<-ι.out];unfold jV;rw[if_pos B]);(have S:d=m:=by rw[<-ο.out,if_pos B]);subst C S;clear B F;go_wp2_with fail;go_meet
    case rel=>exact⟨rfl,ω,Γ,au.refl _ _⟩
   ·have E:¬a=0:=λe=>B (F.1 e)
    have E:((a:Int)==0)=false:=beq_eq_false_iff_ne.2 (by omega);have C:low=1:=by rw[<-ι.out];unfold jV;rw[if_neg B]
    have E:R=m:=by
     have a:=ο.out;rw[if_neg B]at a;rw[<-a];simp[List.getD,τ.out]
    subst C E;have S:(0:Int) < (y:Int):=aC T;obtain⟨C,E,rfl,Y,ι⟩:=H.at_ τ;have Δ:=AA<|(X.trans (J.mono X.size)).trans (W.mono (dn X.size J.size))
    have κ:Hid (∀c,av o c->∀b v,(ak R)[b]?=some v->c.cell? ⟨C,E+b,none⟩=some v):=λc β b v μ=>by
     have:=((Δ.trans (β.mono Δ.size)).cell (p:=⟨C,E+0*32+b,none⟩) Y).trans (ι b v μ);simpa using this
    have Ω:=AA Y;have Ψ:¬y=0:=ah;clear B F ι Y;go_wp2_with fail;have Ψ:=Ω;(have Ω:Hid (∀c,au (λb=>b=n\/b=r) o c->∀b v,(ak R)[b]?=some v->c.cell? ⟨C,E+b,none⟩=some v):=λc Æ b v μ=>(Æ.cell (p:=⟨C,E+b,none⟩) (by have:=Ψ.out;have:=Δ.size;show C < _;omega) (λa=>by have:=Ψ.out;have:=U.out;have:=V.out;have:=X.size;have:=J.size;rcases a with a | a<;>(have a:C=_:=a;omega))).trans (κ o (Below.refl _ _) b v μ));have aD:Hid (au (λb=>b=n\/b=r) o o.drew):=(au.refl _ _).drew;refine dI (λc=>au (λb=>b=n\/b=r) o c) 9 ?_;refine aH 0 aD ?_;refine aH 1 aD.out (v:=.pointer (some ⟨C,E,none⟩)) ?_;refine eO 2 rfl aD (λc h=>ku 23 (.tmp 37) rfl (C) (E) rfl (ak R) _ (Ω c h) AB rfl I.part) ?_;refine aH 3 aD ?_;refine aH 4 aD.out (v:=.pointer (some ⟨C,E,none⟩)) ?_;refine eO 5 rfl aD (λc h=>ku 23 (.tmp 40) rfl (C) (E) rfl (ak R) _ (Ω c h) AB rfl I.part) ?_;refine aU 6 ?_;refine fM ω I.size (I.same d (by have:=l.part;rw[<-aB];have q:=jN;rw[q]at this;simpa using this.symm)) I.one ?_;intro Φ ε P;(have A:=AA<|aD.trans P (λi _ a=>.inl a));(have ζ:=AA<|aL.kept (w:=o.drew) Γ P (λa=>ξ (Eq.symm a)));refine aV A ?_;refine aU 7 ?_;refine fM ζ I.size (I.same d (by have:=l.part;rw[<-aB];have q:=jN;rw[q]at this;simpa using this.symm)) I.one ?_;intro ψ η Q;(have D:=AA<|A.trans Q (λi _ a=>.inr a));(have θ:=AA<|ε.kept Q (λa=>ξ a));refine aV D ?_;refine aH 8 D ?_;refine bT ?_;go_wp2_with fail;go_meet
    case rel=>exact⟨rfl,θ,η,D⟩
  case rest=>
   obtain⟨rfl,l,P,d⟩:=hcut;clear F ω Γ τ ο δ;(have δ:=AA<|au.tO (J.trans (W.mono J.size)) d (λb a=>by have:=U.out;have:=V.out;have:=γ.out;rcases a with a | a<;>omega) (dn J.size W.size));(have Q:=AA<|aL.kept (w:=o) (show aL o _ _ _ from(W.block _ φ.lt).trans φ) d (λa=>by have:=U.out;have:=V.out;have:=γ.out;rcases a with a | a<;>omega));(have R:=AA<|aL.kept (w:=o) (show aL o _ _ _ from(W.block _ χ.lt).trans χ) d (λa=>by have:=U.out;have:=V.out;have:=γ.out;rcases a with a | a<;>omega));have F:Hid (f.heap.size < wc.heap.size/\f.heap.size+1 < wc.heap.size/\n < wc.heap.size/\r < wc.heap.size):=⟨Q.lt,R.lt,l.lt,P.lt⟩
   have Z:Hid (zC wc wc f.heap.size (f.heap.size+1) none none n r s (iW s m low t low).fr (iW s m low t low).sr (iW s m low t low).ft (iW s m low t low).st):=by
    show zC _ _ _ _ _ _ _ _ _ _ _ _ _;rw[yu];have o:om wc f.heap.size none s []:=⟨_,[],Q,Aa _ _ _ _,rfl,(λb e=>by cases e),λi I a=>by simp at a⟩;have A:om wc (f.heap.size+1) none s []:=⟨_,[],R,Aa _ _ _ _,rfl,(λb e=>by cases e),λi I a=>by simp at a⟩;exact⟨l,P,o,A,(λb e=>by cases e),(λb e=>by cases e),(λb e=>by cases e),λ_=>rfl,λ_=>rfl,au.refl _ _⟩
   (have A:Hid (f.heap.size≠n/\f.heap.size≠r/\f.heap.size+1≠n/\f.heap.size+1≠r/\n≠r/\f.heap.size<=n/\f.heap.size<=r):=by have:=U.out;have:=V.out;have:=γ.out;have:=ξ.out;show _/\_;omega);obtain⟨ε,rfl⟩:=fB wc;clear φ χ Q R l P W d U V ξ γ J;go_wp2_with fail
   go_loopw [19] (λv wr=>∃(j:Nat) (Q ζ:Option Nat),v=.int .i64 (j:Int)/\Hid (low<=j/\j<=y)/\Hid (zC ε wr f.heap.size (f.heap.size+1) Q ζ n r s (iW s m low t j).fr (iW s m low t j).sr (iW s m low t j).ft (iW s m low t j).st)) (λv _=>(y - intOf v).toNat)
   case atStart=>exact⟨low,none,none,rfl,⟨AJ _,by have:=T.out;omega⟩,Z⟩
   case round=>
    clear Z;obtain⟨j,Q,ζ,rfl,R,o⟩:=hrel;(have γ:=AA<|au.tO δ o.kept (λb a=>by have:=A.out;rcases a with a | a | a | a<;>omega) δ.size);have J:=aQ X γ;have l:=AA (Θ j R.1 R.2);by_cases P:j < y
    ·obtain⟨p,B⟩:∃p,ν[j]?=some p:=⟨_,AV (N.out ▸ P)⟩
     obtain⟨g,hd⟩:∃g,M[j]?=some g:=⟨_,AV (by rw[H.out.1];exact P)⟩;have Z:=AA (vR (s:=s) (x:=m) R.1 (Ξ j p g B hd));have η:=AA (Θ (j+1) (aC R.1) P);have θ:=AA (H.2.1.at_ hd);have τ:=AA (aP (x:=g) θ);obtain⟨d,ξ⟩:=aS (iW s m low t j);obtain⟨ο,φ⟩:=aS (iW s m low t (j+1));rw[ξ.out]at o Z l;rw[φ.out]at Z η;obtain⟨M,N,rfl,V,W⟩:=υ.at_ ah
     have T:wr.cell? ⟨M,N+j*2,none⟩=some (.int .i64 (p.1:Int)):=by
      have G:=za ν [] j p B 0 (.int .i64 (p.1:Int)) rfl;rw[List.append_nil,List.getElem?_toArray]at G;have q:=W _ _ G;rw[Nat.add_zero]at q;exact(γ.cell (p:=⟨M,N+j*2,none⟩) V).trans q
     obtain⟨C,E,rfl,Y,ι⟩:=H.at_ hd;(have κ:=AA<|λc (β:av w c) b v (μ:(ak g)[b]?=some v)=>(β.cell (p:=⟨C,E+j*32+b,none⟩) Y).trans (ι b v μ));have T:=AA P;have H:(0:Int)<=(j:Int):=ah;have Φ:(j:Int) < (y:Int):=ah;have H:(y:Int)<=41:=aC α;have U:=AA (aP (x:=d.fr) l.fl);have H:=AA (aP (x:=d.sr) l.sl);clear P B hd W ι Y V;by_cases υ:k<=p.1
     ·have M:Hid (ο=⟨d.fr,nP s d.sr g,d.ft,d.st++[kb 1 :: (d.sr++g)]⟩):=by show _=_;rw[Z.out,sK,if_pos (by simp[bh,υ])]
      obtain⟨Y,V⟩:=aS (nP s d.sr g);have W:=AA (aP (x:=Y) (V.out ▸ gY s _ _));rw[V.out]at M;(have χ:Hid (∀I∈d.st++[kb 1 :: (d.sr++g)],I.length=65):=by have:=η.st;rw[M.out]at this;exact this);have kg:(k:Int)<=(p.1:Int):=ah;clear υ Z;go_wp2_with fail;refine xP 6 (aA wr) (aA.jD ((Below.refl _ _).drew)) ?_;refine aG ?_;refine gu (λc h=>(h.below.block _ o.lf2.lt).trans o.lf2) H.size AB ?_;(iterate 3 refine aG ?_);refine dh C (E+j*32) (ak g) (λc h=>κ c (J.trans (h.below.mono J.size))) τ.part AB ?_;refine bR ?_;intro ω N;(have ι:=AA<|J.trans (N.below.mono J.size));go_wp2_with fail;refine(sW (f.heap.size+1) ζ s d.st d.sr g l.sl θ ω (ρ _ ι) (dn σ O) (rq.kept o.Xu (au.of_below N.below) (λa=>a) (λ_ _ a=>a)) (pV l.sk α T)).mono ?_;rw[V.out];rintro e Θ ⟨rfl,β⟩;obtain⟨P,Γ,B⟩:=zC.step (z:=Y) o.swap N.below β χ l.ft l.sl ah A.2.2.2.1 A.2.2.1 A.2.1 (λe=>A.2.2.2.2.1 e.symm) ⟨F.2.1,F.1,F.2.2.2,F.2.2.1⟩;replace P:=AA P;replace B:=AA B.swap;have μ:=AA (W.same d.sr l.sl);clear β;go_wp2_with (rw[bA 23 _];refine fw P W.size μ W.one ?_);go_roundw
      case rel=>exact⟨j+1,Q,Γ,by go_num,⟨by have:=R.1;omega,T⟩,(by show zC _ _ _ _ _ _ _ _ _ _ _ _ _;rw[φ.out,M.out];exact B)⟩
      case measure=>(have:=T.out;simp[intOf];omega)
     ·have M:Hid (ο=⟨nP s g d.fr,nP s g d.sr,d.ft++[kb 1 :: (g++d.fr)],d.st++[kb 1 :: (g++d.sr)]⟩):=by show _=_;rw[Z.out,sK,if_neg (by simp[bh];omega)]
      obtain⟨ν,ο⟩:=aS (nP s g d.fr);have Δ:=AA (aP (x:=ν) (ο.out ▸ gY s _ _));obtain⟨Y,V⟩:=aS (nP s g d.sr);have W:=AA (aP (x:=Y) (V.out ▸ gY s _ _));have Ξ:Hid (ν.length=32):=ο.out ▸ gY s _ _;rw[ο.out,V.out]at M;(have χ:Hid (∀I∈d.st++[kb 1 :: (g++d.sr)],I.length=65):=by have:=η.st;rw[M.out]at this;exact this);(have Ξ:Hid (∀I∈d.ft++[kb 1 :: (g++d.fr)],I.length=65):=by have:=η.ft;rw[M.out]at this;exact this);have kg:¬((k:Int)<=(p.1:Int)):=ah;clear υ Z;go_wp2_with fail;refine xP 6 (aA wr) (aA.jD ((Below.refl _ _).drew)) ?_;(iterate 4 refine aG ?_);refine dh C (E+j*32) (ak g) (λc h=>κ c (J.trans (h.below.mono J.size))) τ.part AB ?_;refine gu (λc h=>(h.below.block _ o.lf1.lt).trans o.lf1) U.size AB ?_;refine bR ?_;intro ω N;(have ι:=AA<|J.trans (N.below.mono J.size));go_wp2_with fail;refine(sW f.heap.size Q s d.ft g d.fr θ l.fl ω (ρ _ ι) (dn σ O) (rq.kept o.X5 (au.of_below N.below) (λa=>a) (λ_ _ a=>a)) (pV l.fk α T)).mono ?_;rw[ο.out];rintro e Θ ⟨rfl,β⟩;obtain⟨P,Γ,B⟩:=zC.step (z:=ν) o N.below β Ξ l.st l.fl ah A.1 A.2.1 A.2.2.1 A.2.2.2.2.1 F;replace P:=AA P;replace B:=AA B;have μ:=AA (Δ.same d.fr l.fl);clear β;go_wp2_with (rw[bA 23 _];refine fw P Δ.size μ Δ.one ?_);generalize Θ.setRow n (ak ν).toArray=Z at*;(have β:=AA<|au.tO δ B.kept (λb a=>by have:=A.out;rcases a with a | a | a | a<;>omega) δ.size);have k:=aQ X β;clear P μ o γ J N ι;refine xP 6 (aA Z) (aA.jD ((Below.refl _ _).drew)) ?_;(iterate 4 refine aG ?_);refine dh C (E+j*32) (ak g) (λc h=>κ c (k.trans (h.below.mono k.size))) τ.part AB ?_;refine gu (λc h=>(h.below.block _ B.lf2.lt).trans B.lf2) H.size AB ?_;refine bR ?_;intro E C;(have N:=AA<|k.trans (C.below.mono k.size));go_wp2_with fail;refine(sW (f.heap.size+1) ζ s d.st g d.sr θ l.sl E (ρ _ N) (dn σ O) (rq.kept B.Xu (au.of_below C.below) (λa=>a) (λ_ _ a=>a)) (pV l.sk α T)).mono ?_;rw[V.out];rintro e g ⟨rfl,E⟩;obtain⟨g,N,k⟩:=zC.step (z:=Y) B.swap C.below E χ Ξ l.sl ah A.2.2.2.1 A.2.2.1 A.2.1 (λe=>A.2.2.2.2.1 e.symm) ⟨F.2.1,F.1,F.2.2.2,F.2.2.1⟩;replace g:=AA g;replace k:=AA k.swap;have B:=AA (W.same d.sr l.sl);clear E;go_wp2_with (rw[bA 23 _];refine fw g W.size B W.one ?_);go_roundw
      case rel=>exact⟨j+1,Γ,N,by go_num,⟨by have:=R.1;omega,T⟩,(by show zC _ _ _ _ _ _ _ _ _ _ _ _ _;rw[φ.out,M.out];exact k)⟩
      case measure=>(have:=T.out;simp[intOf];omega)
    ·obtain rfl:j=y:=aC R
     have Φ:¬((j:Int) < (j:Int)):=ah;obtain⟨d,ξ⟩:∃d,iW s m low t j=d:=⟨_,rfl⟩;rw[ξ]at o l ⊢;have U:=AA (aP (x:=d.fr) l.fl);have H:=AA (aP (x:=d.sr) l.sl);have Z:=bf γ Ä;have β:=bf γ Å;obtain⟨g,V,γ,t,W,κ,X⟩:=o.X5;obtain⟨g,P,ζ,Y,μ,ν,R⟩:=o.Xu;obtain⟨η,c1,rfl,-⟩:=Own.reads t;obtain⟨ο,c2,rfl,-,-,T,M,-⟩:=Own.reads Y;obtain⟨g,B⟩:∃g:Nat->Prop,Hid (g=λb=>some b=Q\/b=w.heap.size+1\/b=w.heap.size+2):=⟨_,rfl⟩;(have N:=AA<|λb (e:some b=Q)=>o.n1 b e.symm);have C:Hid (w.heap.size+3<=ε.heap.size):=by have:=O.out;have:=δ.size;show _<=_;omega
     have δ:Hid (∀E,g E->(∃m k,aL wr E m k/\k.size < 65)\/(∃u,wr.cell? ⟨E,0,none⟩=some u/\∀y,u≠.int .u8 y)):=λE k=>by
      rw[B.out]at k
      rcases k with k | rfl | rfl
      ·exact .inr (om.front o.X5 o.e1 E (.inr k))
      ·exact .inl ⟨_,_,Z,by simp[bF]⟩
      ·exact .inl ⟨_,_,β,by simp[bF]⟩
     have y:Hid (∀b,w.heap.size+3<=b->b < ε.heap.size->¬g b):=λb G q a=>by
      rw[B.out]at a
      rcases a with a | a | a
      ·have:=N b a;omega
      ·omega
      ·omega
     have θ:=AA (And.intro l.ft l.st);obtain⟨k,S⟩:∃k,d.ft.length=k:=⟨_,rfl⟩;obtain⟨m,G⟩:∃m,d.st.length=m:=⟨_,rfl⟩;(have L:Hid (k<=41/\m<=41):=by have:=l.fk;have:=l.sk;have:=α.out;show _/\_;omega);rw[S]at t;rw[G]at Y M T;have α:=AA S;have ι:=AA G;(have ρ:=AA<|λc (a:au g wr c)=>o.lf1.kept a (y n (dn A O) F.2.2.1));have σ:=AA<|λc (a:au g wr c)=>o.lf2.kept a (y r (dn A O) F.2.2.2)
     have A:Hid (∀c,au g wr c->c.cell? ⟨f.heap.size,1,none⟩=some (.slice η k c1)):=λc a=>by
      have q:=γ.kept a (y _ (aC O) F.1);rw[S]at q;exact q.cell 1
     have τ:Hid (∀c,au g wr c->c.cell? ⟨f.heap.size+1,1,none⟩=some (.slice ο m c2)):=λc a=>by
      have q:=ζ.kept a (y _ (aC O) F.2.1);rw[G]at q;exact q.cell 1
     have f:Hid ((Value.slice η k c1).ownBlock=Q):=by rw[S]at W;exact W
     have q:Hid (∀u∈P,u.oneCell'=true):=λu l=>by
      obtain⟨i,y,rfl⟩:=List.getElem_of_mem l;(have l:P.length=m:=by simpa using M.1);obtain⟨I,F⟩:∃I,d.st[i]?=some I:=⟨_,AV ah⟩;obtain⟨E,O,l,-⟩:=R i I F;rw[List.getElem?_eq_getElem y]at l;rw[Option.some.inj l];rfl
     (have y:Hid (V.length=d.ft.length):=by show _=_;have:=t.1;rw[S];simpa using this);replace t:=AA t;replace M:=AA M;replace T:=AA T;replace X:=AA X;replace R:=AA R;clear Y γ ζ W μ κ ν S G;go_wp2_with fail;have aD:Hid (au g wr wr.drew):=(au.refl _ _).drew;refine dI (λc=>au g wr c) 14 ?_;refine eO 0 rfl aD (λc h=>gM 23 (.tmp 16) rfl (n) rfl 23 ((ak d.fr).toArray) (0,0) _ (ρ c h) AB rfl U.size) ?_;refine eO 1 rfl aD (λc h=>gM 23 (.tmp 17) rfl (r) rfl 23 ((ak d.sr).toArray) (0,0) _ (σ c h) AB rfl H.size) ?_;refine aH 2 aD ?_;refine aH 3 aD ?_;refine aH 4 aD ?_;refine eG 5 aD (λc h=>A c h) ?_;refine aH 6 aD ?_;refine aH 7 aD ?_;refine aH 8 aD ?_;refine eG 9 aD (λc h=>τ c h) ?_;refine aU 10 ?_;refine jK (.tmp 82) (.tmp 86) Ao À Á Â Ã t M T q (by have:=L.out;unfold maxLen;omega) (aC L) (AX _) ?_;intro h ψ c;obtain⟨h,l,rfl,-⟩:=Own.reads c.own;have D:=AA<|(au.refl g wr).drew.grown c.grow (λb e=>.inl (B.out ▸ .inl (by rw[<-f.out,e])))
     have g:Hid (∀b,(Value.slice h (k+m) l).ownBlock=some b->ε.heap.size<=b):=λb e=>by
      rcases c.at_ with a | a
      ·rw[a]at e;exact N b (by rw[<-f.out,e])
      ·rw[a]at e;have n:wr.heap.size=b:=AL e;have:=o.kept.size;omega
     (have o:=AA<|aL.grown (w:=wr.drew) Z c.grow (λe=>by have a:=N _ (e.trans f);have:=C.out;omega));(have q:=AA<|aL.grown (w:=wr.drew) β c.grow (λe=>by have a:=N _ (e.trans f);have:=C.out;omega));replace c:=AA c;refine aV D ?_;refine aU 11 ?_;refine fM o U.size U.zero U.one ?_;intro f r o;(have n:=AA<|D.trans o (λi _ a=>by rw[B.out];exact .inr (.inl a)));refine aV n ?_;refine aU 12 ?_;refine fM (q.kept o ah) H.size H.zero H.one ?_;intro t A q;(have f:=AA<|n.trans q (λi _ a=>by rw[B.out];exact .inr (.inr a)));refine aV f ?_;refine aH 13 f ?_;refine bT ?_;(have D:=AA<|aL.kept r q ah);have r:=AA A;have n:=lM (lM c.own o (λb e a=>by have:=g b e;have:=C.out;omega)) q (λb e a=>by have:=g b e;have:=C.out;omega);have o:Hid (t.ownsRow w.heap.size 27 1 (.slice h (k+m) l) (k+m) (V++P)):=WL n (λb e=>by have:=g b e;have:=C.out;omega);(have e:=AA<|(xJ.XB X θ.1 f δ).append (xJ.XB R θ.2 f δ) y);(have g:=AA<|au.tO J f (λb a=>by rw[B.out]at a;rcases a with a | a | a;(have:=N b a;have:=C.out;omega);omega;omega) J.size);clear c n;go_wp2_with fail;refine bodyPost_ret (Kg rfl _ _ (w.heap.size+1) (w.heap.size+2) 23 23 (ak d.fr).toArray (ak d.sr).toArray (0,0) (0,0) _ rfl D rfl r AB rfl U.size H.size) rfl ?_;show Po w _ _ _
     try rw[ξ]
     exact⟨h,l,V++P,by rw[α.out,ι.out];rfl,by rw[α.out,ι.out];exact o,e,g⟩
theorem QR(s:Int)(a b:Nat)(i:1<=a)(j:a < b)(hs:b<=1099511627776)(d:aj)(k:d.length=32)(f:List aj)(g:Option Addr)(e h:Nat)(l:(bW a b).length=e)(c:World)(m:bn c)(n:j6 c g e f):
  Calls prog 221 #[.int .i64 s,.int .i64 (a:Int),.int .i64 (b:Int),.agg (ak d).toArray,.slice g e h] c (Ud c (jc s a b d f)):=
 (QO s a b i j hs d k f g e h l c m n).mono λ_ _ o=>o.post
theorem aL.jd{b c:World}{a:Nat}{d:TypeId}{e:Array Value}(f:aL b a d e)(g:av b c):aL c a d e:=(g.block a f.lt).trans f
def LJ(s:Int)(old size:Nat)(r0:aj)(ds:List aj):aj:=if old=0 then vk s else if old=size then r0 else(jc s old size r0 ds).fr
def LH(s:Int)(old size:Nat)(r0 r1:aj)(ds:List aj):aj:=if old=size then r0 else if old=0 then r1 else(jc s old size r0 ds).sr
def j5(s:Int)(old size:Int)(r0 r1:aj)(ds:List aj):Int:=
 if gV old size=false then 60 else if oP old.toNat size.toNat≠ds.length then 170
 else if LJ s old.toNat size.toNat r0 ds=r0/\LH s old.toNat size.toNat r0 r1 ds=r1 then 0 else 171
theorem FT{s:Int}{a c:Nat}{d:aj}{b:List aj}(g:1<=a)(f:a < c)(h0:d.length=32)(hd:jk b)(h:oP a c=b.length):(jc s a c d b).fr.length=32/\(jc s a c d b).sr.length=32/\(∀e∈(jc s a c d b).ft,e.length=65)/\(∀e∈(jc s a c d b).st,e.length=65)/\(jc s a c d b).ft.length<=b.length/\(jc s a c d b).st.length<=b.length:=by
 obtain⟨e,-,-⟩:=zV g f;have e:=nA (BB f);have e:(((bW a c).map (bh a)).zip b).length=b.length:=by rw[List.length_zip,List.length_map];omega
 have hx:(if Gg a then d else b.getD 0 []).length=32:=by
  split
  ·exact h0
  ·obtain⟨d,e⟩:∃d,b[0]?=some d:=⟨_,AV ah⟩
   have:=hd.at_ e;simpa[List.getD,e]using this
 have d:=wO (s:=s) (low:=jV a) (P:=((bW a c).map (bh a)).zip b) hx (λe f=>hd _ (List.of_mem_zip (show(e.1,e.2)∈_ from f)).2) (b.length - jV a) ah;rw[show jV a+(b.length - jV a)=b.length by omega]at d;exact⟨d.fl,d.sl,d.ft,d.st,by have:=d.fk;show(iW _ _ _ _ _).ft.length<=_;omega,by have:=d.sk;show(iW _ _ _ _ _).st.length<=_;omega⟩
theorem Pk{s:Int}{a b:Nat}{d:aj}{c:List aj}(f:a<=b)(h0:d.length=32)(hd:jk c)(e:oP a b=c.length):(LJ s a b d c).length=32:=by
 unfold LJ
 split
 ·exact xY s
 ·split
  ·exact h0
  ·exact(FT ah ah h0 hd e).1
theorem Pj{s:Int}{a b:Nat}{d r1:aj}{c:List aj}(g:a<=b)(h0:d.length=32)(e:r1.length=32)(hd:jk c)(f:oP a b=c.length):(LH s a b d r1 c).length=32:=by
 unfold LH
 split
 ·exact h0
 ·split
  ·exact e
  ·exact(FT ah ah h0 hd f).2.1
theorem QS(g b c:Int)(d:gV b c=false)(e f:aj)(h:Option Addr)(i j:Nat)(a:World):
  bq 135 #[.int .i64 g,.int .i64 b,.int .i64 c,.agg (ak e).toArray,.agg (ak f).toArray,.slice h i j] a (.int .i64 60):=by
 have g:Hid (av a ((a.alloc (.cells (ak e).toArray 23)).alloc (.cells (ak f).toArray 23))):=(Below.aJ a _).alloc aZ _
 replace d:=AA d
 go_enter func135,ntmps135
 go_wp2_with fail
 refine(Gy b c _).mono ?_
 rw[d.out]
 rintro a b ⟨rfl,rfl⟩
 go_wp2_with fail
 go_ret
 exact⟨rfl,g⟩
theorem Ua(s:Int)(d e:Nat)(ρ:d<=e)(hs:e<=1099511627776)(b r1:aj)(h0:b.length=32)(Θ:r1.length=32)(f:List aj)(Å:Option Addr)(Ξ Ë:Nat)(a:World)(Æ:bn a)(σ:j6 a Å Ξ f):
  bq 135 #[.int .i64 s,.int .i64 (d:Int),.int .i64 (e:Int),.agg (ak b).toArray,.agg (ak r1).toArray,.slice Å Ξ Ë] a (.int .i64 (j5 s d e b r1 f)):=by
 have Ç:gV (d:Int) (e:Int)=true:=by
  have c:(0:Int)<=d:=ah;have g:(d:Int)<=e:=ah;have h:(e:Int)<=1099511627776:=ah;simp[gV,c,g,h]
 have Ì:=AA<|λt=>by have:=Gy d e t;rwa[Ç]at this
 have Í:=AA (λt=>GU d e ρ hs t)
 have Î:=nA ρ
 obtain⟨X,Ä⟩:∃X,oP d e=X:=⟨_,rfl⟩
 have H:j5 s d e b r1 f=if X≠Ξ then 170 else if LJ s d e b f=b/\LH s d e b r1 f=r1 then 0 else 171:=by
  unfold j5;rw[if_neg (by rw[Ç];decide),Int.toNat_natCast,Int.toNat_natCast,Ä,σ.1]
 obtain⟨T,Ï⟩:∃c,j5 s d e b r1 f=c:=⟨_,rfl⟩
 rw[Ï]at H ⊢
 obtain⟨c,τ⟩:=bG ((a.alloc (.cells (ak b).toArray 23)).alloc (.cells (ak r1).toArray 23))
 have Ð:Hid (av a c):=τ.out ▸ (Below.aJ a _).alloc aZ _
 have n:Hid (aL c a.heap.size 23 (ak b).toArray):=τ.out ▸ heap_alloc2_old a _ _
 have o:Hid (aL c (a.heap.size+1) 23 (ak r1).toArray):=τ.out ▸ heap_alloc2_new a _ _
 have c:=AA (aP (x:=b) h0)
 have C:=AA (aP (x:=r1) Θ)
 have q:=AA (λt (κ:av a t)=>Æ.below κ Æ.1)
 have g:(0:Int)<=(d:Int):=ah
 have g:(d:Int)<=1099511627776:=ah
 have g:(0:Int)<=(e:Int):=ah
 have g:(e:Int)<=1099511627776:=ah
 have È:Hid ((bW d e).length=X):=by show _=_;rw[Î,Ä]
 by_cases Φ:X=Ξ
 ·rw[if_neg (λp=>p Φ)]at H
  (have m:oP d e=f.length:=by rw[Ä,Φ,σ.1]);subst Φ;have h:=Pk (s:=s) ρ h0 σ.2.1 m;have k:=Pj (s:=s) (r1:=r1) ρ h0 Θ σ.2.1 m;(have Ñ:=AA<|λt (κ:av a t) (É:1<=d) (Ò:d < e)=>QR s d e É Ò hs b h0 f Å X Ë È t (q t κ) (σ.below κ));(have υ:Hid (d=0->LJ s d e b f=vk s):=λp=>if_pos p);(have Ψ:Hid (d≠0->d=e->LJ s d e b f=b):=λp g=>by unfold LJ;rw[if_neg p,if_pos g]);(have Ω:Hid (d≠0->d≠e->LJ s d e b f=(jc s d e b f).fr):=λp g=>by unfold LJ;rw[if_neg p,if_neg g]);(have φ:Hid (d=e->LH s d e b r1 f=b):=λp=>if_pos p);(have À:Hid (d≠e->d=0->LH s d e b r1 f=r1):=λp g=>by unfold LH;rw[if_neg p,if_pos g]);(have Á:Hid (d≠e->d≠0->LH s d e b r1 f=(jc s d e b f).sr):=λp g=>by unfold LH;rw[if_neg p,if_neg g]);obtain⟨D,g⟩:∃χ,LJ s d e b f=χ:=⟨_,rfl⟩;obtain⟨Â,r⟩:∃χ,LH s d e b r1 f=χ:=⟨_,rfl⟩;rw[g]at H h υ Ψ Ω;rw[r]at H k À φ Á;have l:=AA (aP (x:=D) h);have U:=AA (aP (x:=Â) k);have V:=AA (λa=>iV D b h h0 a);have μ:=AA (λa=>iV Â r1 k Θ a);have Ã:=AA (λt (κ:av a t)=>CZ s t (q t κ));have É:((X:Int)==(X:Int))=true:=beq_self_eq_true _;have θ:=AA h0;have ι:=AA Θ;replace H:=AA H;replace ρ:=AA ρ;clear Ç Æ σ hs h0 Θ Î Ä Ï m h k g r;(go_enter func135,ntmps135);go_wp2_with fail;change Calls _ _ _ ((a.alloc (.cells (ak b).toArray 23)).alloc (.cells (ak r1).toArray 23)) _;rw[<-τ.out];clear τ;refine(Ì _).mono ?_;rintro I Ô ⟨rfl,rfl⟩;go_wp2_with fail;refine(Í _).mono ?_;rintro I k ⟨χ,rfl,ψ,ω⟩;rw[È.out]at ψ;obtain⟨Õ,Ö,rfl,-⟩:=Own.reads ψ;have Ê:=aQ Ð ω;(have A:=AA<|aL.jd n ω);(have w:=AA<|aL.jd o ω);clear ψ ω Ð n o Ì Í È;go_wp2_with fail
  go_cut [13,14]from 26 to 27 (λχ u wr=>∃h m:Nat,χ=.pointer (some ⟨h,0,none⟩)/\u=.pointer (some ⟨m,0,none⟩)/\Hid (h≠m)/\Hid (k.heap.size<=h)/\Hid (k.heap.size<=m)/\Hid (aL wr h 23 (ak b).toArray)/\Hid (aL wr m 23 (ak r1).toArray)/\Hid (av k wr))
  case first=>
   have aD:Hid (av k k.drew):=(Below.refl _ _).drew;refine dI (λt=>av k t) 6 ?_;refine eO 0 rfl aD (λt f=>gM 23 (.tmp 9) rfl (a.heap.size) rfl 23 ((ak b).toArray) (0,0) _ ((f.block _ A.lt).trans A) AB rfl c.size) ?_;refine eO 1 rfl aD (λt f=>gM 23 (.tmp 10) rfl ((a.heap.size+1)) rfl 23 ((ak r1).toArray) (0,0) _ ((f.block _ w.lt).trans w) AB rfl C.size) ?_;refine iP (i:=2) (j:=3) rfl rfl bH (by rfl) (by rfl) (λK y=>?_) (λK y=>?_)
   ·have n:Hid (av k (k.drew.alloc (.cells bF 23))):=aD.alloc aD.size _
    have o:Hid (aL (k.drew.alloc (.cells bF 23)) k.drew.heap.size 23 bF):=aL.new _ _ _;go_simp;refine y _ _ n ?_;clear y K;refine aU 3 ?_;have q:Hid (av k ((k.drew.alloc (.cells bF 23)).alloc (.cells bF 23))):=n.alloc n.size _;have r:Hid (aL ((k.drew.alloc (.cells bF 23)).alloc (.cells bF 23)) (k.drew.alloc (.cells bF 23)).heap.size 23 bF):=aL.new _ _ _;refine aV q ?_;(have B:Hid ((k.drew.alloc (.cells bF 23)).heap.size=k.heap.size+1):=by show _=_;simp);replace o:Hid (aL ((k.drew.alloc (.cells bF 23)).alloc (.cells bF 23)) k.heap.size 23 bF):=o.alloc _;(replace r:Hid (aL ((k.drew.alloc (.cells bF 23)).alloc (.cells bF 23)) (k.heap.size+1) 23 bF):=by have:=r.out;rw[B.out]at this;exact this);refine aU 4 ?_;refine fM o c.size c.zero c.one ?_;intro η E f;(have v:=AA<|q.trans (au.aW f ah q.size));(have G:=AA<|r.kept f ah);refine aV v ?_;refine aU 5 ?_;refine fM G C.size C.zero C.one ?_;intro Γ F g;(have z:=AA<|v.trans (au.aW g ah v.size));(have J:=AA<|E.kept g ah);refine aV z ?_;refine bT ?_;go_wp2_with fail;go_meet
    case rel=>exact⟨k.heap.size,k.heap.size+1,rfl,rfl,(by show _≠_;omega),(by show _<=_;omega),(by show _<=_;omega),J,F,z⟩
   ·have n:Hid (av k (k.drew.alloc (.cells bF 23))):=aD.alloc aD.size _
    have o:Hid (aL (k.drew.alloc (.cells bF 23)) k.drew.heap.size 23 bF):=aL.new _ _ _;go_simp;refine y _ _ n ?_;clear y K;refine aU 2 ?_;have q:Hid (av k ((k.drew.alloc (.cells bF 23)).alloc (.cells bF 23))):=n.alloc n.size _;have r:Hid (aL ((k.drew.alloc (.cells bF 23)).alloc (.cells bF 23)) (k.drew.alloc (.cells bF 23)).heap.size 23 bF):=aL.new _ _ _;refine aV q ?_;(have B:Hid ((k.drew.alloc (.cells bF 23)).heap.size=k.heap.size+1):=by show _=_;simp);replace o:Hid (aL ((k.drew.alloc (.cells bF 23)).alloc (.cells bF 23)) k.heap.size 23 bF):=o.alloc _;(replace r:Hid (aL ((k.drew.alloc (.cells bF 23)).alloc (.cells bF 23)) (k.heap.size+1) 23 bF):=by have:=r.out;rw[B.out]at this;exact this);refine aU 4 ?_;refine fM r c.size c.zero c.one ?_;intro η E f;(have v:=AA<|q.trans (au.aW f ah q.size));(have G:=AA<|o.kept f ah);refine aV v ?_;refine aU 5 ?_;refine fM G C.size C.zero C.one ?_;intro Γ F g;(have z:=AA<|v.trans (au.aW g ah v.size));(have J:=AA<|E.kept g ah);refine aV z ?_;refine bT ?_;go_wp2_with fail;go_meet
    case rel=>exact⟨k.heap.size+1,k.heap.size,rfl,rfl,(by show _≠_;omega),(by show _<=_;omega),(by show _<=_;omega),J,F,z⟩
  case rest=>
   obtain⟨h,m,rfl,rfl,o,q,v,ν,ξ,n⟩:=hcut;obtain⟨r,rfl⟩:=fB wc;have r:=aQ Ê n;(have G:=AA<|aL.jd A n);(have W:=AA<|aL.jd w n);(have hd:Hid (h≠m/\a.heap.size+1 < h/\a.heap.size+1 < m):=by have:=o.out;have:=q.out;have:=v.out;have:=w.lt;show _/\_;omega);clear o q v n Ê A w É;by_cases S:d=0
   ·have t1:((d:Int)==0)=true:=by rw[S];rfl
    have Ø:=S;by_cases Y:e=0
    ·have t2:¬((0:Int) < (e:Int)):=ah
     have Ó:((d:Int)==(e:Int))=true:=beq_iff_eq.2 ah;(have Ù:((e:Int)==0)=true:=by rw[Y];rfl);have ο:=(φ ah).symm;have P:=(υ S).symm;have Q:=ν;have R:=ξ;replace P:=AA P;subst ο;clear υ Ψ Ω À φ Á S Y ν ξ;by_cases m:D=b
     ·by_cases q:b=r1
      ·have Z:∀a,(Op.equalIn 10000 23 (.agg (ak D).toArray) (.agg (ak b).toArray)).run prog a=.ok true a:=λa=>by rw[V.out a,decide_eq_true m]
       (have Δ:∀a,(Op.equalIn 10000 23 (.agg (ak b).toArray) (.agg (ak r1).toArray)).run prog a=.ok true a:=λa=>by rw[μ.out a,decide_eq_true q]);(have v:T=0:=by rw[H.out,if_pos ⟨m,q⟩]);clear m q
       go_wp2_with (first
        |(rw[aF 51];refine aM G c.size AB ?_)
        |(rw[bA 23 14];refine dB R c.size (c.same r1 ι) c.one ?_;intro α J n;have w:=AA J;have y:=AA<|G.kept n (aC hd);have z:=AA<|W.kept n (aC hd);have o:=AA<|r.trans (au.aW n (aC hd) r.size);have A:=AA<|Q.kept n (aC hd);clear J n)
        |(go_at_call 48;refine(Ã _ o).mono ?_;rw[show dP (bB []) (cu s)=D from P.out];rintro I η ⟨rfl,h⟩;have L:=AA<|aL.jd y h;have M:=AA<|aL.jd z h;have B:=aQ o h;have N:=AA<|aL.jd A h;have O:=AA<|aL.jd w h;clear h)
        |(rw[bA 23 13];refine dB N l.size (l.same b θ) l.one ?_;intro Γ F g;have β:=AA F;have γ:=AA<|L.kept g (aC hd);have δ:=AA<|M.kept g (aC hd);have ε:=AA<|B.trans (au.aW g (aC hd) B.size);have ζ:=AA<|O.kept g (aC hd);clear F g)
        |(rw[aF 56];refine aM β l.size AB ?_)
        |(rw[aF 57];refine aM γ c.size AB ?_)
        |(rw[aF 60];refine aM ζ c.size AB ?_)
        |(rw[aF 61];refine aM δ C.size AB ?_))
       go_ret;exact⟨by first|(rw[v];rfl) | rfl,ε⟩
      ·have Z:∀a,(Op.equalIn 10000 23 (.agg (ak D).toArray) (.agg (ak b).toArray)).run prog a=.ok true a:=λa=>by rw[V.out a,decide_eq_true m]
       (have Δ:∀a,(Op.equalIn 10000 23 (.agg (ak b).toArray) (.agg (ak r1).toArray)).run prog a=.ok false a:=λa=>by rw[μ.out a,decide_eq_false q]);(have v:T=171:=by rw[H.out,if_neg (λp=>q p.2)]);clear m q
       go_wp2_with (first
        |(rw[aF 51];refine aM G c.size AB ?_)
        |(rw[bA 23 14];refine dB R c.size (c.same r1 ι) c.one ?_;intro α J n;have w:=AA J;have y:=AA<|G.kept n (aC hd);have z:=AA<|W.kept n (aC hd);have o:=AA<|r.trans (au.aW n (aC hd) r.size);have A:=AA<|Q.kept n (aC hd);clear J n)
        |(go_at_call 48;refine(Ã _ o).mono ?_;rw[show dP (bB []) (cu s)=D from P.out];rintro I η ⟨rfl,h⟩;have L:=AA<|aL.jd y h;have M:=AA<|aL.jd z h;have B:=aQ o h;have N:=AA<|aL.jd A h;have O:=AA<|aL.jd w h;clear h)
        |(rw[bA 23 13];refine dB N l.size (l.same b θ) l.one ?_;intro Γ F g;have β:=AA F;have γ:=AA<|L.kept g (aC hd);have δ:=AA<|M.kept g (aC hd);have ε:=AA<|B.trans (au.aW g (aC hd) B.size);have ζ:=AA<|O.kept g (aC hd);clear F g)
        |(rw[aF 56];refine aM β l.size AB ?_)
        |(rw[aF 57];refine aM γ c.size AB ?_)
        |(rw[aF 60];refine aM ζ c.size AB ?_)
        |(rw[aF 61];refine aM δ C.size AB ?_))
       go_ret;exact⟨by first|(rw[v];rfl) | rfl,ε⟩
     ·have Z:∀a,(Op.equalIn 10000 23 (.agg (ak D).toArray) (.agg (ak b).toArray)).run prog a=.ok false a:=λa=>by rw[V.out a,decide_eq_false m]
      (have v:T=171:=by rw[H.out,if_neg (λp=>m p.1)]);clear m
      go_wp2_with (first
       |(rw[aF 51];refine aM G c.size AB ?_)
       |(rw[bA 23 14];refine dB R c.size (c.same r1 ι) c.one ?_;intro α J n;have w:=AA J;have y:=AA<|G.kept n (aC hd);have z:=AA<|W.kept n (aC hd);have o:=AA<|r.trans (au.aW n (aC hd) r.size);have A:=AA<|Q.kept n (aC hd);clear J n)
       |(go_at_call 48;refine(Ã _ o).mono ?_;rw[show dP (bB []) (cu s)=D from P.out];rintro I η ⟨rfl,h⟩;have L:=AA<|aL.jd y h;have M:=AA<|aL.jd z h;have B:=aQ o h;have N:=AA<|aL.jd A h;have O:=AA<|aL.jd w h;clear h)
       |(rw[bA 23 13];refine dB N l.size (l.same b θ) l.one ?_;intro Γ F g;have β:=AA F;have γ:=AA<|L.kept g (aC hd);have δ:=AA<|M.kept g (aC hd);have ε:=AA<|B.trans (au.aW g (aC hd) B.size);have ζ:=AA<|O.kept g (aC hd);clear F g)
       |(rw[aF 56];refine aM β l.size AB ?_)
       |(rw[aF 57];refine aM γ c.size AB ?_)
       |(rw[aF 60];refine aM ζ c.size AB ?_)
       |(rw[aF 61];refine aM δ C.size AB ?_))
      go_ret;exact⟨by first|(rw[v];rfl) | rfl,ε⟩
    ·have t2:(0:Int) < (e:Int):=ah
     have ο:=(À ah S).symm;have P:=(υ S).symm;have Q:=ν;have R:=ξ;replace P:=AA P;subst ο;clear υ Ψ Ω À φ Á S Y ν ξ;by_cases m:D=b
     ·by_cases q:r1=r1
      ·have Z:∀a,(Op.equalIn 10000 23 (.agg (ak D).toArray) (.agg (ak b).toArray)).run prog a=.ok true a:=λa=>by rw[V.out a,decide_eq_true m]
       (have Δ:∀a,(Op.equalIn 10000 23 (.agg (ak r1).toArray) (.agg (ak r1).toArray)).run prog a=.ok true a:=λa=>by rw[μ.out a,decide_eq_true q]);(have v:T=0:=by rw[H.out,if_pos ⟨m,q⟩]);clear m q
       go_wp2_with (first
        |(go_at_call 48;refine(Ã _ r).mono ?_;rw[show dP (bB []) (cu s)=D from P.out];rintro I α ⟨rfl,h⟩;have y:=AA<|aL.jd G h;have z:=AA<|aL.jd W h;have o:=aQ r h;have A:=AA<|aL.jd Q h;have w:=AA<|aL.jd R h;clear h)
        |(rw[bA 23 13];refine dB A l.size (l.same b θ) l.one ?_;intro η E f;have N:=AA E;have L:=AA<|y.kept f (aC hd);have M:=AA<|z.kept f (aC hd);have B:=AA<|o.trans (au.aW f (aC hd) o.size);have O:=AA<|w.kept f (aC hd);clear E f)
        |(rw[aF 56];refine aM N l.size AB ?_)
        |(rw[aF 57];refine aM L c.size AB ?_)
        |(rw[aF 60];refine aM O C.size AB ?_)
        |(rw[aF 61];refine aM M C.size AB ?_))
       go_ret;exact⟨by first|(rw[v];rfl) | rfl,B⟩
      ·have Z:∀a,(Op.equalIn 10000 23 (.agg (ak D).toArray) (.agg (ak b).toArray)).run prog a=.ok true a:=λa=>by rw[V.out a,decide_eq_true m]
       (have Δ:∀a,(Op.equalIn 10000 23 (.agg (ak r1).toArray) (.agg (ak r1).toArray)).run prog a=.ok false a:=λa=>by rw[μ.out a,decide_eq_false q]);(have v:T=171:=by rw[H.out,if_neg (λp=>q p.2)]);clear m q
       go_wp2_with (first
        |(go_at_call 48;refine(Ã _ r).mono ?_;rw[show dP (bB []) (cu s)=D from P.out];rintro I α ⟨rfl,h⟩;have y:=AA<|aL.jd G h;have z:=AA<|aL.jd W h;have o:=aQ r h;have A:=AA<|aL.jd Q h;have w:=AA<|aL.jd R h;clear h)
        |(rw[bA 23 13];refine dB A l.size (l.same b θ) l.one ?_;intro η E f;have N:=AA E;have L:=AA<|y.kept f (aC hd);have M:=AA<|z.kept f (aC hd);have B:=AA<|o.trans (au.aW f (aC hd) o.size);have O:=AA<|w.kept f (aC hd);clear E f)
        |(rw[aF 56];refine aM N l.size AB ?_)
        |(rw[aF 57];refine aM L c.size AB ?_)
        |(rw[aF 60];refine aM O C.size AB ?_)
        |(rw[aF 61];refine aM M C.size AB ?_))
       go_ret;exact⟨by first|(rw[v];rfl) | rfl,B⟩
     ·have Z:∀a,(Op.equalIn 10000 23 (.agg (ak D).toArray) (.agg (ak b).toArray)).run prog a=.ok false a:=λa=>by rw[V.out a,decide_eq_false m]
      (have v:T=171:=by rw[H.out,if_neg (λp=>m p.1)]);clear m
      go_wp2_with (first
       |(go_at_call 48;refine(Ã _ r).mono ?_;rw[show dP (bB []) (cu s)=D from P.out];rintro I α ⟨rfl,h⟩;have y:=AA<|aL.jd G h;have z:=AA<|aL.jd W h;have o:=aQ r h;have A:=AA<|aL.jd Q h;have w:=AA<|aL.jd R h;clear h)
       |(rw[bA 23 13];refine dB A l.size (l.same b θ) l.one ?_;intro η E f;have N:=AA E;have L:=AA<|y.kept f (aC hd);have M:=AA<|z.kept f (aC hd);have B:=AA<|o.trans (au.aW f (aC hd) o.size);have O:=AA<|w.kept f (aC hd);clear E f)
       |(rw[aF 56];refine aM N l.size AB ?_)
       |(rw[aF 57];refine aM L c.size AB ?_)
       |(rw[aF 60];refine aM O C.size AB ?_)
       |(rw[aF 61];refine aM M C.size AB ?_))
      go_ret;exact⟨by first|(rw[v];rfl) | rfl,B⟩
   ·have t1:((d:Int)==0)=false:=beq_eq_false_iff_ne.2 ah
    have Ø:=S;by_cases Y:d=e
    ·have Ó:((d:Int)==(e:Int))=true:=beq_iff_eq.2 ah
     have Ù:((e:Int)==0)=false:=beq_eq_false_iff_ne.2 ah;have Ã:¬e=0:=ah;have ο:=(φ Y).symm;have P:=(Ψ S Y).symm;have Q:=ν;have R:=ξ;subst ο;subst P;clear υ Ψ Ω À φ Á S Y ν ξ;by_cases m:b=b
     ·by_cases q:b=r1
      ·have Z:∀a,(Op.equalIn 10000 23 (.agg (ak b).toArray) (.agg (ak b).toArray)).run prog a=.ok true a:=λa=>by rw[V.out a,decide_eq_true m]
       (have Δ:∀a,(Op.equalIn 10000 23 (.agg (ak b).toArray) (.agg (ak r1).toArray)).run prog a=.ok true a:=λa=>by rw[μ.out a,decide_eq_true q]);(have v:T=0:=by rw[H.out,if_pos ⟨m,q⟩]);clear m q
       go_wp2_with (first
        |(rw[aF 51];refine aM G c.size AB ?_)
        |(rw[bA 23 14];refine dB R c.size (c.same r1 ι) c.one ?_;intro α J n;have w:=AA J;have y:=AA<|G.kept n (aC hd);have z:=AA<|W.kept n (aC hd);have o:=AA<|r.trans (au.aW n (aC hd) r.size);have A:=AA<|Q.kept n (aC hd);clear J n)
        |(rw[aF 56];refine aM A c.size AB ?_)
        |(rw[aF 57];refine aM y c.size AB ?_)
        |(rw[aF 60];refine aM w c.size AB ?_)
        |(rw[aF 61];refine aM z C.size AB ?_))
       go_ret;exact⟨by first|(rw[v];rfl) | rfl,o⟩
      ·have Z:∀a,(Op.equalIn 10000 23 (.agg (ak b).toArray) (.agg (ak b).toArray)).run prog a=.ok true a:=λa=>by rw[V.out a,decide_eq_true m]
       (have Δ:∀a,(Op.equalIn 10000 23 (.agg (ak b).toArray) (.agg (ak r1).toArray)).run prog a=.ok false a:=λa=>by rw[μ.out a,decide_eq_false q]);(have v:T=171:=by rw[H.out,if_neg (λp=>q p.2)]);clear m q
       go_wp2_with (first
        |(rw[aF 51];refine aM G c.size AB ?_)
        |(rw[bA 23 14];refine dB R c.size (c.same r1 ι) c.one ?_;intro α J n;have w:=AA J;have y:=AA<|G.kept n (aC hd);have z:=AA<|W.kept n (aC hd);have o:=AA<|r.trans (au.aW n (aC hd) r.size);have A:=AA<|Q.kept n (aC hd);clear J n)
        |(rw[aF 56];refine aM A c.size AB ?_)
        |(rw[aF 57];refine aM y c.size AB ?_)
        |(rw[aF 60];refine aM w c.size AB ?_)
        |(rw[aF 61];refine aM z C.size AB ?_))
       go_ret;exact⟨by first|(rw[v];rfl) | rfl,o⟩
     ·have Z:∀a,(Op.equalIn 10000 23 (.agg (ak b).toArray) (.agg (ak b).toArray)).run prog a=.ok false a:=λa=>by rw[V.out a,decide_eq_false m]
      (have v:T=171:=by rw[H.out,if_neg (λp=>m p.1)]);clear m
      go_wp2_with (first
       |(rw[aF 51];refine aM G c.size AB ?_)
       |(rw[bA 23 14];refine dB R c.size (c.same r1 ι) c.one ?_;intro α J n;have w:=AA J;have y:=AA<|G.kept n (aC hd);have z:=AA<|W.kept n (aC hd);have o:=AA<|r.trans (au.aW n (aC hd) r.size);have A:=AA<|Q.kept n (aC hd);clear J n)
       |(rw[aF 56];refine aM A c.size AB ?_)
       |(rw[aF 57];refine aM y c.size AB ?_)
       |(rw[aF 60];refine aM w c.size AB ?_)
       |(rw[aF 61];refine aM z C.size AB ?_))
      go_ret;exact⟨by first|(rw[v];rfl) | rfl,o⟩
    ·have Ó:((d:Int)==(e:Int))=false:=beq_eq_false_iff_ne.2 ah
     have Ã:=Y;have ο:=(Á Y S).symm;have P:=(Ω S Y).symm
     have J:Hid (∀t,av a t->Calls prog 221 #[.int .i64 s,.int .i64 (d:Int),.int .i64 (e:Int),.agg (ak b).toArray,.slice Å X Ë] t (λI Ã=>∃d n e,I=.returned (.tuple #[.agg (ak D).toArray,.agg (ak Â).toArray,.slice d n e])/\av t Ã)):=λt κ=>by
      refine(Ñ t κ ah (aC ρ)).mono ?_;rintro I Ã ⟨d,e,κ,rfl,-,-,t⟩;rw[P,ο];exact⟨d,_,e,rfl,t⟩
     have Q:=ν;have R:=ξ;clear υ Ψ Ω À φ Á S Y ν ξ P ο Ñ;by_cases m:D=b
     ·by_cases q:Â=r1
      ·have Z:∀a,(Op.equalIn 10000 23 (.agg (ak D).toArray) (.agg (ak b).toArray)).run prog a=.ok true a:=λa=>by rw[V.out a,decide_eq_true m]
       (have Δ:∀a,(Op.equalIn 10000 23 (.agg (ak Â).toArray) (.agg (ak r1).toArray)).run prog a=.ok true a:=λa=>by rw[μ.out a,decide_eq_true q]);(have v:T=0:=by rw[H.out,if_pos ⟨m,q⟩]);clear m q
       go_wp2_with (first
        |(rw[aF 32];refine aM G c.size AB ?_)
        |(go_at_call 221;refine(J _ r).mono ?_;rintro I α ⟨d,n,e,rfl,h⟩;have y:=AA<|aL.jd G h;have z:=AA<|aL.jd W h;have o:=aQ r h;have A:=AA<|aL.jd Q h;have w:=AA<|aL.jd R h;clear h)
        |(rw[bA 23 13];refine dB A l.size (l.same b θ) l.one ?_;intro η E f;have N:=AA E;have L:=AA<|y.kept f (aC hd);have M:=AA<|z.kept f (aC hd);have B:=AA<|o.trans (au.aW f (aC hd) o.size);have O:=AA<|w.kept f (aC hd);clear E f)
        |(rw[bA 23 14];refine dB O U.size (U.same r1 ι) U.one ?_;intro Γ F g;have ζ:=AA F;have γ:=AA<|L.kept g (aC hd);have δ:=AA<|M.kept g (aC hd);have ε:=AA<|B.trans (au.aW g (aC hd) B.size);have β:=AA<|N.kept g (aC hd);clear F g)
        |(rw[aF 56];refine aM β l.size AB ?_)
        |(rw[aF 57];refine aM γ c.size AB ?_)
        |(rw[aF 60];refine aM ζ U.size AB ?_)
        |(rw[aF 61];refine aM δ C.size AB ?_))
       go_ret;exact⟨by first|(rw[v];rfl) | rfl,ε⟩
      ·have Z:∀a,(Op.equalIn 10000 23 (.agg (ak D).toArray) (.agg (ak b).toArray)).run prog a=.ok true a:=λa=>by rw[V.out a,decide_eq_true m]
       (have Δ:∀a,(Op.equalIn 10000 23 (.agg (ak Â).toArray) (.agg (ak r1).toArray)).run prog a=.ok false a:=λa=>by rw[μ.out a,decide_eq_false q]);(have v:T=171:=by rw[H.out,if_neg (λp=>q p.2)]);clear m q
       go_wp2_with (first
        |(rw[aF 32];refine aM G c.size AB ?_)
        |(go_at_call 221;refine(J _ r).mono ?_;rintro I α ⟨d,n,e,rfl,h⟩;have y:=AA<|aL.jd G h;have z:=AA<|aL.jd W h;have o:=aQ r h;have A:=AA<|aL.jd Q h;have w:=AA<|aL.jd R h;clear h)
        |(rw[bA 23 13];refine dB A l.size (l.same b θ) l.one ?_;intro η E f;have N:=AA E;have L:=AA<|y.kept f (aC hd);have M:=AA<|z.kept f (aC hd);have B:=AA<|o.trans (au.aW f (aC hd) o.size);have O:=AA<|w.kept f (aC hd);clear E f)
        |(rw[bA 23 14];refine dB O U.size (U.same r1 ι) U.one ?_;intro Γ F g;have ζ:=AA F;have γ:=AA<|L.kept g (aC hd);have δ:=AA<|M.kept g (aC hd);have ε:=AA<|B.trans (au.aW g (aC hd) B.size);have β:=AA<|N.kept g (aC hd);clear F g)
        |(rw[aF 56];refine aM β l.size AB ?_)
        |(rw[aF 57];refine aM γ c.size AB ?_)
        |(rw[aF 60];refine aM ζ U.size AB ?_)
        |(rw[aF 61];refine aM δ C.size AB ?_))
       go_ret;exact⟨by first|(rw[v];rfl) | rfl,ε⟩
     ·have Z:∀a,(Op.equalIn 10000 23 (.agg (ak D).toArray) (.agg (ak b).toArray)).run prog a=.ok false a:=λa=>by rw[V.out a,decide_eq_false m]
      (have v:T=171:=by rw[H.out,if_neg (λp=>m p.1)]);clear m
      go_wp2_with (first
       |(rw[aF 32];refine aM G c.size AB ?_)
       |(go_at_call 221;refine(J _ r).mono ?_;rintro I α ⟨d,n,e,rfl,h⟩;have y:=AA<|aL.jd G h;have z:=AA<|aL.jd W h;have o:=aQ r h;have A:=AA<|aL.jd Q h;have w:=AA<|aL.jd R h;clear h)
       |(rw[bA 23 13];refine dB A l.size (l.same b θ) l.one ?_;intro η E f;have N:=AA E;have L:=AA<|y.kept f (aC hd);have M:=AA<|z.kept f (aC hd);have B:=AA<|o.trans (au.aW f (aC hd) o.size);have O:=AA<|w.kept f (aC hd);clear E f)
       |(rw[bA 23 14];refine dB O U.size (U.same r1 ι) U.one ?_;intro Γ F g;have ζ:=AA F;have γ:=AA<|L.kept g (aC hd);have δ:=AA<|M.kept g (aC hd);have ε:=AA<|B.trans (au.aW g (aC hd) B.size);have β:=AA<|N.kept g (aC hd);clear F g)
       |(rw[aF 56];refine aM β l.size AB ?_)
       |(rw[aF 57];refine aM γ c.size AB ?_)
       |(rw[aF 60];refine aM ζ U.size AB ?_)
       |(rw[aF 61];refine aM δ C.size AB ?_))
      go_ret;exact⟨by first|(rw[v];rfl) | rfl,ε⟩
 ·rw[if_pos Φ]at H
  subst H;have É:((Ξ:Int)==(X:Int))=false:=beq_eq_false_iff_ne.2 ah;(have Ò:¬Ξ=X:=λI=>Φ I.symm);clear Ç Æ σ hs h0 Θ Î Ä Ï Φ;(go_enter func135,ntmps135);go_wp2_with fail;change Calls _ _ _ ((a.alloc (.cells (ak b).toArray 23)).alloc (.cells (ak r1).toArray 23)) _;rw[<-τ.out];clear τ;refine(Ì _).mono ?_;rintro I Ô ⟨rfl,rfl⟩;go_wp2_with fail;refine(Í _).mono ?_;rintro I k ⟨χ,rfl,ψ,ω⟩;rw[È.out]at ψ;obtain⟨Õ,Ö,rfl,-⟩:=Own.reads ψ;have Ê:=aQ Ð ω;clear ψ ω;go_wp2_with fail;go_ret;exact⟨rfl,Ê⟩
theorem QT(d e a:Int)(b c:aj)(h0:b.length=32)(k:c.length=32)(g:List aj)(h:Option Addr)(i j:Nat)(f:World)(l:bn f)(m:j6 f h i g):
  bq 135 #[.int .i64 d,.int .i64 e,.int .i64 a,.agg (ak b).toArray,.agg (ak c).toArray,.slice h i j] f (.int .i64 (j5 d e a b c g)):=by
 cases hj:gV e a with
 | false=>
  rw[show j5 d e a b c g=60 from if_pos hj];exact QS d e a hj b c h i j f
 | true=>
  have e:=hj;simp only[gV,Bool.and_eq_true,decide_eq_true_eq]at e;obtain⟨n,rfl⟩:=Int.eq_ofNat_of_zero_le e.1.1;obtain⟨z,rfl⟩:=Int.eq_ofNat_of_zero_le (show 0<=a by omega);exact Ua d n z ah ah b c h0 k g h i j f l m
theorem Dv(a b:Int)(c:gV a b=false):a < 0\/(0<=a/\b < a)\/(0<=a/\a<=b/\1099511627776 < b):=by
 simp only[gV,Bool.and_eq_false_iff,decide_eq_false_iff_not]at c;omega
theorem IA(e a c:Int)(d:gV a c=false)(f g:aj)(h:Option Addr)(i j:Nat)(b:World):
  bq 191 #[.int .i64 e,.int .i64 a,.int .i64 c,.agg (ak f).toArray,.agg (ak g).toArray,.slice h i j] b (.int .i64 60):=by
 have e:Hid (av b ((b.alloc (.cells (ak f).toArray 23)).alloc (.cells (ak g).toArray 23))):=(Below.aJ b _).alloc aZ _
 have g:=Dv a c d
 clear d
 rcases g with b |⟨b,d⟩ |⟨b,d,f⟩
 ·have g:=AY b
  clear b;(go_enter Ba,ntmps191);go_wp2_with fail;go_ret;exact⟨rfl,e⟩
 ·have g:decide (a < 0)=false:=AP ah
  have h:=AY d;clear b d;(go_enter Ba,ntmps191);go_wp2_with fail;go_ret;exact⟨rfl,e⟩
 ·have g:decide (a < 0)=false:=AP ah
  have h:decide (c < a)=false:=AP ah;have a:=AY f;clear b d f;(go_enter Ba,ntmps191);go_wp2_with fail;go_ret;exact⟨rfl,e⟩
theorem Kn(s:Int)(j:s < 9223372036854775808)(b e:Nat)(J:b<=e)(hs:e<=1099511627776)(f r1:aj)(h0:f.length=32)(R:r1.length=32)(c:List aj)(Q:Option Addr)(S δ:Nat)(a:World)(T:j6 a Q S c):
  bq 191 #[.int .i64 s,.int .i64 (b:Int),.int .i64 (e:Int),.agg (ak f).toArray,.agg (ak r1).toArray,.slice Q S δ] a (.int .i64 (j5 s b e f r1 c)):=by
 have σ:gV (b:Int) (e:Int)=true:=by
  have d:(0:Int)<=b:=ah;have g:(b:Int)<=e:=ah;have h:(e:Int)<=1099511627776:=ah;simp[gV,d,g,h]
 have τ:=AA (λC=>sV b e J hs C)
 have υ:=nA J
 obtain⟨D,Z⟩:∃D,oP b e=D:=⟨_,rfl⟩
 have r:j5 s b e f r1 c=if D≠S then 170 else if LJ s b e f c=f/\LH s b e f r1 c=r1 then 0 else 171:=by
  unfold j5;rw[if_neg (by rw[σ];decide),Int.toNat_natCast,Int.toNat_natCast,Z,T.1]
 obtain⟨K,φ⟩:∃d,j5 s b e f r1 c=d:=⟨_,rfl⟩
 rw[φ]at r ⊢
 obtain⟨d,U⟩:=bG ((a.alloc (.cells (ak f).toArray 23)).alloc (.cells (ak r1).toArray 23))
 have χ:Hid (av a d):=U.out ▸ (Below.aJ a _).alloc aZ _
 have m:Hid (aL d a.heap.size 23 (ak f).toArray):=U.out ▸ heap_alloc2_old a _ _
 have n:Hid (aL d (a.heap.size+1) 23 (ak r1).toArray):=U.out ▸ heap_alloc2_new a _ _
 have p:=AA (aP (x:=f) h0)
 have z:=AA (aP (x:=r1) R)
 have d:(0:Int)<=(b:Int):=ah
 have d:(0:Int)<=(e:Int):=ah
 have u:decide ((b:Int) < 0)=false:=AP ah
 have v:decide (e < b)=false:=AP ah
 have w:decide (1099511627776 < (e:Int))=false:=AP ah
 have y:¬e < b:=ah
 have ψ:Hid ((bW b e).length=D):=by show _=_;rw[υ,Z]
 by_cases V:D=S
 ·rw[if_neg (λk=>k V)]at r
  (have l:oP b e=c.length:=by rw[Z,V,T.1]);subst V;have h:=Pk (s:=s) J h0 T.2.1 l;have i:=Pj (s:=s) (r1:=r1) J h0 R T.2.1 l;(have η:=AA<|λC (ε:av a C) (ω:1<=b) (Δ:b < e)=>Iz s j b e ω Δ hs f h0 c Q D δ Z C (T.below ε));(have γ:Hid (b=0->LJ s b e f c=vk s):=λk=>if_pos k);(have θ:Hid (b≠0->b=e->LJ s b e f c=f):=λk d=>by unfold LJ;rw[if_neg k,if_pos d]);(have ι:Hid (b≠0->b≠e->LJ s b e f c=(jc s b e f c).fr):=λk d=>by unfold LJ;rw[if_neg k,if_neg d]);(have o:Hid (b=e->LH s b e f r1 c=f):=λk=>if_pos k);(have κ:Hid (b≠e->b=0->LH s b e f r1 c=r1):=λk d=>by unfold LH;rw[if_neg k,if_pos d]);(have μ:Hid (b≠e->b≠0->LH s b e f r1 c=(jc s b e f c).sr):=λk d=>by unfold LH;rw[if_neg k,if_neg d]);obtain⟨α,q⟩:∃W,LJ s b e f c=W:=⟨_,rfl⟩;obtain⟨β,t⟩:∃W,LH s b e f r1 c=W:=⟨_,rfl⟩;rw[q]at r h γ θ ι;rw[t]at r i κ o μ;obtain⟨G,c⟩:∃W,vk s=W:=⟨_,rfl⟩;have d:G.length=32:=c ▸ xY s
  have L:=AA<|λC=>by
   have:=uZ s C j;rw[show dP (bB []) (cu s)=G from c]at this;exact this
  rw[c]at γ;have E:=AA (aP (x:=α) h);have F:=AA (aP (x:=β) i);have g:=AA (aP (x:=G) d);have Θ:=AA (λa=>iV α f h h0 a);have Ξ:=AA (λa=>iV β r1 i R a);have ν:=AA (λa=>iV f r1 h0 R a);have ξ:=AA (λa=>iV r1 G R d a);have ο:=AA (λa=>iV f G h0 d a);have ω:((D:Int)==(D:Int))=true:=beq_self_eq_true _;replace r:=AA r;replace J:=AA J;clear σ T hs h0 R υ Z φ l h i q t c d j;(go_enter Ba,ntmps191);go_wp2_with fail;change Calls _ _ _ ((a.alloc (.cells (ak f).toArray 23)).alloc (.cells (ak r1).toArray 23)) _;rw[<-U.out];clear U;refine(τ _).mono ?_;rintro q Ψ ⟨W,rfl,X,Y⟩;rw[ψ.out]at X;obtain⟨Ω,À,rfl,-⟩:=Own.reads X;have H:=aQ χ Y;(have M:=AA<|aL.jd m Y);(have N:=AA<|aL.jd n Y);clear X Y χ m n τ ψ u v w y;by_cases P:b=e
  ·have ρ:((b:Int)==(e:Int))=true:=beq_iff_eq.2 ah
   have B:=o P;by_cases o:f=r1
   ·have Γ:∀a,(Op.equalIn 10000 23 (.agg (ak f).toArray) (.agg (ak r1).toArray)).run prog a=.ok true a:=λa=>by rw[ν.out a,decide_eq_true o]
    by_cases c:e=0
    ·have Φ:((e:Int)==0)=true:=by rw[c];rfl
     have I:b=0:=ah;have A:=γ I;by_cases m:r1=G
     ·have ζ:∀a,(Op.equalIn 10000 23 (.agg (ak r1).toArray) (.agg (ak G).toArray)).run prog a=.ok true a:=λa=>by rw[ξ.out a,decide_eq_true m]
      (have t:K=0:=by rw[r.out,if_pos ⟨by rw[A,o,m],by rw[B,o]⟩]);clear o m A B
      go_wp2_with (first
       |(go_at_call 111;refine(L _).mono ?_;rintro q u ⟨rfl,c⟩;have v:=AA<|aL.jd M c;have w:=AA<|aL.jd N c;have y:=aQ H c;clear c)
       |(rw[bA 23 13];refine dB (aL.new u _ _) g.size g.zero g.one ?_;intro O h i;have d:=dx i;have j:=AA<|aL.jd v d;have l:=AA<|aL.jd w d;have n:=aQ y d;replace h:=AA h;clear i d)
       |(rw[aF 41];refine aM j p.size AB ?_)
       |(rw[aF 42];refine aM l z.size AB ?_)
       |(rw[aF 48];refine aM l z.size AB ?_)
       |(rw[aF 49];refine aM h g.size AB ?_)
       |(rw[aF 55];refine aM j p.size AB ?_)
       |(rw[aF 56];refine aM h g.size AB ?_))
      go_ret;exact⟨by rw[t];rfl,n⟩
     ·have ζ:∀a,(Op.equalIn 10000 23 (.agg (ak r1).toArray) (.agg (ak G).toArray)).run prog a=.ok false a:=λa=>by rw[ξ.out a,decide_eq_false m]
      (have t:K=171:=by rw[r.out,if_neg (λk=>m (by rw[<-o,<-k.1,A]))]);clear o m A B
      go_wp2_with (first
       |(go_at_call 111;refine(L _).mono ?_;rintro q u ⟨rfl,c⟩;have v:=AA<|aL.jd M c;have w:=AA<|aL.jd N c;have y:=aQ H c;clear c)
       |(rw[bA 23 13];refine dB (aL.new u _ _) g.size g.zero g.one ?_;intro O h i;have d:=dx i;have j:=AA<|aL.jd v d;have l:=AA<|aL.jd w d;have n:=aQ y d;replace h:=AA h;clear i d)
       |(rw[aF 41];refine aM j p.size AB ?_)
       |(rw[aF 42];refine aM l z.size AB ?_)
       |(rw[aF 48];refine aM l z.size AB ?_)
       |(rw[aF 49];refine aM h g.size AB ?_)
       |(rw[aF 55];refine aM j p.size AB ?_)
       |(rw[aF 56];refine aM h g.size AB ?_))
      go_ret;exact⟨by rw[t];rfl,n⟩
    ·have Φ:((e:Int)==0)=false:=beq_eq_false_iff_ne.2 ah
     have I:¬b=0:=ah;have A:=θ I P;(have t:K=0:=by rw[r.out,if_pos ⟨A,by rw[B,o]⟩]);clear o A B
     go_wp2_with (first
      |(go_at_call 111;refine(L _).mono ?_;rintro q u ⟨rfl,c⟩;have v:=AA<|aL.jd M c;have w:=AA<|aL.jd N c;have y:=aQ H c;clear c)
      |(rw[bA 23 13];refine dB (aL.new u _ _) g.size g.zero g.one ?_;intro O h i;have d:=dx i;have j:=AA<|aL.jd v d;have l:=AA<|aL.jd w d;have n:=aQ y d;replace h:=AA h;clear i d)
      |(rw[aF 41];refine aM j p.size AB ?_)
      |(rw[aF 42];refine aM l z.size AB ?_)
      |(rw[aF 48];refine aM l z.size AB ?_)
      |(rw[aF 49];refine aM h g.size AB ?_)
      |(rw[aF 55];refine aM j p.size AB ?_)
      |(rw[aF 56];refine aM h g.size AB ?_))
     go_ret;exact⟨by rw[t];rfl,n⟩
   ·have Γ:∀a,(Op.equalIn 10000 23 (.agg (ak f).toArray) (.agg (ak r1).toArray)).run prog a=.ok false a:=λa=>by rw[ν.out a,decide_eq_false o]
    (have t:K=171:=by rw[r.out,if_neg (λk=>o (by rw[<-k.2,B]))]);clear o B
    go_wp2_with (first
     |(go_at_call 111;refine(L _).mono ?_;rintro q u ⟨rfl,c⟩;have v:=AA<|aL.jd M c;have w:=AA<|aL.jd N c;have y:=aQ H c;clear c)
     |(rw[bA 23 13];refine dB (aL.new u _ _) g.size g.zero g.one ?_;intro O h i;have d:=dx i;have j:=AA<|aL.jd v d;have l:=AA<|aL.jd w d;have n:=aQ y d;replace h:=AA h;clear i d)
     |(rw[aF 41];refine aM j p.size AB ?_)
     |(rw[aF 42];refine aM l z.size AB ?_)
     |(rw[aF 48];refine aM l z.size AB ?_)
     |(rw[aF 49];refine aM h g.size AB ?_)
     |(rw[aF 55];refine aM j p.size AB ?_)
     |(rw[aF 56];refine aM h g.size AB ?_))
    go_ret;exact⟨by rw[t];rfl,n⟩
  ·have ρ:((b:Int)==(e:Int))=false:=beq_eq_false_iff_ne.2 ah
   have θ:=P;by_cases I:b=0
   ·have t1:((b:Int)==0)=true:=by rw[I];rfl
    have A:=γ I;have B:=κ P I;by_cases m:f=G
    ·have ζ:∀a,(Op.equalIn 10000 23 (.agg (ak f).toArray) (.agg (ak G).toArray)).run prog a=.ok true a:=λa=>by rw[ο.out a,decide_eq_true m]
     (have t:K=0:=by rw[r.out,if_pos ⟨by rw[A,m],B⟩]);clear m A B
     go_wp2_with (first
      |(go_at_call 111;refine(L _).mono ?_;rintro q u ⟨rfl,c⟩;have v:=AA<|aL.jd M c;have w:=AA<|aL.jd N c;have y:=aQ H c;clear c)
      |(rw[bA 23 13];refine dB (aL.new u _ _) g.size g.zero g.one ?_;intro O h i;have d:=dx i;have j:=AA<|aL.jd v d;have l:=AA<|aL.jd w d;have n:=aQ y d;replace h:=AA h;clear i d)
      |(rw[aF 41];refine aM j p.size AB ?_)
      |(rw[aF 42];refine aM l z.size AB ?_)
      |(rw[aF 48];refine aM l z.size AB ?_)
      |(rw[aF 49];refine aM h g.size AB ?_)
      |(rw[aF 55];refine aM j p.size AB ?_)
      |(rw[aF 56];refine aM h g.size AB ?_))
     go_ret;exact⟨by rw[t];rfl,n⟩
    ·have ζ:∀a,(Op.equalIn 10000 23 (.agg (ak f).toArray) (.agg (ak G).toArray)).run prog a=.ok false a:=λa=>by rw[ο.out a,decide_eq_false m]
     (have t:K=171:=by rw[r.out,if_neg (λk=>m (by rw[<-k.1,A]))]);clear m A B
     go_wp2_with (first
      |(go_at_call 111;refine(L _).mono ?_;rintro q u ⟨rfl,c⟩;have v:=AA<|aL.jd M c;have w:=AA<|aL.jd N c;have y:=aQ H c;clear c)
      |(rw[bA 23 13];refine dB (aL.new u _ _) g.size g.zero g.one ?_;intro O h i;have d:=dx i;have j:=AA<|aL.jd v d;have l:=AA<|aL.jd w d;have n:=aQ y d;replace h:=AA h;clear i d)
      |(rw[aF 41];refine aM j p.size AB ?_)
      |(rw[aF 42];refine aM l z.size AB ?_)
      |(rw[aF 48];refine aM l z.size AB ?_)
      |(rw[aF 49];refine aM h g.size AB ?_)
      |(rw[aF 55];refine aM j p.size AB ?_)
      |(rw[aF 56];refine aM h g.size AB ?_))
     go_ret;exact⟨by rw[t];rfl,n⟩
   ·have t1:((b:Int)==0)=false:=beq_eq_false_iff_ne.2 ah
    have G:=I;have B:=(μ P I).symm;have A:=(ι I P).symm
    have Γ:Hid (∀C,av a C->Calls prog 230 #[.int .i64 s,.int .i64 (b:Int),.int .i64 (e:Int),.agg (ak f).toArray,.slice Q D δ] C (λq G=>∃γ ρ δ,q=.returned (.tuple #[.agg (ak α).toArray,.agg (ak β).toArray,.slice γ ρ δ,.int .i64 0])/\av C G)):=λC ε=>by
     refine(η C ε ah (aC J)).mono ?_;rintro q G ⟨γ,δ,e,rfl,-,-,b⟩;rw[A,B];exact⟨γ,_,δ,rfl,b⟩
    clear η A B;by_cases o:α=f
    ·have Á:∀a,(Op.equalIn 10000 23 (.agg (ak α).toArray) (.agg (ak f).toArray)).run prog a=.ok true a:=λa=>by rw[Θ.out a,decide_eq_true o]
     by_cases m:β=r1
     ·have Â:∀a,(Op.equalIn 10000 23 (.agg (ak β).toArray) (.agg (ak r1).toArray)).run prog a=.ok true a:=λa=>by rw[Ξ.out a,decide_eq_true m]
      (have t:K=0:=by rw[r.out,if_pos ⟨o,m⟩]);clear o m
      go_wp2_with (first
       |(go_at_call 111;refine(L _).mono ?_;rintro q u ⟨rfl,c⟩;have v:=AA<|aL.jd M c;have w:=AA<|aL.jd N c;have y:=aQ H c;clear c)
       |(rw[bA 23 13];refine dB (aL.new u _ _) g.size g.zero g.one ?_;intro O h i;have d:=dx i;have j:=AA<|aL.jd v d;have l:=AA<|aL.jd w d;have n:=aQ y d;replace h:=AA h;clear i d)
       |(rw[aF 62];refine aM j p.size AB ?_)
       |(go_at_call 230;refine(Γ _ n).mono ?_;rintro q e ⟨γ,ρ,δ,rfl,A⟩;have ε:=AA<|aL.jd j A;have P:=AA<|aL.jd l A;have ζ:=aQ n A;clear A)
       |(rw[bA 23 14];refine dB (heap_alloc2_old e _ _) E.size E.zero E.one ?_;intro η C G;have B:=((Below.aJ e _).alloc aZ _).trans (au.aW G (AJ _) (by simp;omega));have θ:=AA<|aL.jd ε B;have ι:=AA<|aL.jd P B;have Q:=aQ ζ B;have κ:Hid (aL η (e.heap.size+1) 23 bF):=aL.kept (heap_alloc2_new e _ _) G ah;have I:=AA P.lt;replace C:=AA C;clear G B)
       |(rw[bA 23 15];refine dB κ F.size F.zero F.one ?_;intro Φ J b;have μ:=AA<|θ.kept b (aC I);have ν:=AA<|ι.kept b (aC I);have ξ:=AA<|C.kept b ah;have ο:=AA<|Q.trans (au.aW b (aC I) Q.size);replace J:=AA J;clear b)
       |(rw[aF 69];refine aM ξ E.size AB ?_)
       |(rw[aF 70];refine aM μ p.size AB ?_)
       |(rw[aF 73];refine aM J F.size AB ?_)
       |(rw[aF 74];refine aM ν z.size AB ?_))
      go_ret;exact⟨by rw[t];rfl,ο⟩
     ·have Â:∀a,(Op.equalIn 10000 23 (.agg (ak β).toArray) (.agg (ak r1).toArray)).run prog a=.ok false a:=λa=>by rw[Ξ.out a,decide_eq_false m]
      (have t:K=171:=by rw[r.out,if_neg (λk=>m k.2)]);clear o m
      go_wp2_with (first
       |(go_at_call 111;refine(L _).mono ?_;rintro q u ⟨rfl,c⟩;have v:=AA<|aL.jd M c;have w:=AA<|aL.jd N c;have y:=aQ H c;clear c)
       |(rw[bA 23 13];refine dB (aL.new u _ _) g.size g.zero g.one ?_;intro O h i;have d:=dx i;have j:=AA<|aL.jd v d;have l:=AA<|aL.jd w d;have n:=aQ y d;replace h:=AA h;clear i d)
       |(rw[aF 62];refine aM j p.size AB ?_)
       |(go_at_call 230;refine(Γ _ n).mono ?_;rintro q e ⟨γ,ρ,δ,rfl,A⟩;have ε:=AA<|aL.jd j A;have P:=AA<|aL.jd l A;have ζ:=aQ n A;clear A)
       |(rw[bA 23 14];refine dB (heap_alloc2_old e _ _) E.size E.zero E.one ?_;intro η C G;have B:=((Below.aJ e _).alloc aZ _).trans (au.aW G (AJ _) (by simp;omega));have θ:=AA<|aL.jd ε B;have ι:=AA<|aL.jd P B;have Q:=aQ ζ B;have κ:Hid (aL η (e.heap.size+1) 23 bF):=aL.kept (heap_alloc2_new e _ _) G ah;have I:=AA P.lt;replace C:=AA C;clear G B)
       |(rw[bA 23 15];refine dB κ F.size F.zero F.one ?_;intro Φ J b;have μ:=AA<|θ.kept b (aC I);have ν:=AA<|ι.kept b (aC I);have ξ:=AA<|C.kept b ah;have ο:=AA<|Q.trans (au.aW b (aC I) Q.size);replace J:=AA J;clear b)
       |(rw[aF 69];refine aM ξ E.size AB ?_)
       |(rw[aF 70];refine aM μ p.size AB ?_)
       |(rw[aF 73];refine aM J F.size AB ?_)
       |(rw[aF 74];refine aM ν z.size AB ?_))
      go_ret;exact⟨by rw[t];rfl,ο⟩
    ·have Á:∀a,(Op.equalIn 10000 23 (.agg (ak α).toArray) (.agg (ak f).toArray)).run prog a=.ok false a:=λa=>by rw[Θ.out a,decide_eq_false o]
     (have t:K=171:=by rw[r.out,if_neg (λk=>o k.1)]);clear o
     go_wp2_with (first
      |(go_at_call 111;refine(L _).mono ?_;rintro q u ⟨rfl,c⟩;have v:=AA<|aL.jd M c;have w:=AA<|aL.jd N c;have y:=aQ H c;clear c)
      |(rw[bA 23 13];refine dB (aL.new u _ _) g.size g.zero g.one ?_;intro O h i;have d:=dx i;have j:=AA<|aL.jd v d;have l:=AA<|aL.jd w d;have n:=aQ y d;replace h:=AA h;clear i d)
      |(rw[aF 62];refine aM j p.size AB ?_)
      |(go_at_call 230;refine(Γ _ n).mono ?_;rintro q e ⟨γ,ρ,δ,rfl,A⟩;have ε:=AA<|aL.jd j A;have P:=AA<|aL.jd l A;have ζ:=aQ n A;clear A)
      |(rw[bA 23 14];refine dB (heap_alloc2_old e _ _) E.size E.zero E.one ?_;intro η C G;have B:=((Below.aJ e _).alloc aZ _).trans (au.aW G (AJ _) (by simp;omega));have θ:=AA<|aL.jd ε B;have ι:=AA<|aL.jd P B;have Q:=aQ ζ B;have κ:Hid (aL η (e.heap.size+1) 23 bF):=aL.kept (heap_alloc2_new e _ _) G ah;have I:=AA P.lt;replace C:=AA C;clear G B)
      |(rw[bA 23 15];refine dB κ F.size F.zero F.one ?_;intro Φ J b;have μ:=AA<|θ.kept b (aC I);have ν:=AA<|ι.kept b (aC I);have ξ:=AA<|C.kept b ah;have ο:=AA<|Q.trans (au.aW b (aC I) Q.size);replace J:=AA J;clear b)
      |(rw[aF 69];refine aM ξ E.size AB ?_)
      |(rw[aF 70];refine aM μ p.size AB ?_)
      |(rw[aF 73];refine aM J F.size AB ?_)
      |(rw[aF 74];refine aM ν z.size AB ?_))
     go_ret;exact⟨by rw[t];rfl,ο⟩
 ·rw[if_pos V]at r
  subst r;have ω:((S:Int)==(D:Int))=false:=beq_eq_false_iff_ne.2 ah;have b:((D:Int)==(S:Int))=false:=beq_eq_false_iff_ne.2 ah;(have Δ:¬S=D:=λq=>V q.symm);have b:=V;clear σ T hs h0 R υ Z φ V;(go_enter Ba,ntmps191);go_wp2_with fail;change Calls _ _ _ ((a.alloc (.cells (ak f).toArray 23)).alloc (.cells (ak r1).toArray 23)) _;rw[<-U.out];clear U;refine(τ _).mono ?_;rintro q Ψ ⟨W,rfl,X,Y⟩;rw[ψ.out]at X;obtain⟨Ω,À,rfl,-⟩:=Own.reads X;have H:=aQ χ Y;clear X Y;go_wp2_with fail;go_ret;exact⟨rfl,H⟩
theorem IB(a e b:Int)(k:a < 9223372036854775808)(c d:aj)(h0:c.length=32)(l:d.length=32)(f:List aj)(g:Option Addr)(h j:Nat)(i:World)(m:j6 i g h f):
  bq 191 #[.int .i64 a,.int .i64 e,.int .i64 b,.agg (ak c).toArray,.agg (ak d).toArray,.slice g h j] i (.int .i64 (j5 a e b c d f)):=by
 cases hj:gV e b with
 | false=>
  rw[show j5 a e b c d f=60 from if_pos hj];exact IA a e b hj c d g h j i
 | true=>
  have e:=hj;simp only[gV,Bool.and_eq_true,decide_eq_true_eq]at e;obtain⟨n,rfl⟩:=Int.eq_ofNat_of_zero_le e.1.1;obtain⟨z,rfl⟩:=Int.eq_ofNat_of_zero_le (show 0<=b by omega);exact Kn a k n z ah ah c d h0 l f g h j i m
