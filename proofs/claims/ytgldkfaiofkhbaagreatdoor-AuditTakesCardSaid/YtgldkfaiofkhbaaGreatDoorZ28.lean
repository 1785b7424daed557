import Derived.Test.YtgldkfaiofkhbaaGreatDoorZ25
import Derived.Test.YtgldkfaiofkhbaaGreatDoorZ27
import Derived.Test.YtgldkfaiofkhbaaGreatDoorZ22
namespace Go.Proofs.YtgldkfaiofkhbaaGreatDoor
open Go Go.RowKit Go.Proofs.Tryz
set_option maxRecDepth 100000
set_option maxHeartbeats 8000000
theorem O1(b:bE)(a:aj):eZ (eF b a)=iU a:=by
 unfold eZ eF;rw[List.take_append_of_le_length (by rw[jI];exact Nat.le_refl _),List.take_of_length_le (by rw[jI];exact Nat.le_refl _)]
theorem Cz{a:List aj}(b:bN eZ a):bK eZ a=some a:=by
 (have c:=b.imp λd=>qP d);cases hr:bK eZ a with
 | none=>exact absurd c (rO hr)
 | some a=>
  obtain⟨a,c⟩:=jU hr;rw[vV a b c]
theorem PW{a b:List aj}(c:bN eZ b)(d:b.Perm a):bK eZ a=some b:=by
 have e:=(d.pairwise_iff (λ{_ _} b=>b.symm)).1 (c.imp λb=>qP b);cases h:bK eZ a with
 | none=>exact absurd e (rO h)
 | some a=>
  obtain⟨a,b⟩:=jU h;rw[vV c a (d.trans b.symm)]
theorem J3{a:bE}(c:gH a=true){b:aj}(d:lT b.length=true):iM a b=(eF a b,0):=by unfold iM;rw[if_pos d,if_pos c]
structure SD(h:bE)(keys:List aj)(i:Nat)(S:List aj):Prop where
 strict:bN eZ S
 perm:S.Perm ((keys.take i).map (eF h))
theorem SD.len{c:bE}{a b:List aj}{i:Nat}(d:SD c a i b)(e:i<=a.length):b.length=i:=by rw[d.perm.length_eq,List.length_map,List.length_take];omega
theorem SD.nil(a:bE)(b:List aj):SD a b 0 []:=⟨List.Pairwise.nil,by simp⟩
theorem FR{a:List aj}(b:j4 a=true){i j:Nat}{c d:aj}(e:i < j)(f:a[i]?=some c)(g:a[j]?=some d):iU c≠iU d:=by
 unfold j4 at b;rw[decide_eq_true_eq,List.pairwise_map]at b;obtain⟨a,rfl⟩:=AU.1 f;obtain⟨c,rfl⟩:=AU.1 g;exact List.pairwise_iff_getElem.1 b i j a c e
theorem M7{a:List aj}{c:aj}(d:∀b∈a,eZ b≠eZ c):kQ a c=a:=by
 unfold kQ;rw[List.filter_eq_self];intro b a;simpa using d b a
theorem SD.step{a:bE}{c d:List aj}{i:Nat}{q:aj}(f:SD a c i d)(m:gH a=true)(e:tq c=true)(o:j4 c=true)(h:c[i]?=some q)(b:c.length<=16):
  ∃b,JA a d q=(some b,0)/\SD a c (i+1) b/\JA a b q=(some b,0):=by
 have g:=(AU.1 h).1
 have n:=List.all_eq_true.1 e q (Ab h)
 have l:∀e∈d,eZ e≠eZ (eF a q):=λe k=>by
  obtain⟨z,p,rfl⟩:=Aq.1 (f.perm.mem_iff.1 k);obtain⟨j,r,g⟩:=List.getElem_of_mem p;rw[List.length_take]at r;rw[List.getElem_take]at g;rw[O1,O1];exact FR o (i:=j) (j:=i) ah (by rw[List.getElem?_eq_getElem ah,g]) h
 have o:=M7 l
 have r:=f.len ah
 have s:=List.pairwise_cons.2 ⟨λe k=>(l e k).symm,f.strict.imp λp=>qP p⟩
 obtain⟨b,p⟩:∃b,bK eZ (eF a q :: d)=some b:=by
  cases hx:bK eZ (eF a q :: d)with
  | none=>exact absurd s (rO hx)
  | some b=>exact⟨b,rfl⟩
 obtain⟨l,k⟩:=jU p
 have s:b.length=i+1:=by rw[k.length_eq,List.length_cons,r]
 have r:b.Perm ((c.take (i+1)).map (eF a)):=by
  rw[List.take_add_one,h,List.map_append];refine k.trans ?_;refine((List.Perm.cons _ f.perm).trans ?_);show(eF a q :: (c.take i).map (eF a)).Perm ((c.take i).map (eF a)++[eF a q]);exact(List.perm_append_singleton _ _).symm
 refine⟨b,?_,⟨l,r⟩,?_⟩
 ·unfold JA
  rw[J3 m n,if_pos rfl,Cz f.strict];show FU d (eF a q)=_;unfold FU;rw[o,if_neg ah,p]
 ·unfold JA
  rw[J3 m n,if_pos rfl,Cz l];show FU b (eF a q)=_
  have c:(kQ b (eF a q)).Perm d:=by
   have g:=k.filter (λe=>!decide (eZ e=eZ (eF a q)))
   have b:(eF a q :: d).filter (λe=>!decide (eZ e=eZ (eF a q)))=d:=by
    rw[List.filter_cons_of_neg aZ];exact o
   rw[b]at g;exact g
  unfold FU;rw[if_neg (by rw[c.length_eq];omega),PW l (k.trans (List.Perm.cons _ c.symm))]
theorem QN{a:List aj}(f:∀(b:Nat) (d:aj),a[b]?=some d->∀(c:Nat) (e:aj),c < b->a[c]?=some e->iU d≠iU e):j4 a=true:=by
 unfold j4;rw[decide_eq_true_eq,List.pairwise_iff_getElem];intro b c d e g;rw[List.length_map]at d e;rw[List.getElem_map,List.getElem_map];exact λh=>f c a[c] (AV e) b a[b] g (AV d) h.symm
theorem DU{a:List aj}{b c:Nat}{d e:aj}(f:a[b]?=some d)(g:a[c]?=some e)(i:c < b)(j:iU d=iU e):j4 a=false:=by
 cases h:j4 a with
 | false=>rfl
 | true=>exact absurd j.symm (FR h i g f)
theorem O3{a:List aj}{c:Nat}{b:aj}(d:a[c]?=some b)(e:lT b.length=false):tq a=false:=by
 cases h:tq a with
 | false=>rfl
 | true=>
  have:=List.all_eq_true.1 h b (Ab d);rw[e]at this;cases this
theorem SC{c:List aj}(d:∀(b:Nat) (a:aj),c[b]?=some a->lT a.length=true):tq c=true:=
 List.all_eq_true.2 λa c=>by
  obtain⟨b,e,f⟩:=List.getElem_of_mem c;exact d b a (by rw[List.getElem?_eq_getElem e,f])
theorem P5{a:List aj}(b:a.length < 1\/64 < a.length):gB a=7:=by unfold gB;rw[if_pos b]
theorem Ke{a:List aj}(b:¬(a.length < 1\/64 < a.length))(c:tq a=false):gB a=160:=by unfold gB;rw[if_neg b,if_neg (by rw[c];decide)]
theorem ML{a:List aj}(b:¬(a.length < 1\/64 < a.length))(c:tq a=true)(d:j4 a=false):gB a=92:=by unfold gB;rw[if_neg b,if_pos c,if_neg (by rw[d];decide)]
theorem RB{a:List aj}(b:¬(a.length < 1\/64 < a.length))(c:tq a=true)(d:j4 a=true):gB a=0:=by unfold gB;rw[if_neg b,if_pos c,if_pos d]
theorem sO{a:List aj}{b:Nat}{c:aj}(d:a[b]?=some c):a.take (b+1)=a.take b++[c]:=by
 rw[List.take_add_one,d];rfl
theorem Qb{a:List aj}{b:Nat}{d c:aj}(e:a[b]?=some d)(f:iU d≠c):eY (a.take (b+1)) c=eY (a.take b) c:=by
 unfold eY;rw[sO e,List.find?_append,List.find?_cons_of_neg (by simpa using f)];simp
theorem EQ{a:List aj}{b:Nat}{c d:aj}(e:j4 a=true)(f:a[b]?=some c)(g:iU c=d):eY (a.take b) d=none:=by
 unfold eY;rw[List.find?_eq_none];intro h hx;obtain⟨c,i,d⟩:=List.getElem_of_mem hx;rw[List.length_take]at i;rw[List.getElem_take]at d;(have i:a[c]?=some h:=by rw[List.getElem?_eq_getElem ah,d]);have:=FR e (show c < b by omega) i f;simp only[decide_eq_true_eq];exact λa=>this (a.trans g.symm)
theorem RX{a:List aj}{c:Nat}{b d:aj}(g:j4 a=true)(e:a[c]?=some b)(f:iU b=d):eY (a.take (c+1)) d=some b:=by
 have a:=EQ g e f;unfold eY at a ⊢;rw[sO e,List.find?_append,a,List.find?_cons_of_pos (by simpa using f)];rfl
theorem RZ{keys:List aj}{j:Nat}(b:keys.length<=j)(a:aj):eY (keys.take j) a=eY keys a:=by rw[List.take_of_length_le b]
theorem RY{a:List aj}{b:Nat}{c d:aj}(e:eY (a.take b) d=some c):eY a d=some c:=by
 unfold eY at e ⊢
 conv=>lhs;rw[<-List.take_append_drop b a]
 rw[List.find?_append,e];rfl
theorem yR{g:World}{j:Option Addr}{i:List aj}{h:Nat}{b:aj}(l:∀a,av g a->gq a j i)(k:i[h]?=some b):∃c d e f,j=some ⟨c,d,none⟩/\(∀a,av g a->a.cell? ⟨c,d+h,none⟩=some (.slice e b.length f))/\b.length<=f/\(∀a,av g a->ax a 1 e b.length (ak b))/\(e=none->b.length=0/\f=0):=by
 have h0:0 < i.length:=aC ((AU.1 k).1);obtain⟨c,d,i,j,m⟩:=l g (Below.refl _ _) h0;obtain⟨e,f,g,l,n,o⟩:=m h b k;exact⟨c,d,e,f,i,λa b=>(b.cell (p:=⟨c,d+h,none⟩) j).trans g,l,λa b=>n.below b,o⟩
theorem Vl{a:Nat}(b:a < 1):lT a=false:=by unfold lT;simp;omega
theorem SE{a:Nat}(b:64 < a):lT a=false:=by unfold lT;simp;omega
theorem Vk{a:Nat}(b:¬a < 1)(c:¬64 < a):lT a=true:=by unfold lT;simp;omega
theorem Ki(i:List aj)(e:Nat)(ξ:i.length=e)(È:e<=1000)(ο:Option Addr)(É:Nat)(x:World)(ρ:gq x ο i)(σ:∀d∈i,d.length < 140737488355228):
  bq 46 #[.slice ο e É] x (.int .i64 (gB i)):=by
 have S:=AA<|λb (l:av x b)=>ρ.below l
 have T:=AA σ
 have s:=AA ξ
 obtain⟨B,y⟩:=aS (gB i)
 rw[y.out]
 have Ø:(e:Int)<=1000:=ah
 clear ρ σ ξ È
 by_cases C:e < 1\/64 < e
 ·have h:B=7:=y.out ▸ P5 (by rw[s.out];exact C)
  subst h;by_cases τ:e < 1
  ·have υ:(e:Int) < 1:=ah
   clear C τ;(go_enter func46,ntmps46);go_wp2_with fail;go_ret;exact⟨rfl,Below.refl _ _⟩
  ·have υ:¬((e:Int) < 1):=ah
   have Ê:(64:Int) < (e:Int):=ah;clear C τ;(go_enter func46,ntmps46);go_wp2_with fail;go_ret;exact⟨rfl,Below.refl _ _⟩
 have I:Hid (¬(i.length < 1\/64 < i.length)):=s.out ▸ C
 have υ:¬((e:Int) < 1):=ah
 have Ê:¬((64:Int) < (e:Int)):=ah
 clear C
 go_enter func46,ntmps46
 go_wp2_with fail
 go_loopw [3] (λn wr=>∃j:Nat,n=.int .i64 (j:Int)/\Hid (j<=e)/\Hid (∀(a:Nat) (d:aj),a < j->i[a]?=some d->lT d.length=true)/\Hid (av x wr)) (λn _=>e - (intOf n).toNat)
 case atStart=>exact⟨0,rfl,AX _,λa d D=>absurd D (CP _),Below.refl _ _⟩
 case round=>
  obtain⟨j,rfl,J,U,c⟩:=hrel;have φ:(j:Int)<=1000:=aC J;have χ:(0:Int)<=(j:Int):=ah;by_cases q:j < e
  ·have K:(j:Int) < (e:Int):=ah
   have z:=AA q;obtain⟨d,o⟩:∃d,Hid (i[j]?=some d):=⟨_,AV (s.out ▸ q)⟩;obtain⟨t,Ë,ψ,ω,V,u,-,-,-⟩:=yR S o;subst V;have E:=T d (Ab o);obtain⟨p,v⟩:=aS (d.length);rw[v.out]at E u;have W:=u wr c;have Ù:(p:Int)<=140737488355228:=ah;clear q u E;by_cases F:p < 1
   ·have Γ:(p:Int) < 1:=ah
    have h:B=160:=y.out ▸ Ke I (O3 o (by rw[v.out];exact Vl F));subst h;clear F;go_wp2_with fail;go_ret;exact⟨rfl,c⟩
   ·by_cases L:64 < p
    ·have Γ:¬((p:Int) < 1):=ah
     have Ì:(64:Int) < (p:Int):=ah;have h:B=160:=y.out ▸ Ke I (O3 o (by rw[v.out];exact SE L));subst h;clear F L;go_wp2_with fail;go_ret;exact⟨rfl,c⟩
    ·have Γ:¬((p:Int) < 1):=ah
     have Ì:¬((64:Int) < (p:Int)):=ah
     have Í:Hid (∀(a:Nat) (d:aj),a < j+1->i[a]?=some d->lT d.length=true):=λa m G hx=>by
      by_cases h:a < j
      ·exact U a m h hx
      ·obtain rfl:a=j:=ah
       rw[o.out]at hx;obtain rfl:=AL hx;rw[v.out];exact Vk F L
     clear F L;go_wp2_with fail;go_roundw
     case rel=>exact⟨j+1,by go_num,z,Í,c⟩
     case measure=>(have:=z.out;simp[intOf];omega)
  ·have K:¬((j:Int) < (e:Int)):=ah
   (have Δ:=AA<|SC λa d G=>U a d (dn ((AU.1 G).1) s) G);obtain⟨Ú,rfl⟩:=fB wr;have Θ:=c;clear q U c J;go_wp2_with fail
   go_loopw [4] (λn wr=>∃j:Nat,n=.int .i64 (j:Int)/\Hid (j<=e)/\Hid (∀(a:Nat) (r:aj),a < j->i[a]?=some r->∀(f:Nat) (t:aj),f < a->i[f]?=some t->iU r≠iU t)/\Hid (av x wr)) (λn _=>e - (intOf n).toNat)
   case atStart=>exact⟨0,rfl,AX _,λa d D=>absurd D (CP _),Θ⟩
   case round=>
    clear Θ φ χ K;obtain⟨k,rfl,J,M,c⟩:=hrel;have φ:(k:Int)<=1000:=aC J;have χ:(0:Int)<=(k:Int):=ah;by_cases q:k < e
    ·have K:(k:Int) < (e:Int):=ah
     have z:=AA q;obtain⟨d,o⟩:∃d,Hid (i[k]?=some d):=⟨_,AV (s.out ▸ q)⟩;obtain⟨t,Ë,ψ,ω,V,u,X,Y,Z⟩:=yR S o;subst V;(have E:=AA<|T d (Ab o));obtain⟨p,v⟩:=aS (d.length);rw[v.out]at E u X Y Z;obtain⟨N,O⟩:=aS (iU d);have Ξ:Hid (N.length=32):=O.out ▸ jI d
     have Φ:=AA<|λb l=>by
      have:=ny d p v ψ ω b (Y b l) X (aC E) Z;rw[O.out]at this;exact this
     have Ψ:=AA u;obtain⟨wc,rfl⟩:=fB wr;have Ω:=c;clear q u X Y Z c;go_wp2_with fail
     go_loopw [5] (λn wr=>∃f:Nat,n=.int .i64 (f:Int)/\Hid (f<=k)/\Hid (∀(a:Nat) (m:aj),a < f->i[a]?=some m->iU d≠iU m)/\Hid (av x wr)) (λn _=>k - (intOf n).toNat)
     case atStart=>exact⟨0,rfl,AX _,λa d D=>absurd D (CP _),Ω⟩
     case round=>
      clear Ω;obtain⟨f,rfl,À,α,c⟩:=hrel;have Û:(f:Int)<=1000:=aC À;have Ü:(0:Int)<=(f:Int):=ah;by_cases β:f < k
      ·have Î:(f:Int) < (k:Int):=ah
       have Ý:(f:Int) < (e:Int):=ah;have γ:=AA β;obtain⟨m,hx⟩:∃m,Hid (i[f]?=some m):=⟨_,AV (by rw[s.out];have:=z.out;omega)⟩;obtain⟨Þ,ß,Ï,Ð,Ñ,δ,ε,ζ,η⟩:=yR S hx;(injection Ñ with θ);(injection θ with θ Ò);subst θ Ò;(have Á:=AA<|T m (Ab hx));obtain⟨Ó,Â⟩:=aS (m.length);rw[Â.out]at Á δ ε ζ η;obtain⟨P,Q⟩:=aS (iU m);have Ã:Hid (P.length=32):=Q.out ▸ jI m
       have Ä:=AA<|λb l=>by
        have:=ny m Ó Â Ï Ð b (ζ b l) ε (aC Á) η;rw[Q.out]at this;exact this
       have Å:=AA δ;clear β δ ε ζ η;go_upto_region 14 with fail;by_cases hd:N=P
       ·have ι:Hid (∀b,(binOp .eql 23 (.agg (ak N).toArray) (.agg (ak P).toArray)).run prog b=.ok (.bool true) b):=λb=>by rw[rX _ _ Ξ.out Ã.out,decide_eq_true hd]
        have h:B=92:=y.out ▸ ML I Δ (DU o hx γ (by rw[O.out,Q.out];exact hd));subst h;clear hd;refine cB (aA wr) (aA.jD ((Below.refl _ _).drew)) ?_;(iterate 3 refine aG ?_);refine bC (λb g=>Ψ b (c.trans (g.below.mono c.size))) ?_;refine cZ Az (λb g=>((Φ b (c.trans (g.below.mono c.size))).mono λh κ ⟨w,l⟩=>⟨w,g.next l⟩)) ?_;(iterate 3 refine aG ?_);refine bC (λb g=>Å b (c.trans (g.below.mono c.size))) ?_;refine cZ Az (λb g=>((Ä b (c.trans (g.below.mono c.size))).mono λh κ ⟨w,l⟩=>⟨w,g.next l⟩)) ?_;refine jr (λb g=>iN rfl rfl rfl lJ (ι b)) ?_;refine bR ?_;intro Ô H;(have μ:=AA<|c.trans (H.below.mono c.size));clear H;go_wp2_with fail;go_ret;exact⟨rfl,μ⟩
       ·have ι:Hid (∀b,(binOp .eql 23 (.agg (ak N).toArray) (.agg (ak P).toArray)).run prog b=.ok (.bool false) b):=λb=>by rw[rX _ _ Ξ.out Ã.out,decide_eq_false hd]
        have Õ:Hid (∀(a:Nat) (R:aj),a < f+1->i[a]?=some R->iU d≠iU R):=λa R G ν=>by
         by_cases h:a < f
         ·exact α a R h ν
         ·obtain rfl:a=f:=ah
          rw[hx.out]at ν;obtain rfl:=AL ν;rw[O.out,Q.out];exact hd
        clear hd;refine cB (aA wr) (aA.jD ((Below.refl _ _).drew)) ?_;(iterate 3 refine aG ?_);refine bC (λb g=>Ψ b (c.trans (g.below.mono c.size))) ?_;refine cZ Az (λb g=>((Φ b (c.trans (g.below.mono c.size))).mono λh κ ⟨w,l⟩=>⟨w,g.next l⟩)) ?_;(iterate 3 refine aG ?_);refine bC (λb g=>Å b (c.trans (g.below.mono c.size))) ?_;refine cZ Az (λb g=>((Ä b (c.trans (g.below.mono c.size))).mono λh κ ⟨w,l⟩=>⟨w,g.next l⟩)) ?_;refine jr (λb g=>iN rfl rfl rfl lJ (ι b)) ?_;refine bR ?_;intro Ô H;(have μ:=AA<|c.trans (H.below.mono c.size));clear H;go_wp2_with fail;go_roundw
        case rel=>exact⟨f+1,by go_num,γ,Õ,μ⟩
        case measure=>(have:=γ.out;simp[intOf];omega)
      ·have Î:¬((f:Int) < (k:Int)):=ah
       have Ö:Hid (∀(a:Nat) (r:aj),a < k+1->i[a]?=some r->∀(f:Nat) (t:aj),f < a->i[f]?=some t->iU r≠iU t):=λa r G A Æ Ç hs W=>by
        by_cases h:a < k
        ·exact M a r h A Æ Ç hs W
        ·obtain rfl:a=k:=ah
         rw[o.out]at A;obtain rfl:=AL A;exact α Æ Ç (aC À) W
       clear β M α;go_wp2_with fail;go_roundw
       case rel=>exact⟨k+1,by go_num,z,Ö,c⟩
       case measure=>(have:=z.out;simp[intOf];omega)
    ·have K:¬((k:Int) < (e:Int)):=ah
     have h:B=0:=by
      rw[<-y.out];exact RB I Δ (QN λa r A=>M a r (dn ((AU.1 A).1) s) A)
     subst h;clear q M;go_wp2_with fail;go_ret;exact⟨rfl,c⟩
theorem F6(g:List aj)(p:Nat)(Û:g.length=p)(Ĉ:p<=1000)(Ü:j4 g=true)(Ý:Option Addr)(ĉ:Nat)(c:bE)(Ω:c.Ok)(h:List aj)(k:Nat)(K:Option Addr)(V:Nat)(l:Int)(y:World)(Þ:kD y K k h)(ß:gq y Ý g)(à:∀q∈g,q.length < 140737488355228):
  Calls prog 117 #[.slice Ý p ĉ,.agg (aN c (.slice K k V)).toArray,.int .i64 l] y (JB g c h l y):=by
 obtain⟨η,θ⟩:=aS (y.alloc (.cells (aN c (.slice K k V)).toArray 39))
 have L:Hid (fC η y.heap.size c K k V h):=θ.out ▸ fC.new Þ
 have ι:Hid (av y η):=θ.out ▸ Below.aJ y _
 have á:=θ.out
 have â:=AA (λF=>jR Ω F)
 have Ċ:=AA<|λa (t:av y a)=>ß.below t
 have ċ:=AA à
 have ã:=AA Û
 have ä:=AA Ü
 have W:=AA Ω
 have Į:(p:Int)<=1000:=ah
 clear θ Þ Ω ß à Û Ĉ Ü
 by_cases δ:l < 1
 ·have z:Hid (iq g c h l=(none,1)):=by show _=_;unfold iq;rw[if_pos (.inl δ)]
  (go_enter Bv,ntmps117);go_wp2_with fail;go_ret2;exact mQ z ι rfl
 by_cases À:16 < l
 ·have z:Hid (iq g c h l=(none,1)):=by show _=_;unfold iq;rw[if_pos (.inr À)]
  have Č:=eq_false δ;clear δ;(go_enter Bv,ntmps117);go_wp2_with fail;go_ret2;exact mQ z ι rfl
 have Č:=eq_false δ
 have į:=eq_false À
 have å:Hid (¬(l < 1\/16 < l)):=λc=>by rcases c with c | c<;>contradiction
 clear δ À
 obtain⟨č,G⟩:=aS ((lI c h).2)
 by_cases Á:¬(č=0)
 ·have z:Hid (iq g c h l=(none,8)):=by show _=_;unfold iq;rw[if_neg å.out,G.out,if_neg Á]
  go_enter Bv,ntmps117
  go_wp2_with (first
  |((rw[aF 22];refine aM L.blk (â _) Am ?_))
  |(go_at_call 187;refine(CJ c W h k K V η L.rA).mono ?_;rw[G.out];rintro e Â ⟨Ď,rfl,M,-⟩;have κ:=aQ ι M;have X:=AA (L.below M);have æ:=X.row W;clear M á))
  go_ret2;exact mQ z κ rfl
 have ď:=Decidable.not_not.1 Á
 subst ď
 clear Á
 obtain⟨ç,A,è⟩:k<=16/\∃A,Hid (bK eZ h=some A):=by
  rcases qM c h k L.rA.len with⟨-,e⟩ |⟨-,-,e⟩ |⟨-,-,e⟩ |⟨-,-,-,-,e⟩ |⟨-,-,Đ,A,đ,e⟩
  ·have:=G.out;rw[e]at this;cases this
  ·have:=G.out;rw[e]at this;cases this
  ·have:=G.out;rw[e]at this;cases this
  ·have:=G.out;rw[e]at this;cases this
  ·exact⟨Đ,A,đ⟩
 have é:=AA ç
 clear ç
 have μ:Hid (iq g c h l=L9 (nJ g c A) l):=by show _=_;unfold iq;rw[if_neg å.out,G.out,if_pos rfl,è.out];rfl
 obtain⟨ê,B⟩:=aS (nJ g c A)
 rw[B.out]at μ
 obtain⟨İ,Ē,ē,Ĕ,ĕ⟩:=bV O5
 go_enter Bv,ntmps117
 go_upto_region 8 with(first
  |((rw[aF 22];refine aM L.blk (â _) Am ?_))
  |(go_at_call 187;refine(CJ c W h k K V η L.rA).mono ?_;rw[G.out];rintro e Â ⟨Ď,rfl,M,-⟩;have κ:=aQ ι M;have X:=AA (L.below M);have æ:=X.row W;clear M á)
  |(go_at_call 188;refine(sj h k (aC é) K V Â X.rA).mono ?_;rintro e C ⟨Ė,rfl,Ã,Ä⟩;rw[è.out]at Ä ⊢;have ë:ji C Â.heap.size Ė k A:=Ä;obtain⟨ı,Ĵ,rfl,-,-,-,Y,-⟩:=ë.reads;replace Y:=AA Y;have Å:=aQ κ Ã;have ė:=AA (X.below Ã);clear Ã Ä ë κ X æ))
 have ì:Hid ((prog.info? 36).map (·.size)=some (aI c).length):=by show _=_;rw[bQ W.out];exact iT
 go_wp2_with fail
 go_loopw [12,13] (λÆ Ę wr=>∃(f H ν:Nat) (ξ:Option Addr) (n:List aj),Ę=.int .i64 (f:Int)/\Æ=.slice ξ H ν/\Hid (f<=k)/\Hid (H<=f)/\Hid (n.length=H)/\Hid (∀d∈n,d.length=32)/\Hid (World.ownsRow wr C.heap.size 23 32 (.slice ξ H ν) H (n.flatMap ak))/\Hid (ê=(nJ g c (A.drop f)).map (n++·))/\Hid (av C wr)) (λ_ F _=>k - (intOf F).toNat)
 case atStart=>exact⟨0,0,0,none,[],rfl,rfl,AX _,AJ _,rfl,(λd hd=>by cases hd),Aa _ _ _ _,(by show _=_;rw[<-B.out,List.drop_zero];simp),Below.refl _ _⟩
 case round=>
  obtain⟨f,H,ν,ξ,n,rfl,rfl,ę,Ç,N,í,I,O,m⟩:=hrel;have ĵ:(f:Int)<=16:=dn ę é;have Ķ:(0:Int)<=(f:Int):=ah;have i:=aQ Å m;by_cases ο:f < k
  ·have Ě:(f:Int) < (k:Int):=ah
   have ρ:=AA ο;obtain⟨w,hx⟩:∃w,Hid (A[f]?=some w):=⟨_,AV (by rw[Y.out.len];exact ο)⟩;have È:=AA (Y.all w (Ab hx));obtain⟨P,Q,ě,î,É⟩:=Y.at_ hx;subst ě;obtain⟨d,hd⟩:=aS (eZ w);have Z:Hid (d.length=32):=hd.out ▸ mU È;have ï:=AA<|λa (ε:av C a) (j:Nat) (u:Value) (Ê:(ak w)[j]?=some u)=>(ε.cell (p:=⟨P,Q+f*64+j,none⟩) î).trans (É j u Ê)
   have Ë:Hid (∀a,av C a->∀(j:Nat) (u:Value),(ak d)[j]?=some u->a.cell? ⟨P,Q+f*64+j,none⟩=some u):=λa ε j u Ê=>by
    have:=(ε.cell (p:=⟨P,Q+f*64+(0+j),none⟩) î).trans (É (0+j) u (uf (hd.out ▸ Ê)));rwa[Nat.zero_add]at this
   (have ð:=AA<|λa (ε:av C a)=>(ė.below ε).head);(have ñ:Hid ((prog.info? 57).map (·.size)=some (ak w).length):=by show _=_;rw[aB,È.out];exact kK);(have Ì:Hid ((prog.info? 23).map (·.size)=some (ak d).length):=by show _=_;rw[aB,Z.out];exact DY);(have Ĝ:Hid (∀F∈[ak d],F.length=32):=λF O=>by simp only[List.mem_singleton]at O;rw[O,aB,Z.out]);obtain⟨ķ,rfl⟩:=fB wr;have ò:=m;clear É ο m i;go_wp2_with fail
   go_loopw [12,14] (λÆ ĝ wr=>∃(j r c2:Nat) (α:Option Addr) (x:List aj),ĝ=.int .i64 (j:Int)/\Æ=.slice α r c2/\Hid (j<=p)/\Hid (x.length=r)/\Hid (∀d∈x,d.length=32)/\Hid (World.ownsRow wr C.heap.size 23 32 (.slice α r c2) r (x.flatMap ak))/\Hid ((eY (g.take j) d=none/\x=n)\/(∃q,eY (g.take j) d=some q/\fE c w q=0/\x=n++[d]))/\Hid (av C wr)) (λ_ F _=>p - (intOf F).toNat)
   case atStart=>exact⟨0,H,ν,ξ,n,rfl,rfl,AX _,N,í,I,.inl ⟨rfl,rfl⟩,ò⟩
   case round=>
    clear ò I;obtain⟨j,r,c2,α,x,rfl,rfl,Ğ,R,σ,I,S,m⟩:=hrel;have Ĺ:(j:Int)<=1000:=aC Ğ;have ĺ:(0:Int)<=(j:Int):=ah;have i:=aQ Å m;by_cases τ:j < p
    ·have J:(j:Int) < (p:Int):=ah
     have υ:=AA τ;obtain⟨q,ζ⟩:∃q,Hid (g[j]?=some q):=⟨_,AV (ã.out ▸ τ)⟩;obtain⟨Ļ,o,ó,ô,ğ,Í,φ,χ,ψ⟩:=yR Ċ ζ;subst ğ;(have õ:=AA<|ċ q (Ab ζ));obtain⟨ω,Î⟩:=aS (q.length);rw[Î.out]at õ Í φ χ ψ;obtain⟨Γ,Δ⟩:=aS (iU q);have ö:Hid (Γ.length=32):=Δ.out ▸ jI q
     have ø:=AA<|λa t=>by
      have:=ny q ω Î ó ô a (χ a t) φ (aC õ) ψ;rw[Δ.out]at this;exact this
     have Θ:=AA Í;have Ġ:=AA χ;have ġ:=AA φ;have Ģ:=AA ψ;clear τ Í φ χ ψ;go_upto_region 14 with fail;by_cases β:Γ=d
     ·have Ï:Hid (∀a,(binOp .neq 23 (.agg (ak Γ).toArray) (.agg (ak d).toArray)).run prog a=.ok (.bool false) a):=λa=>by rw[rT _ _ ö.out Z.out,decide_eq_true β];rfl
      (have ù:=AA<|Δ.trans β);have ģ:=AA (EQ ä ζ ù);have ú:=AA (RX ä ζ ù)
      have Ĥ:x=n:=by
       rcases S.out with⟨-,e⟩ |⟨û,e,-,-⟩
       ·exact e
       ·rw[ģ.out]at e;cases e
      subst Ĥ;(have ü:Hid (r<=f):=by show _<=_;have ý:=N.out;have Ð:=R.out;have:=Ç.out;omega);obtain⟨þ,Ñ⟩:=aS (fE c w q)
      have ÿ:=AA<|λa t=>by
       have:=IG c W w È q ω Î ó ô a (Ġ a t) ġ Ģ;rw[Ñ.out]at this;exact this
      clear β S;refine cB (aA wr) (aA.jD ((Below.refl _ _).drew)) ?_;(iterate 3 refine aG ?_);refine bC (λa b=>Θ a (i.trans (b.below.mono i.size))) ?_;refine cZ Az (λa b=>((ø a (i.trans (b.below.mono i.size))).mono λe Ò ⟨T,t⟩=>⟨T,b.next t⟩)) ?_;(iterate 4 refine aG ?_);refine dh P ((Q+f*64)) (ak d) (λa b=>Ë a (m.trans (b.below.mono m.size))) Ì AB ?_;refine jr (λa b=>iN rfl rfl rfl lJ (Ï a)) ?_;refine bR ?_;intro Ó D;have γ:=AA D.below;(have s:=AA<|m.trans (D.below.mono m.size));(have v:=AA<|i.trans (D.below.mono i.size));clear D;go_upto_region 15 with fail;by_cases Ô:þ=0
      ·subst Ô
       (have ĥ:Hid (r+1<=maxLen):=by show _<=_;have:=ü.out;unfold maxLen;omega);(have Ħ:Hid ((r+1)*32<=140737488355328):=by show _<=_;have:=ü.out;omega);refine cB (aA Ó) (aA.jD ((Below.refl _ _).drew)) ?_;refine aG ?_;refine dh y.heap.size (0) (aI c) (λa b=>ð a (s.trans (b.below.mono s.size))) ì AQ ?_;(iterate 3 refine aG ?_);refine dh P ((Q+f*64)) (ak w) (λa b=>ï a (s.trans (b.below.mono s.size))) ñ Af ?_;(iterate 3 refine aG ?_);refine bC (λa b=>Θ a (v.trans (b.below.mono v.size))) ?_;refine cZ BN (λa b=>((ÿ a (v.trans (b.below.mono v.size))).mono λe Ò ⟨T,t⟩=>⟨T,b.next t⟩)) ?_;refine aG ?_;refine bR ?_;intro U E;(have Õ:=AA<|γ.trans (E.below.mono γ.size));(have Ξ:=AA<|s.trans (E.below.mono s.size));(have Ā:=AA<|v.trans (E.below.mono v.size));clear E
       go_wp2_with (first
  |((rw[aF 74];refine bS (Ë U Ξ) Ì AB ?_))
  |(rw[bY 75];refine dL (o:=⟨some 75,_,_,_,_,_⟩) rfl 44 23 1 _ rfl 32 aR [ak d] Ac DY Oi rfl aR aR Ĝ rfl ?_;have ħ:Hid (ax (U.alloc (.cells ([ak d].flatten).toArray 23)) 32 (some ⟨U.heap.size,0,none⟩) 1 (ak d)):=EP U (by rw[aB,Z.out]);have Ĩ:Hid (av wr (U.alloc (.cells ([ak d].flatten).toArray 23))):=Õ.alloc Õ.size _;have Φ:=AA (dz I Ĩ);have ā:Hid (av C (U.alloc (.cells ([ak d].flatten).toArray 23))):=Ξ.alloc Ξ.size _;have Ă:=AA ā.size)
  |(rw[bY 76];refine iL (.tmp 69) (.tmp 75) Ac Ē ē Ĕ ĕ Φ ħ (λe=>by cases e) (aY _) ĥ Ħ Ă ?_;intro ļ Ľ Ö;have Ø:=Hl Ö;have ĩ:=AA<|Ö.below ā Ă (λω e=>R6 Φ ω e);obtain⟨Ī,ī,rfl,-⟩:=Own.reads Ø;have Ĭ:=AA Ø;clear Ö Ø))
       go_roundw
       case rel=>exact⟨j+1,r+1,ī,Ī,x++[d],by go_num,rfl,υ,(by show _=_;rw[List.length_append,R.out];rfl),(λû J=>by rcases Aj.1 J with J | J;exact σ û J;simp only[List.mem_singleton]at J;rw[J];exact Z),Ĭ,.inr ⟨q,ú,Ñ,rfl⟩,ĩ⟩
       case measure=>(have:=υ.out;simp[intOf];omega)
      ·have ľ:(þ !=0)=true:=by simpa using Ô
       (have z:Hid (iq g c h l=(none,161)):=by show _=_;rw[μ.out,<-B.out,Ol (B.out.trans O.out) hx.out (hd.out ▸ RY ú.out) (Ñ.out ▸ Ô)];rfl);refine cB (aA Ó) (aA.jD ((Below.refl _ _).drew)) ?_;refine aG ?_;refine dh y.heap.size (0) (aI c) (λa b=>ð a (s.trans (b.below.mono s.size))) ì AQ ?_;(iterate 3 refine aG ?_);refine dh P ((Q+f*64)) (ak w) (λa b=>ï a (s.trans (b.below.mono s.size))) ñ Af ?_;(iterate 3 refine aG ?_);refine bC (λa b=>Θ a (v.trans (b.below.mono v.size))) ?_;refine cZ BN (λa b=>((ÿ a (v.trans (b.below.mono v.size))).mono λe Ò ⟨T,t⟩=>⟨T,b.next t⟩)) ?_;refine aG ?_;refine bR ?_;intro U E;(have Õ:=AA<|γ.trans (E.below.mono γ.size));(have Ξ:=AA<|s.trans (E.below.mono s.size));(have Ā:=AA<|v.trans (E.below.mono v.size));clear E;go_wp2_with fail;go_ret2;exact mQ z Ā rfl
     ·have Ï:Hid (∀a,(binOp .neq 23 (.agg (ak Γ).toArray) (.agg (ak d).toArray)).run prog a=.ok (.bool true) a):=λa=>by rw[rT _ _ ö.out Z.out,decide_eq_false β];rfl
      have ĭ:Hid ((eY (g.take (j+1)) d=none/\x=n)\/(∃q,eY (g.take (j+1)) d=some q/\fE c w q=0/\x=n++[d])):=by
       show _\/_;rw[Qb ζ.out (λe=>β (Δ.out.symm.trans e))];exact S
      clear β S;refine cB (aA wr) (aA.jD ((Below.refl _ _).drew)) ?_;(iterate 3 refine aG ?_);refine bC (λa b=>Θ a (i.trans (b.below.mono i.size))) ?_;refine cZ Az (λa b=>((ø a (i.trans (b.below.mono i.size))).mono λe Ò ⟨T,t⟩=>⟨T,b.next t⟩)) ?_;(iterate 4 refine aG ?_);refine dh P ((Q+f*64)) (ak d) (λa b=>Ë a (m.trans (b.below.mono m.size))) Ì AB ?_;refine jr (λa b=>iN rfl rfl rfl lJ (Ï a)) ?_;refine bR ?_;intro Ó D;have γ:=AA D.below;(have s:=AA<|m.trans (D.below.mono m.size));(have v:=AA<|i.trans (D.below.mono i.size));clear D;have Φ:=AA (dz I (γ));go_wp2_with fail;go_roundw
      case rel=>exact⟨j+1,r,c2,α,x,by go_num,rfl,υ,R,σ,Φ,ĭ,s⟩
      case measure=>(have:=υ.out;simp[intOf];omega)
    ·have J:¬((j:Int) < (p:Int)):=ah
     have Ψ:=AA (RZ (keys:=g) (j:=j) (by rw[ã.out];omega) d);clear τ
     rcases S.out with⟨ă,rfl⟩ |⟨q,Ą,ą,rfl⟩
     ·have Ù:=AA<|B.out.symm.trans (JL (B.out.trans O.out) hx.out (by rw[hd.out,<-Ψ.out];exact ă))
      (have Ú:Hid (r<=f+1):=by show _<=_;have ý:=N.out;have Ð:=R.out;have:=Ç.out;omega);clear ă S Ψ;go_wp2_with fail;go_roundw
      case rel=>exact⟨f+1,r,c2,α,x,by go_num,rfl,ρ,Ú,R,σ,I,Ù,m⟩
      case measure=>(have:=ρ.out;simp[intOf];omega)
     ·have Ù:Hid (ê=(nJ g c (A.drop (f+1))).map (n++[d]++·)):=by
       have:=JK (B.trans O) hx (q:=q) (by rw[hd.out,<-Ψ.out];exact Ą) ą;rw[hd.out]at this;exact B.symm.trans this
      (have Ú:Hid (r<=f+1):=by show _<=_;have ý:=N.out;have Ð:=R.out;rw[List.length_append,List.length_singleton]at Ð;have:=Ç.out;omega);clear Ą ą S Ψ;go_wp2_with fail;go_roundw
      case rel=>exact⟨f+1,r,c2,α,n++[d],by go_num,rfl,ρ,Ú,R,σ,I,Ù,m⟩
      case measure=>(have:=ρ.out;simp[intOf];omega)
  ·have Ě:¬((f:Int) < (k:Int)):=ah
   (have Ć:=AA<|B.symm.trans (JM (B.trans O) (by rw[Y.out.len];omega)));clear ο;by_cases ć:(H:Int) < l
   ·have z:Hid (iq g c h l=(none,7)):=by show _=_;rw[μ.out,Ć.out];show(if _ then _ else _)=_;rw[if_pos (N.out ▸ ć)]
    go_wp2_with fail;go_ret2;exact mQ z i rfl
   ·have z:Hid (iq g c h l=(some n,0)):=by show _=_;rw[μ.out,Ć.out];show(if _ then _ else _)=_;rw[if_neg (N.out ▸ ć)]
    go_wp2_with fail;go_ret2;exact mQ z i ⟨í,by rw[N.out];exact cO I Å.size⟩
