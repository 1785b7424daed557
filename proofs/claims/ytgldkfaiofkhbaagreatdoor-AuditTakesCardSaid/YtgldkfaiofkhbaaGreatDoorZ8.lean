import Derived.Test.YtgldkfaiofkhbaaGreatDoorZ0
import Derived.StillTail
import Derived.Deep.Quiet
namespace Go.Proofs.YtgldkfaiofkhbaaGreatDoor
open Go Go.RowKit
section
variable {P:Program} {ops:Array Oper} {md:Region.Mode} {C:World->Prop}
def kY(P:Program)(md:Region.Mode)(ops:Array Oper)(C:World->Prop)(n:Nat)(L:Array Bool->Act->Prop):Nat->Array Bool->Act->Prop
 | 0,listed,a=>L listed a
 | f+1,listed,a=>Region.ready md ops listed≠[]/\∀i∈Region.ready md ops listed,i < n/\qOp P ops C i (kY P md ops C n L f (listed.setIfInBounds i true)) a
theorem Dl{f g:Nat}{e:Array Bool->Act->Prop}{Q':Exit->Act->World->Prop}(h:∀a b c,C c->e a b->wpAny P md ops Q' g a b c):
  ∀(d:Nat) (a:Array Bool) (b:Act) (c:World),C c->kY P md ops C f e d a b->wpAny P md ops Q' (d+g) a b c
 | 0,a,b,c,f,e=>by rw[Nat.zero_add];exact h _ _ _ f e
 | d+1,a,b,c,f,e=>by
  rw[show d+1+g=(d+g)+1 by omega];exact⟨λh0=>absurd h0 e.1,λa b=>wpOp_of_qOp f (λc i j k=>Dl h d _ c i j k) (e.2 a b).2⟩
theorem NA{b c:Nat}{k:Oper}{f:Value}{e:Array Bool->Act->Prop}(t:ops[c]?=some k)(v:∀(a:Nat) (d:Oper) l m,ops[a]?=some d->d.op≠.select l m)
  (hs:Region.sinkB md ops b=true)(w:Region.chainB md ops b=true)(x:b < ops.size)(y:c < b)
  (z:∀d g,e d g->∀a∈Region.ready md ops d,b<=a)(p:Nat):
  ∀(d:Array Bool) (g:Act),HeadInv md ops b d->
   (∀a h,ops[a]?=some h->a≠c->d.getD a true=false->(∀i∈h.after,Region.binds md i=true->i.on≠c)->k.apart ops h=true)->
   c∈Region.ready md ops d->YieldsIn P ops C k f g->
   kY P md ops C b e p (d.setIfInBounds c true) (g.put k.dst f)->kY P md ops C b e (p+1) d g:=by
 induction p with
 | zero=>
  intro d g q _ e r n;have s:=(mem_ready.1 e).1;(have o:=λa b=>Nat.lt_of_not_le λj=>absurd b (tail_waits hs w x q _ c rfl y s a j));refine⟨λj=>(by rw[j]at e;cases e),λa b=>⟨o a b,?_⟩⟩;by_cases f:a=c
  ·subst f
   exact r.qOp t n
  ·have u:=z _ _ n a (ready_mono b f)
   have z:=o a b;omega
 | succ p A=>
  intro d g q p e r n;have s:=(mem_ready.1 e).1;(have o:=λa b=>Nat.lt_of_not_le λj=>absurd b (tail_waits hs w x q _ c rfl y s a j));refine⟨λj=>(by rw[j]at e;cases e),λa b=>⟨o a b,?_⟩⟩;by_cases f:a=c
  ·subst f
   exact r.qOp t n
  ·obtain⟨j,h,g,w⟩:=mem_ready.1 b
   have x:∀i∈h.after,Region.binds md i=true->i.on≠c:=λi y B D=>by
    have u:=w i y B;rw[D,getD_both s]at u;cases u
   have z:=qOp_put g (p a h g f j x) (λl m=>v c k l m t) (λl m=>v a h l m g) r (n.2 a (ready_mono b f)).2;refine qOp_mono (λn c=>A (d.setIfInBounds a true) n (q.set b (o a b)) (λg h i k l m=>?_) (ready_mono e (Ne.symm f)) c.1 ?_) z
   ·by_cases b:a=g
    ·subst b
     exact p a h i k j m
    ·rw[getD_set_ne true b]at l
     exact p g h i k l m
   ·rw[Array.setIfInBounds_comm _ _ f]
    exact c.2
theorem KX{c g:Nat}{i:Act->Prop}(l:Region.noSelect ops=true)(hs:Region.sinkB md ops c=true)(m:Region.chainB md ops c=true)(n:c < ops.size):
  ∀(a:List Oper) (b:Nat) (d:Array Bool) (e:Act),(∀f,f < a.length->a[f]?=ops[b+f]?)->b+a.length=c->HeadInv md ops c d->
  Region.lexHead md ops g a.length b d=true->wpQuiet P ops C i a e->
  kY P md ops C c (λh j=>Region.seqB md ops g c h=true/\i j) a.length d e
 | [],b,d,e,_,j,_,h,k=>by
  (obtain rfl:b=c:=by simpa using j);exact⟨by simpa[Region.lexHead]using h,k⟩
 | p :: a,b,d,e,c,j,o,h,k=>by
  (have h0:ops[b]?=some p:=by simpa using(c 0 aZ).symm);simp only[List.length_cons,Region.lexHead,Bool.and_eq_true]at h;obtain⟨⟨p,q⟩,r⟩:=h;simp only[List.length_cons]at j;(have h:b∈Region.ready md ops d:=by simpa using p);(have j:qOp P ops C b (wpQuiet P ops C i a) e:=by unfold qOp;simp only[h0];exact k);obtain⟨p,i,k⟩:=yieldsIn_of_qOp h0 j
  exact NA h0 (Region.noSelect_spec l) hs m n ah (λ_ _ j=>seqB_ready j.1) a.length d e o (Region.free_spec h0 q) h i
   (KX l hs m n a (b+1) _ _ (λf d=>by have:=c (f+1) (by simp;omega);simpa[Nat.add_assoc,Nat.add_comm 1 f]using this) ah (o.set h ah) r k)
theorem pq{j:Nat}{e:Exit->Act->World->Prop}{h:Act}{c:World}{a:List Oper}(b:Nat)(C:World->Prop)(n:P.follows .mixedOrders=true)(f:Region.lexTailB .any a.toArray b=true)(o:C {c with drawn:=c.drawn+1})
  (p:wpQuiet P a.toArray C (λi=>∀d,C d->wpList P a.toArray e (a.drop b) i d) (a.take b) h):(Code.region j a.toArray true).wp P e h c:=by
 simp only[Region.lexTailB,Bool.and_eq_true,decide_eq_true_eq]at f
 obtain⟨⟨⟨⟨q,j⟩,hs⟩,r⟩,s⟩:=f
 have f:b < a.length:=by simpa using j
 have f:(a.take b).length=b:=by simp;omega
 have k:(a.drop b).length=a.toArray.size - b:=by simp
 have t:HeadInv .any a.toArray b (Array.replicate a.toArray.size false):=
  ⟨by simp,λl u _ m=>(by rw[getD_replicate_false]at m;cases m),λv _ u=>getD_in (by simpa using u) (getD_replicate_false _ _)⟩
 have u:=KX (md:=.any) (g:=a.toArray.size - b) q hs r j (a.take b) 0 _ h (λl m=>by
  rw[f]at m
  simp[m]) (by simpa using f) t (by rw[f];exact s) p
 refine wp_region_any n ?_
 have:=Dl (Q':=e) (g:=a.toArray.size - b) (λj i d m h=>by
  have:=wpAny_of_seq (md:=.any) (Q':=e) (a.drop b) b j i d (λl=>by simp[List.getElem?_drop]) (k ▸ h.1) (h.2 d m)
  rwa[k]at this) _ _ _ {c with drawn:=c.drawn+1} o u
 rw[f,show b+(a.toArray.size - b)=a.toArray.size by omega]at this
 exact this
theorem iA{h:Nat}{f:Exit->Act->World->Prop}{g:Act}{d:World}{a:List Oper}(b:Nat)(i:P.follows .mixedOrders=true)(j:Region.lexTailB .any a.toArray b=true)
  (k:wpQuiet P a.toArray (λc=>∃e,c=d.drewN e) (λl=>∀c,(∃e,c=d.drewN e)->wpList P a.toArray f (a.drop b) l c) (a.take b) g):(Code.region h a.toArray true).wp P f g d:=
 pq b _ i j ⟨1,rfl⟩ k
theorem lu{P:Program}{f:FuncId}{g:Array Value}{b:World}{c d:Nat}{h:Value}
  (i:Calls P f g (b.drewN (c+d)) λe j=>e=.returned h/\∃a,j=(b.drewN (c+d)).drewN a):Calls P f g (b.drewN (c+d)) λe k=>e=.returned h/\∃a,k=b.drewN (c+a):=
 i.mono λ_ _ ⟨b,a,c⟩=>⟨b,d+a,by rw[c,World.drewN_drewN,Nat.add_assoc]⟩
end
