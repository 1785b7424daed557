import Derived.Test.YtgldkfaiofkhbaaGreatDoorZ3
import Derived.RegionTactic
import Derived.OwnWalk
namespace Go.Proofs.YtgldkfaiofkhbaaGreatDoor
open Go Go.RowKit
structure rC(w:World)(base:Nat)(e:TypeId)(size:Nat)(v:Value)(n m:Nat)(xs news:List Value)(v':Value)(w':World):Prop where
 own:w'.ownsRow base e size v' (n+m) (xs++news)
 grow:w.grownBy w' v.ownBlock
 at_:v'.ownBlock=v.ownBlock\/v'.ownBlock=some w.heap.size
 oI:v'=.slice none 0 0↔v=.slice none 0 0/\m=0
section
variable {P:Program} (w:World)
theorem EH(base:Nat)(b f e:TypeId)(a:TypeInfo)(z:Value)(size g:Nat)(k:P.underlying b=some (.slice e))(l:P.info? e=some a)(r:a.zero=some z)
  (s:a.size=size)(t:a.bytes=g)(x:z.cells.size=size)(o:0 < size)
  (v:Value)(n:Nat)(xs:List Value)(h:w.ownsRow base e size v n xs)
  (c:Option Addr)(m i:Nat)(news:List Value)(d:ax w size c m news)(j:c=none->m=0/\i=0)(y:∀u∈news,u.oneCell'=true)
  (A:n+m<=maxLen)(B:(n+m)*g<=140737488355328)(C:base<=w.heap.size):
  ∃v' w',(Builtin.append_ #[b,b] f #[v,.slice c m i]).run P w=.ok v' w'/\rC w base e size v n m xs news v' w':=by
 cases c with
 | none=>
  obtain⟨rfl,rfl⟩:=j rfl;obtain rfl:news=[]:=Ap (by simpa using d.1);exact⟨v,w,run_append_owned_none (P:=P) (w:=w) base b f e a size k l v n xs h,⟨by simpa using h,World.grownBy.refl w _,.inl rfl,by simp⟩⟩
 | some p=>
  have D:∀c u,news[c]?=some u->w.cell? (p.add c)=some u:=by
   intro c u q
   rcases Nat.eq_zero_or_pos m with h0 | h0
   ·subst h0
    obtain rfl:news=[]:=Ap (by simpa using d.1);simp at q
   ·obtain⟨F,G,j,_,E⟩:=d.2 (Nat.mul_pos h0 o)
    (injection j with j);subst j;rw[eD];exact E c u q
  obtain⟨v',w',c,j,q,E,F⟩:=run_append_own_at (P:=P) w base b f e a z size g k l r s t x o v n xs h p m i news d.1 D y A B C;exact⟨v',w',c,⟨j,q,F,E⟩⟩
theorem gW{o:Oper}{b:Act}{K:Act->World->Prop}{i:Exit->Act->World->Prop}(d h:Operand)(c:TypeId)
  (j:o.op=.call {callee:=.builtin .append,args:=#[d,h],argTypes:=#[c,c]})
  (base:Nat)(e:TypeId)(a:TypeInfo)(z:Value)(size f:Nat)(k:P.underlying c=some (.slice e))(l:P.info? e=some a)(p:a.zero=some z)
  (q:a.size=size)(r:a.bytes=f)(s:z.cells.size=size)(t:0 < size)
  (v:Value)(n:Nat)(xs:List Value)(hs:b.eval d=v)(x:w.ownsRow base e size v n xs)
  (d:Option Addr)(m g:Nat)(news:List Value)(hx:b.eval h=.slice d m g)(y:ax w size d m news)(A:d=none->m=0/\g=0)(B:∀u∈news,u.oneCell'=true)
  (h:n+m<=maxLen)(C:(n+m)*f<=140737488355328)(D:base<=w.heap.size)
  (E:∀v' w',rC w base e size v n m xs news v' w'->K (b.put o.dst v') w'):o.wp P b w K i:=by
 obtain⟨v',w',b,i⟩:=EH (P:=P) w base c o.type e a z size f k l p q r s t v n xs x d m g news y A B h C D
 unfold Oper.wp execOp
 simp only[j,resolve,invoke,builtin,Sem.run_bind,Sem.run_pure,Result.andThen_ok,List.map_toArray,List.map_cons,List.map_nil,hs,hx,b]
 exact E v' w' i
theorem dD{j:Array Oper}{rest:List Oper}{o:Oper}{b:Act}{k:Exit->Act->World->Prop}(l:o.guard=none)(f g:Operand)(c:TypeId)
  (p:o.op=.call {callee:=.builtin .append,args:=#[f,g],argTypes:=#[c,c]})
  (base:Nat)(e:TypeId)(a:TypeInfo)(z:Value)(size h:Nat)(q:P.underlying c=some (.slice e))(r:P.info? e=some a)(s:a.zero=some z)
  (t:a.size=size)(x:a.bytes=h)(y:z.cells.size=size)(A:0 < size)
  (v:Value)(n:Nat)(xs:List Value)(hs:b.eval f=v)(B:w.ownsRow base e size v n xs)
  (d:Option Addr)(m i:Nat)(news:List Value)(hx:b.eval g=.slice d m i)(C:ax w size d m news)(D:d=none->m=0/\i=0)(E:∀u∈news,u.oneCell'=true)
  (F:n+m<=maxLen)(G:(n+m)*h<=140737488355328)(H:base<=w.heap.size)
  (I:∀v' w',rC w base e size v n m xs news v' w'->wpList P j k rest (b.put o.dst v') w'):wpList P j k (o :: rest) b w:=
 wpList_plain l λ_ b=>gW w f g c p base e a z size h q r s t x y A v n xs hs B d m i news hx C D E F G H λv' w' j=>b _ _ (I v' w' j)
end
section
variable {w w':World} {base e' size n m:Nat} {e:TypeId} {v v':Value} {xs news:List Value}
theorem Own.reads(a:w.ownsRow base e size v n xs):∃b c,v=.slice b n c/\n<=c/\c<=maxLen/\(b=none->n=0/\c=0)/\ax w size b n xs/\∀d,b=some d->base<=d.block/\v.ownBlock=some d.block:=by
 rcases a.2 with⟨rfl,rfl⟩ |⟨g,b,j,rfl,c,f,h,i,k,l⟩
 ·have hx:=Ap (by simpa using a.1)
  subst hx;exact⟨none,0,rfl,AJ _,by simp[maxLen],λ_=>⟨rfl,rfl⟩,ax.oI _ _ _,λ_ e=>by cases e⟩
 ·refine⟨_,b,rfl,h,i,(λe=>by cases e),⟨a.1,λ_=>⟨g,0,rfl,(Ay.1 f).1,λb u h=>?_⟩⟩,λd e=>by injection e with e;subst e;exact⟨c,rfl⟩⟩
  have:=a.cells (g:=g) rfl b u h;rwa[eD]at this
theorem cO{a:Nat}(b:w.ownsRow base e size v n xs)(c:a<=base):w.ownsRow a e size v n xs:=
 ⟨b.1,b.2.imp id λ⟨a,d,f,g,h,i⟩=>⟨a,d,f,g,AZ c h,i⟩⟩
theorem rC.below{B:Nat}{a:World}(h:rC w base e size v n m xs news v' w')(c:Below B a w)(d:B<=w.heap.size)(f:∀b,v.ownBlock=some b->B<=b):Below B a w':=c.grown h.grow d f
theorem rC.kept{S:Nat->Prop}{a:World}(c:rC w base e size v n m xs news v' w')(d:au S a w)(f:∀b,v.ownBlock=some b->S b\/a.heap.size<=b):au S a w':=d.grown c.grow f
end
