import Derived.Test.YtgldkfaiofkhbaaGreatDoorZ9
import Derived.OrdersHeld
namespace Go.Proofs.YtgldkfaiofkhbaaGreatDoor
open Go Go.RowKit
section
variable {P:Program} {ops:Array Oper} {md:Region.Mode} {Q:Exit->Act->World->Prop} {S:World->Prop} {a:Act} {w:World} {listed:Array Bool} {fuel:Nat}
theorem Nz{d:Nat}{a:Act}{w:World}{b:List Oper}(S:World->Prop)(c:Nat)(e:b.length=c)(f:P.follows .mixedOrders=true)
  (g:wpAnyH P .any b.toArray Q S c (Array.replicate c false) a {w with drawn:=w.drawn+1}):(Code.region d b.toArray true).wp P Q a w:=by
 subst e
 exact wp_region_held f (by simpa using g)
theorem Cb{c:Nat}{b:Oper}{d:Value}(f:ops[c]?=some b)
  (hs:Region.noSelect ops=true)(g:Region.free md ops listed c=true)(h:(Region.ready md ops listed).contains c=true)
  (i:∀e a w,Q (.panic e) (a.put b.dst d) w->Q (.panic e) a w)(j:S w)(k:Region.wanted b (yielded ops a.tmps)=true)(l:∀w,S w->(execOp a.eval b).run P w=.ok (.value d) w)
  (e:∀K:Act->Prop,(∀a,wpAnyH P md ops Q S fuel (listed.setIfInBounds c true) a w->K a)->K (a.put b.dst d)):wpAnyH P md ops Q S (fuel+1) listed a w:=
 wpAnyH_take f hs g h i (Or.inl ⟨k,l⟩) j (e _ (λ_ e=>e))
theorem Ho{b:Nat}{c:Oper}(f:ops[b]?=some c)(g:Region.ready md ops listed=[b])(h:Region.wanted c (yielded ops a.tmps)=true)
  (i:∀K:Act->World->Prop,(∀e d,S d->wpAnyH P md ops Q S fuel (listed.setIfInBounds b true) e d->K e d)->c.wp P a w K Q):wpAnyH P md ops Q S (fuel+1) listed a w:=by
 refine wpAnyH_all g aZ (λc b=>?_)
 simp only[List.mem_singleton]at b
 subst b
 unfold wpOp
 simp only[f]
 rw[if_pos h]
 exact .inl (i _ (λ_ _ b c=>⟨b,c⟩))
theorem iP{i j:Nat}{e f:Oper}(g:ops[i]?=some e)(h:ops[j]?=some f)(k:Region.ready md ops listed=[i,j])(l:Region.wanted e (yielded ops a.tmps)=true)(m:Region.wanted f (yielded ops a.tmps)=true)
  (c:∀K:Act->World->Prop,(∀d b,S b->wpAnyH P md ops Q S fuel (listed.setIfInBounds i true) d b->K d b)->e.wp P a w K Q)
  (e:∀K:Act->World->Prop,(∀d b,S b->wpAnyH P md ops Q S fuel (listed.setIfInBounds j true) d b->K d b)->f.wp P a w K Q):wpAnyH P md ops Q S (fuel+1) listed a w:=by
 refine wpAnyH_all k aZ (λd b=>?_)
 simp only[List.mem_cons,List.not_mem_nil,or_false]at b
 rcases b with rfl | rfl
 ·unfold wpOp
  simp only[g];rw[if_pos l];exact .inl (c _ (λ_ _ c e=>⟨c,e⟩))
 ·unfold wpOp
  simp only[h];rw[if_pos m];exact .inl (e _ (λ_ _ c e=>⟨c,e⟩))
theorem SX(b:Region.ready md ops listed=[])(c:Q .normal a w):wpAnyH P md ops Q S fuel listed a w:=wpAnyH_done b c fuel
theorem ku{f:Oper}{g:Operand->Value}(b:TypeId)(h:Operand)(k:f.op=.load b h)(d i:Nat)(hx:g h=.pointer (some ⟨d,i,none⟩))(c:List Value)(e:TypeDesc)
  (l:∀h j,c[h]?=some j->w.cell? ⟨d,i+h,none⟩=some j)(m:P.underlying b=some e)(hd:(match e with | .struct _ | .array _ _=>true | _=>false)=true)(h:(P.info? b).map (·.size)=some c.length):
  (execOp g f).run P w=.ok (.value (.agg c.toArray)) w:=by
 unfold execOp
 simp only[k,hx,Instr.loadAt,Instr.sureAddr,Sem.run_bind,Sem.run_pure,Result.andThen_ok,l8 w d i b c e l m hd h]
theorem gM{f:Oper}{g:Operand->Value}(b:TypeId)(h:Operand)(k:f.op=.load b h)(d:Nat)(hx:g h=.pointer (some ⟨d,0,none⟩))(i:TypeId)(c:Array Value)(j:Nat×Nat)(e:TypeDesc)
  (h:w.heap[d]?=some (.cells c i j))(l:P.underlying b=some e)(hd:(match e with | .struct _ | .array _ _=>true | _=>false)=true)(m:(P.info? b).map (·.size)=some c.size):
  (execOp g f).run P w=.ok (.value (.agg c)) w:=by
 unfold execOp
 simp only[k,hx,Instr.loadAt,Instr.sureAddr,Sem.run_bind,Sem.run_pure,Result.andThen_ok,run_loadVar_row w d i b c j e h l hd m]
theorem Xw{d:Oper}{e:FuncId}{b:Func}{args:Array Value}{K:Act->World->Prop}{g:Value->World->Prop}(f:Array Operand)(c:Array TypeId)(i:d.op=.call {callee:=.value (.func e),args:=f,argTypes:=c})(j:(f.toList.map a.eval).toArray=args)
  (k:P.funcs[e]?=some b)(l:(b.name== "runtime.NumGoroutine")=false)(m:b.body.isNone=false)
  (n:Calls P e args w λh c=>∃b,h=.returned b/\g b c)(o:∀b c,g b c->K (a.put d.dst b) c):d.wp P a w K Q:=by
 subst j
 have g:=Mx (P:=P) k l m
 have j:(execOp a.eval d).run P w=.ok (.enter e (f.toList.map a.eval).toArray) w:=by
  simp[execOp,i,resolve,invoke,Act.eval,g,go_sem];rw[<-Array.toList_map]
 unfold Oper.wp
 rw[j]
 exact n.mono λh c ⟨b,d,e⟩=>by subst d;exact o b c e
theorem ig{i:Oper}{K:Act->World->Prop}(j d:TypeId)(b:Nat)(k:Array (Nat×Operand))(m:i.op=.buildSlice j b k)
  (e:Nat)(hs:0 < e)(g:List (List Value))(n:P.underlying j=some (.slice d))(h:(P.info? d).map (·.size)=some e)(l:((P.info? d).bind (·.zero)).isSome=true)
  (o:g.length=b)(p:0 < b)(c:b*e<=2 ^ 24)(q:∀f∈g,f.length=e)
  (r:(k.toList.map λ(s,c)=>(s,a.eval c))=((g.map λf=>Value.agg f.toArray).zipIdx 0).map λc=>(c.2,c.1))
  (s:K (a.put i.dst (.slice (some ⟨w.heap.size,0,none⟩) b b)) (w.alloc (.cells (g.flatten).toArray d))):i.wp P a w K Q:=by
 cases hie:P.info? d with
 | none=>simp[hie]at h
 | some i=>
  simp only[hie,Option.map_some,Option.some.injEq,Option.bind_some]at h l;obtain⟨z,t⟩:=Option.isSome_iff_exists.1 l;refine wp_buildSlice j d b k m _ i z n hie t (by rw[h];omega) (by rw[h];have:=Nat.mul_pos p hs;omega) ?_ s;rw[Array.toList_map,r,h]
  have:=Great.fill_whole hs (g.map λf=>Value.agg f.toArray) ((Array.range (b*e)).map (z.cells[· % z.cells.size]!)) (by
   intro f b;obtain⟨c,hx,rfl⟩:=Aq.1 b;show c.toArray.size=e
   simp[q c hx]) (by simp[o])
  rw[this];congr 2;rw[List.flatMap_map];simp[List.flatMap_def,Value.cells]
end
theorem fZ{P:Program}{ops:Array Oper}{rest:List Oper}{o:Oper}{a:Act}{w:World}{Q:Exit->Act->World->Prop}(k:o.guard=none)(d:TypeId)(e f:Operand)(l:o.op=.store d e f)
  (b:Nat)(c:Array Value)(hx:a.eval e=.pointer (some ⟨b,0,none⟩))(m:a.eval f=.agg c)
  (g:TypeId)(h:Array Value)(j:aL w b g h)(n:(P.info? d).map (·.size)=some c.size)
  (p:h.size=c.size)(q:c.all (·.oneCell')=true)
  (r:∀i,aL i b g c->au (·=b) w i->wpList P ops Q rest (a.put o.dst undef) i):wpList P ops Q (o :: rest) a w:=
 wpList_store_row k d e f l b c hx m g h j n p q (r _ (setRow_heap _ _ _ _ _ _ j) (au.setRow (S:=(·=b)) (au.refl _ w) rfl _))
theorem Ej{P:Program}{d:Oper}{a:Act}{w:World}{K:Act->World->Prop}{Q:Exit->Act->World->Prop}(e:TypeId)(f g:Operand)(l:d.op=.store e f g)
  (b:Nat)(c:Array Value)(hx:a.eval f=.pointer (some ⟨b,0,none⟩))(m:a.eval g=.agg c)
  (h:TypeId)(i:Array Value)(k:aL w b h i)(n:(P.info? e).map (·.size)=some c.size)
  (o:i.size=c.size)(p:c.all (·.oneCell')=true)
  (q:∀j,aL j b h c->au (·=b) w j->K (a.put d.dst undef) j):d.wp P a w K Q:=
 wp_store_row e f g l b c hx m h i k n o p (q _ (setRow_heap _ _ _ _ _ _ k) (au.setRow (S:=(·=b)) (au.refl _ w) rfl _))
theorem mF{P:Program}{d:Oper}{a:Act}{w:World}{K:Act->World->Prop}{Q:Exit->Act->World->Prop}(b:TypeId)(e:Operand)(k:d.op=.load b e)
  (f g:Nat)(hx:a.eval e=.pointer (some ⟨f,g,none⟩))(c:List Value)(h:TypeDesc)(l:∀i j,c[i]?=some j->w.cell? ⟨f,g+i,none⟩=some j)
  (i:P.underlying b=some h)(hd:(match h with | .struct _ | .array _ _=>true | _=>false)=true)(j:(P.info? b).map (·.size)=some c.length)
  (m:K (a.put d.dst (.agg c.toArray)) w):d.wp P a w K Q:=by
 unfold Oper.wp
 rw[ku b e k f g hx c h l i hd j]
 exact m
theorem vQ{c w d:World}{e:Obj}(f:Below c.heap.size c w)(b:au (·=w.heap.size) (w.alloc e) d):Below c.heap.size c d:=
 f.trans ⟨b.os,b.tape,b.output,by have:=b.size;simp at this;omega,λc d=>by
  have hs:=f.size
  exact(b.block c (by simp;omega) ah).trans (Below.heap_alloc w e c ah)⟩
theorem dx{w b:World}{o:Obj}(c:au (·=w.heap.size) (w.alloc o) b):Below w.heap.size w b:=vQ (Below.refl _ w) c
theorem wT{f:Program}{n:Array Oper}{rest:List Oper}{d:Oper}{e:Act}{g:World}{o:Exit->Act->World->Prop}(p:d.dst=none)(q:d.guard=none)(h:TypeId)(i j:Operand)(r:d.op=.store h i j)
  (b:Nat)(a:Array Value)(hx:e.eval i=.pointer (some ⟨b,0,none⟩))(s:e.eval j=.agg a)
  (k:TypeId)(l:Array Value)(t:aL g b k l)(u:(f.info? h).map (·.size)=some a.size)
  (v:l.size=a.size)(m:a.all (·.oneCell')=true)
  (w:∀c,aL c b k a->au (·=b) g c->wpList f n o rest e c):wpList f n o (d :: rest) e g:=
 fZ q h i j r b a hx s k l t u v m (λc m d=>by
  have:=w c m d;rw[p]
  exact this)
theorem zI{a:Program}{f:World}{g:Array Oper}{rest:List Oper}{b:Oper}{c:Act}{k:Exit->Act->World->Prop}(n:Region.wanted b (yielded g c.tmps)=true)(d:TypeId)(h:Operand)(o:b.op=.load d h)
  (i:Nat)(hx:c.eval h=.pointer (some ⟨i,0,none⟩))(l:TypeId)(e:Array Value)(m:Nat×Nat)(j:TypeDesc)(p:f.heap[i]?=some (.cells e l m))
  (q:a.underlying d=some j)(hd:(match j with | .struct _ | .array _ _=>true | _=>false)=true)(r:(a.info? d).map (·.size)=some e.size)
  (s:wpList a g k rest (c.put b.dst (.agg e)) f):wpList a g k (b :: rest) c f:=
 BigFrame.wpList_want n λ_ a=>wp_load_row d h o i hx l e m j p q hd r (a _ _ s)
theorem yF{a:Program}{f:World}{g:Array Oper}{rest:List Oper}{b:Oper}{c:Act}{l:Exit->Act->World->Prop}(o:Region.wanted b (yielded g c.tmps)=true)(d:TypeId)(h:Operand)(p:b.op=.load d h)
  (i j:Nat)(hx:c.eval h=.pointer (some ⟨i,j,none⟩))(e:List Value)(k:TypeDesc)(q:∀m n,e[m]?=some n->f.cell? ⟨i,j+m,none⟩=some n)
  (m:a.underlying d=some k)(hd:(match k with | .struct _ | .array _ _=>true | _=>false)=true)(n:(a.info? d).map (·.size)=some e.length)
  (r:wpList a g l rest (c.put b.dst (.agg e.toArray)) f):wpList a g l (b :: rest) c f:=
 BigFrame.wpList_want o λ_ a=>mF d h p i j hx e k q m hd n (a _ _ r)
