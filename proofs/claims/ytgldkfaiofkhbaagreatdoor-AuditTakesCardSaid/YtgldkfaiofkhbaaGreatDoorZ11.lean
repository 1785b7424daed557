import Derived.Test.YtgldkfaiofkhbaaGreatDoorZ10
import Derived.Test.YtgldkfaiofkhbaaGreatDoorZ6
namespace Go.Proofs.YtgldkfaiofkhbaaGreatDoor
open Go Go.RowKit
theorem JH{a:Program}{f:World}{g:List Oper}{b:List Value}{h:List Deferred}{rest:List Oper}{c:Oper}{l:Exit->Act->World->Prop}(o:lG c.guard g b=true)(d:TypeId)(i:Operand)(p:c.op=.load d i)
  (j:Nat)(hx:(Act.mk b.toArray h).eval i=.pointer (some ⟨j,0,none⟩))(m:TypeId)(e:Array Value)(n:Nat×Nat)(k:TypeDesc)(q:f.heap[j]?=some (.cells e m n))
  (r:a.underlying d=some k)(hd:(match k with | .struct _ | .array _ _=>true | _=>false)=true)(s:(a.info? d).map (·.size)=some e.size)
  (t:wpList a g.toArray l rest ((Act.mk b.toArray h).put c.dst (.agg e)) f):jX (wpList a g.toArray l (c :: rest) ⟨b.toArray,h⟩ f):=
 ⟨zI (jY o) d i p j hx m e n k q r hd s t⟩
theorem yE{a:Program}{f:World}{g:List Oper}{b:List Value}{h:List Deferred}{rest:List Oper}{c:Oper}{m:Exit->Act->World->Prop}(p:lG c.guard g b=true)(d:TypeId)(i:Operand)(q:c.op=.load d i)
  (j k:Nat)(hx:(Act.mk b.toArray h).eval i=.pointer (some ⟨j,k,none⟩))(e:List Value)(l:TypeDesc)(r:∀n o,e[n]?=some o->f.cell? ⟨j,k+n,none⟩=some o)
  (n:a.underlying d=some l)(hd:(match l with | .struct _ | .array _ _=>true | _=>false)=true)(o:(a.info? d).map (·.size)=some e.length)
  (s:wpList a g.toArray m rest ((Act.mk b.toArray h).put c.dst (.agg e.toArray)) f):jX (wpList a g.toArray m (c :: rest) ⟨b.toArray,h⟩ f):=
 ⟨yF (jY p) d i q j k hx e l r n hd o s⟩
theorem JI{a:Program}{c:World}{f:List Oper}{b:List Value}{d:List Deferred}{rest:List Oper}{e:Oper}{h:Exit->Act->World->Prop}(o:lG e.guard f b=true)(i:BinOp)(g u:TypeId)(j k:Operand)(p:e.op=.binOp i g j k u)(l m:Array Value)
  (hx:(Act.mk b.toArray d).eval j=.agg l)(q:(Act.mk b.toArray d).eval k=.agg m)(r:a.eqGuardType a.depth g=false)(n:Value)(s:(binOp i g (.agg l) (.agg m)).run a c=.ok n c)
  (g:wpList a f.toArray h rest ((Act.mk b.toArray d).put e.dst n) c):jX (wpList a f.toArray h (e :: rest) ⟨b.toArray,d⟩ c):=
 ⟨BigFrame.wpList_want (jY o) λ_ a=>by
  unfold Oper.wp;rw[iN p hx q r s]
  exact a _ _ g⟩
