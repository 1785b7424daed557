import Derived.Test.YtgldkfaiofkhbaaGreatDoorZ8
import Derived.Test.YtgldkfaiofkhbaaGreatDoorZ3
import Derived.Deep.QuietTactic
import Derived.BigQuiet
import Derived.Calls
namespace Go.Proofs.YtgldkfaiofkhbaaGreatDoor
open Go Go.RowKit
def Gr(w:World):Type:={w':World // Below w.heap.size w w'}
def Gr.w{w:World}(u:Gr w):World:=u.val
theorem Gr.below{w:World}(u:Gr w):Below w.heap.size w u.w:=u.property
instance (w:World):Nonempty (Gr w):=⟨⟨w,Below.refl _ _⟩⟩
def aA(w:World):World->Prop:=λw'=>∃u:Gr w,w'=u.w
theorem aA.jD{b c:World}(d:Below b.heap.size b c):aA b c:=⟨⟨c,d⟩,rfl⟩
theorem aA.below{w b:World}(h:aA w b):Below w.heap.size w b:=by obtain⟨u,rfl⟩:=h;exact u.below
theorem aA.next{c b d:World}(e:aA c b)(f:Below b.heap.size b d):aA c d:=aA.jD (e.below.trans (f.mono e.below.size))
section
variable {P:Program} {ops:Array Oper} {C:World->Prop} {Q:Act->Prop} {a:Act} {o:Oper} {rest:List Oper}
theorem xS(b:Region.wanted o (yielded ops a.tmps)=true)(c:∀K:Act->Prop,(∀a,wpQuiet P ops C Q rest a->K a)->o.quiet P a C K):wpQuiet P ops C Q (o :: rest) a:=
 wpQuiet_step λK d=>by rw[if_pos b];exact c K d
theorem Mw{b:Operand->Value}{o:Oper}(c:Operand)(e:o.op=.move c)(d:World):(execOp b o).run P d=.ok (.value (b c)) d:=by
 unfold execOp;rw[e];rfl
theorem Mx{d:FuncId}{b:Func}(g:P.funcs[d]?=some b)(h:(b.name== "runtime.NumGoroutine")=false)(e:b.body.isNone=false)(f:Array Value)(c:World):(callFunc d f).run P c=.ok (.enter d f) c:=by
 unfold callFunc;have d:(program.run P c)=.ok P c:=rfl;(have c:¬b.name= "runtime.NumGoroutine" :=by simpa using h);(have f:¬b.body=none:=λb=>by rw[b]at e;cases e);simp[Sem.run_bind,d,Result.andThen_ok,g,c,f,go_sem]
theorem uQ{v:Value}(c:Region.wanted o (yielded ops a.tmps)=true)(d:∀b,C b->(execOp a.eval o).run P b=.ok (.value v) b)(e:∀K:Act->Prop,(∀a,wpQuiet P ops C Q rest a->K a)->K (a.put o.dst v)):wpQuiet P ops C Q (o :: rest) a:=
 xS c λ_ f=>⟨v,λb c=>by unfold Oper.quietAt;rw[d b c];exact⟨rfl,rfl⟩,e _ f⟩
theorem yD{c:Value}{d:FuncId}{e:Array Value}(f:Region.wanted o (yielded ops a.tmps)=true)(g:∀b,(execOp a.eval o).run P b=.ok (.enter d e) b)(h:∀b,C b->Calls P d e b λi j=>i=.returned c/\C j)(d:∀K:Act->Prop,(∀a,wpQuiet P ops C Q rest a->K a)->K (a.put o.dst c)):
  wpQuiet P ops C Q (o :: rest) a:=
 xS f λ_ e=>⟨c,λb f=>by unfold Oper.quietAt;rw[g b];exact⟨rfl,h b f⟩,d _ e⟩
theorem H7(c:Region.wanted o (yielded ops a.tmps)=true)(b:Operand)(d:o.op=.move b)(e:∀K:Act->Prop,(∀a,wpQuiet P ops C Q rest a->K a)->K (a.put o.dst (a.eval b))):wpQuiet P ops C Q (o :: rest) a:=
 xS c λ_ f=>⟨_,λc _=>by unfold Oper.quietAt;rw[Mw b d];exact⟨rfl,rfl⟩,e _ f⟩
theorem zG(i:Region.wanted o (yielded ops a.tmps)=true)(c:TypeId)(b:Operand)(j:o.op=.load c b)(e:Nat)(hx:a.eval b=.pointer (some ⟨e,0,none⟩))(g:TypeId)(d:Array Value)(h:Nat×Nat)(f:TypeDesc)
  (k:∀b,C b->b.heap[e]?=some (.cells d g h))(l:P.underlying c=some f)(hd:(match f with | .struct _ | .array _ _=>true | _=>false)=true)(m:(P.info? c).map (·.size)=some d.size)
  (n:∀K:Act->Prop,(∀a,wpQuiet P ops C Q rest a->K a)->K (a.put o.dst (.agg d))):wpQuiet P ops C Q (o :: rest) a:=
 uQ i (λb p=>by
  unfold execOp
  simp only[j,hx,Instr.loadAt,Instr.sureAddr,Sem.run_bind,Sem.run_pure,Result.andThen_ok,run_loadVar_row b e g c d h f (k b p) l hd m]) n
theorem yC(j:Region.wanted o (yielded ops a.tmps)=true)(c:TypeId)(b:Operand)(k:o.op=.load c b)(e f:Nat)(hx:a.eval b=.pointer (some ⟨e,f,none⟩))(d:List Value)(g:TypeDesc)
  (l:∀b,C b->∀h i,d[h]?=some i->b.cell? ⟨e,f+h,none⟩=some i)(m:P.underlying c=some g)(hd:(match g with | .struct _ | .array _ _=>true | _=>false)=true)(h:(P.info? c).map (·.size)=some d.length)
  (i:∀K:Act->Prop,(∀a,wpQuiet P ops C Q rest a->K a)->K (a.put o.dst (.agg d.toArray))):wpQuiet P ops C Q (o :: rest) a:=
 uQ j (λb n=>by
  unfold execOp
  simp only[k,hx,Instr.loadAt,Instr.sureAddr,Sem.run_bind,Sem.run_pure,Result.andThen_ok,l8 b e f c d g (l b n) m hd h]) i
theorem L6{d:Value}{b:FuncId}{c:Func}{args:Array Value}(f:Region.wanted o (yielded ops a.tmps)=true)(e:Array Operand)(g:Array TypeId)(h:o.op=.call {callee:=.value (.func b),args:=e,argTypes:=g})(i:(e.toList.map a.eval).toArray=args)
  (e:P.funcs[b]?=some c)(g:(c.name== "runtime.NumGoroutine")=false)(j:c.body.isNone=false)
  (k:∀c,C c->Calls P b args c λl m=>l=.returned d/\C m)(b:∀K:Act->Prop,(∀a,wpQuiet P ops C Q rest a->K a)->K (a.put o.dst d)):wpQuiet P ops C Q (o :: rest) a:=
 yD f (λc=>by
  subst i;have c:=Mx (P:=P) e g j;simp[execOp,h,resolve,invoke,Act.eval,c,go_sem]
  rw[<-Array.toList_map]) k b
theorem Dt{f:Nat}{d:Exit->Act->World->Prop}{c:World}{b:List Oper}(C:World->Prop)(g:P.follows .mixedOrders=true)(h:Region.lexB .any b.toArray=true)(i:C {c with drawn:=c.drawn+1})
  (j:wpQuiet P b.toArray C (λk=>∀e,C e->d .normal k e) b a):(Code.region f b.toArray true).wp P d a c:=
 wp_region_quiet g h i (by simpa using j)
theorem FZ(b:Region.wanted o (yielded ops a.tmps)=false)(c:∀K:Act->Prop,(∀a,wpQuiet P ops C Q rest a->K a)->K (a.put o.dst undef)):wpQuiet P ops C Q (o :: rest) a:=
 wpQuiet_step λK d=>by rw[if_neg (by rw[b];exact Bool.false_ne_true)];exact c K d
end
def O9:List Oper->Nat->Option Tmp
 | [],_=>none
 | o :: _,0=>o.dst
 | _ :: l,n+1=>O9 l n
def Om:List Value->Nat->Option Value
 | [],_=>none
 | v :: _,0=>some v
 | _ :: l,n+1=>Om l n
def TM:Option Value->Option Bool
 | some (.bool b)=>some b
 | _=>none
def Jm(l:List Value)(d:Nat):Option Bool:=TM (Om l d)
def lG(g:Option (Nat×Bool))(l:List Oper)(ts:List Value):Bool:=
 match g with
 | none=>true
 | some (j,b)=>match O9 l j with
  | none=>false
  | some d=>match Jm ts d with
   | none=>false
   | some true=>b
   | some false=>!b
theorem Lb:∀(l:List Oper) (a:Nat),(l[a]?).bind (·.dst)=O9 l a
 | [],_=>rfl
 | _ :: _,0=>rfl
 | _ :: l,a+1=>Lb l a
theorem JN:∀(l:List Value) (a:Nat),l[a]?=Om l a
 | [],_=>rfl
 | _ :: _,0=>rfl
 | _ :: l,a+1=>JN l a
theorem QJ(l:List Value)(a:Nat):(match l[a]? with | some (.bool b)=>some b | _=>none)=Jm l a:=by
 unfold Jm;rw[JN];unfold TM;cases Om l a with
 | none=>rfl
 | some a=>cases a<;>rfl
theorem Q7(o:Oper)(l:List Oper)(ts:List Value):Region.wanted o (yielded l.toArray ts.toArray)=lG o.guard l ts:=by
 unfold Region.wanted lG;cases o.guard with
 | none=>rfl
 | some c=>
  obtain⟨b,a⟩:=c;show(yielded l.toArray ts.toArray b==some a)=_;unfold yielded;rw[List.getElem?_toArray,Lb]
  dsimp only
  cases O9 l b with
  | none=>rfl
  | some b=>
   show((match ts.toArray[b]? with | some (.bool a)=>some a | _=>none)==some a)=_;rw[List.getElem?_toArray,QJ]
   dsimp only
   cases Jm ts b with
   | none=>rfl
   | some b=>cases b<;>cases a<;>rfl
theorem jY{o:Oper}{l:List Oper}{ts:List Value}{a:Bool}(b:lG o.guard l ts=a):Region.wanted o (yielded l.toArray ts.toArray)=a:=(Q7 o l ts).trans b
structure jX(p:Prop):Prop where
 out:p
section
variable {P:Program} {l:List Oper} {ts:List Value} {df:List Deferred} {C:World->Prop} {Q:Act->Prop} {o:Oper} {rest:List Oper}
theorem bD{v:Value}(d:lG o.guard l ts=true)(b:∀c,C c->(execOp (Act.mk ts.toArray df).eval o).run P c=.ok (.value v) c)(e:∀K:Act->Prop,(∀a,jX (wpQuiet P l.toArray C Q rest a)->K a)->K ((Act.mk ts.toArray df).put o.dst v)):jX (wpQuiet P l.toArray C Q (o :: rest) ⟨ts.toArray,df⟩):=
 ⟨uQ (v:=v) (jY d) b λK c=>e K λa b=>c a b.out⟩
theorem eX(b:lG o.guard l ts=false)(c:∀K:Act->Prop,(∀a,jX (wpQuiet P l.toArray C Q rest a)->K a)->K ((Act.mk ts.toArray df).put o.dst undef)):jX (wpQuiet P l.toArray C Q (o :: rest) ⟨ts.toArray,df⟩):=
 ⟨FZ (jY b) λK d=>c K λa b=>d a b.out⟩
theorem xU(c:lG o.guard l ts=true)(b:Operand)(d:o.op=.move b)(e:∀K:Act->Prop,(∀a,jX (wpQuiet P l.toArray C Q rest a)->K a)->K ((Act.mk ts.toArray df).put o.dst ((Act.mk ts.toArray df).eval b))):jX (wpQuiet P l.toArray C Q (o :: rest) ⟨ts.toArray,df⟩):=
 ⟨H7 (jY c) b d λK f=>e K λa b=>f a b.out⟩
theorem RJ(i:lG o.guard l ts=true)(a:TypeId)(d:Operand)(j:o.op=.load a d)(e:Nat)(hx:(Act.mk ts.toArray df).eval d=.pointer (some ⟨e,0,none⟩))(g:TypeId)(b:Array Value)(h:Nat×Nat)(f:TypeDesc)
  (k:∀c,C c->c.heap[e]?=some (.cells b g h))(m:P.underlying a=some f)(hd:(match f with | .struct _ | .array _ _=>true | _=>false)=true)(n:(P.info? a).map (·.size)=some b.size)
  (p:∀K:Act->Prop,(∀c,jX (wpQuiet P l.toArray C Q rest c)->K c)->K ((Act.mk ts.toArray df).put o.dst (.agg b))):jX (wpQuiet P l.toArray C Q (o :: rest) ⟨ts.toArray,df⟩):=
 ⟨zG (jY i) a d j e hx g b h f k m hd n λK q=>p K λc a=>q c a.out⟩
theorem zT(j:lG o.guard l ts=true)(a:TypeId)(d:Operand)(k:o.op=.load a d)(e f:Nat)(hx:(Act.mk ts.toArray df).eval d=.pointer (some ⟨e,f,none⟩))(b:List Value)(g:TypeDesc)
  (m:∀c,C c->∀h i,b[h]?=some i->c.cell? ⟨e,f+h,none⟩=some i)(n:P.underlying a=some g)(hd:(match g with | .struct _ | .array _ _=>true | _=>false)=true)(h:(P.info? a).map (·.size)=some b.length)
  (i:∀K:Act->Prop,(∀c,jX (wpQuiet P l.toArray C Q rest c)->K c)->K ((Act.mk ts.toArray df).put o.dst (.agg b.toArray))):jX (wpQuiet P l.toArray C Q (o :: rest) ⟨ts.toArray,df⟩):=
 ⟨yC (jY j) a d k e f hx b g m n hd h λK p=>i K λc a=>p c a.out⟩
theorem MV{v:Value}{a:FuncId}{b:Func}{args:Array Value}(f:lG o.guard l ts=true)(c:Array Operand)(d:Array TypeId)(g:o.op=.call {callee:=.value (.func a),args:=c,argTypes:=d})(h:(c.toList.map (Act.mk ts.toArray df).eval).toArray=args)
  (i:P.funcs[a]?=some b)(j:(b.name== "runtime.NumGoroutine")=false)(k:b.body.isNone=false)
  (b:∀e,C e->Calls P a args e λm n=>m=.returned v/\C n)(e:∀K:Act->Prop,(∀a,jX (wpQuiet P l.toArray C Q rest a)->K a)->K ((Act.mk ts.toArray df).put o.dst v)):jX (wpQuiet P l.toArray C Q (o :: rest) ⟨ts.toArray,df⟩):=
 ⟨L6 (jY f) c d g h i j k b λK m=>e K λa b=>m a b.out⟩
theorem XI{a:Act}(b:Q a):jX (wpQuiet P l.toArray C Q [] a):=⟨wpQuiet_nil b⟩
theorem RL{e:Nat}{b:Exit->Act->World->Prop}{a:World}{c:Act}(C:World->Prop)(f:P.follows .mixedOrders=true)(g:Region.lexB .any l.toArray=true)(h:C {a with drawn:=a.drawn+1})
  (i:jX (wpQuiet P l.toArray C (λj=>∀d,C d->b .normal j d) l c)):(Code.region e l.toArray true).wp P b c a:=
 Dt C f g h i.out
end
theorem iN{P:Program}{d:Operand->Value}{o:Oper}{b:BinOp}{c u:TypeId}{e f:Operand}{g h:Array Value}{i:Value}{a:World}(j:o.op=.binOp b c e f u)(hx:d e=.agg g)(k:d f=.agg h)
  (m:P.eqGuardType P.depth c=false)(n:(binOp b c (.agg g) (.agg h)).run P a=.ok i a):(execOp d o).run P a=.ok (.value i) a:=by
 have d:(program.run P a)=.ok P a:=rfl
 have i:(eqGuard b c e f (.agg g) (.agg h)).run P a=.ok () a:=by
  cases b<;>simp[eqGuard,Sem.run_bind,d,Result.andThen_ok,m,go_sem]
 unfold execOp
 rw[j]
 simp only[hx,k,Sem.run_bind,i,Result.andThen_ok,n,Sem.run_pure]
theorem pQ{i:Program}{j:Array Oper}{e:World->Prop}{k:Exit->Act->World->Prop}:∀(rest:List Oper) (f:Act) (b:World),e b->wpQuiet i j e (λg=>∀c,e c->k .normal g c) rest f->wpList i j k rest f b
 | [],_,b,d,a=>a b d
 | n :: rest,f,b,d,a=>by
  unfold wpQuiet at a;unfold wpList
  split
  ·rename_i h
   rw[if_pos h]at a;exact .inl (Oper.wp_of_quiet d (λg c l m=>pQ rest g c l m) a)
  ·rename_i h
   rw[if_neg h]at a;exact pQ rest _ b d a
theorem p9{e:Program}{a:List Oper}{h:Nat}{f:Exit->Act->World->Prop}{b:World}{c:Act}(d:World->Prop)(i:d b)
  (j:jX (wpQuiet e a.toArray d (λk=>∀g,d g->f .normal k g) a c)):(Code.region h a.toArray false).wp e f c b:=
 wp_region_lit (pQ a c b i j.out)
