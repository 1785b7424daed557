import Derived.Test.YtgldkfaiofkhbaaGreatDoorZ11
import Derived.IntWalk
namespace Go.Proofs.YtgldkfaiofkhbaaGreatDoor
open Go Go.RowKit Go.Proofs.Tryz
theorem AO:type_of% @IntWalk.i64_in:=@IntWalk.i64_in
theorem Az:type_of% @func110:=@func110
theorem BH:type_of% @func113:=@func113
theorem Bv:type_of% @func117:=@func117
theorem BX:type_of% @func125:=@func125
theorem Bh:type_of% @func128:=@func128
theorem BR:type_of% @func129:=@func129
theorem Bb:type_of% @func152:=@func152
theorem BU:type_of% @func153:=@func153
theorem Bl:type_of% @func187:=@func187
theorem BN:type_of% @func189:=@func189
theorem Ba:type_of% @func191:=@func191
theorem BK:type_of% @func192:=@func192
theorem Bt:type_of% @func193:=@func193
theorem Bu:type_of% @func196:=@func196
theorem Aw:type_of% @func224:=@func224
theorem BM:type_of% @func231:=@func231
theorem BI:type_of% @func266:=@func266
theorem Br:type_of% @func271:=@func271
theorem BZ:type_of% @func281:=@func281
theorem Bp:type_of% @func47:=@func47
theorem Bo:type_of% @func49:=@func49
theorem Bg:type_of% @func51:=@func51
theorem Bj:type_of% @func60:=@func60
theorem A9:type_of% @func61:=@func61
theorem Bn:type_of% @func65:=@func65
theorem Bc:type_of% @func81:=@func81
theorem Bd:type_of% @func82:=@func82
theorem Bf:type_of% @func83:=@func83
theorem BG:type_of% @func85:=@func85
theorem BO:type_of% @func86:=@func86
theorem BL:type_of% @underlying137:=@underlying137
theorem CG:type_of% @underlying142:=@underlying142
theorem AB:type_of% @underlying23:=@underlying23
theorem Ao:type_of% @underlying24:=@underlying24
theorem AR:type_of% @underlying27:=@underlying27
theorem Ak:type_of% @underlying292:=@underlying292
theorem A8:type_of% @underlying316:=@underlying316
theorem CF:type_of% @underlying351:=@underlying351
theorem AQ:type_of% @underlying36:=@underlying36
theorem Bw:type_of% @underlying362:=@underlying362
theorem Ar:type_of% @underlying37:=@underlying37
theorem BP:type_of% @underlying380:=@underlying380
theorem Am:type_of% @underlying39:=@underlying39
theorem BV:type_of% @underlying41:=@underlying41
theorem Ac:type_of% @underlying44:=@underlying44
theorem BD:type_of% @underlying46:=@underlying46
theorem Bz:type_of% @underlying48:=@underlying48
theorem Al:type_of% @underlying50:=@underlying50
theorem Au:type_of% @underlying52:=@underlying52
theorem Af:type_of% @underlying57:=@underlying57
theorem CB:type_of% @underlying9:=@underlying9
theorem Aa:type_of% @World.ownsRow_nil:=@World.ownsRow_nil
section
variable {P:Program} {ops:Array Oper} {l rest:List Oper} {ts:List Value} {df:List Deferred} {C S:World->Prop} {Q:Act->Prop} {E:Exit->Act->World->Prop} {o oi:Oper} {a a':Act} {w:World} {v:Value} {md:Region.Mode} {listed:Array Bool} {fuel:Nat} {op:Op} {ty:TypeId} {pos:String} {af:Array Edge} {gd:Option (Nat×Bool)}
theorem aF(n:Nat):wpList P ops E (⟨some n,op,ty,pos,af,gd⟩ :: rest) a w=jX (wpList P ops E (⟨some n,op,ty,pos,af,gd⟩ :: rest) a w):=propext ⟨λh=>⟨h⟩,λh=>h.out⟩
theorem bA(T:TypeId)(p:Nat){y:Operand}:wpList P ops E (⟨none,.store T (.tmp p) y,ty,pos,af,gd⟩ :: rest) a w=jX (wpList P ops E (⟨none,.store T (.tmp p) y,ty,pos,af,gd⟩ :: rest) a w):=propext ⟨λh=>⟨h⟩,λh=>h.out⟩
theorem bY(n:Nat):wpList P ops E (⟨some n,op,ty,pos,af,gd⟩ :: rest) a w=wpList P ops E (⟨some n,op,ty,pos,af,gd⟩ :: rest) a w:=rfl
theorem iE(T:TypeId)(p:Nat){y:Operand}:wpList P ops E (⟨none,.store T (.tmp p) y,ty,pos,af,gd⟩ :: rest) a w=wpList P ops E (⟨none,.store T (.tmp p) y,ty,pos,af,gd⟩ :: rest) a w:=rfl
theorem aM{gG:Nat}{T:TypeId}{x:Operand}{t:TypeId}{cs:Array Value}{d:TypeDesc}(hB:aL w gG t cs)(hi:(P.info? T).map (·.size)=some cs.size)(hu:P.underlying T=some d)(h:wpList P l.toArray E rest ((Act.mk ts.toArray df).put o.dst (.agg cs)) w)
  (hgd:lG o.guard l ts=true:=by rfl)(fP:o.op=.load T x:=by rfl)(hx:(Act.mk ts.toArray df).eval x=.pointer (some ⟨gG,0,none⟩):=by rfl)(hd:(match d with | .struct _ | .array _ _=>true | _=>false)=true:=by rfl):jX (wpList P l.toArray E (o :: rest) ⟨ts.toArray,df⟩ w):=
 JH hgd T x fP gG hx t cs (0,0) d hB hu hd hi h
theorem bS{gG i:Nat}{T:TypeId}{x:Operand}{xs:List Value}{d:TypeDesc}(eO:∀j v,xs[j]?=some v->w.cell? ⟨gG,i+j,none⟩=some v)(hi:(P.info? T).map (·.size)=some xs.length)(hu:P.underlying T=some d)(h:wpList P l.toArray E rest ((Act.mk ts.toArray df).put o.dst (.agg xs.toArray)) w)
  (hgd:lG o.guard l ts=true:=by rfl)(fP:o.op=.load T x:=by rfl)(hx:(Act.mk ts.toArray df).eval x=.pointer (some ⟨gG,i,none⟩):=by rfl)(hd:(match d with | .struct _ | .array _ _=>true | _=>false)=true:=by rfl):jX (wpList P l.toArray E (o :: rest) ⟨ts.toArray,df⟩ w):=
 yE hgd T x fP gG i hx xs d eO hu hd hi h
theorem vC(gG i:Nat){T:TypeId}{x:Operand}(xs:List Value){d:TypeDesc}(eO:∀j v,xs[j]?=some v->w.cell? ⟨gG,i+j,none⟩=some v)(hi:(P.info? T).map (·.size)=some xs.length)(hu:P.underlying T=some d)(h:wpList P l.toArray E rest ((Act.mk ts.toArray df).put o.dst (.agg xs.toArray)) w)
  (hgd:lG o.guard l ts=true:=by rfl)(fP:o.op=.load T x:=by rfl)(hx:(Act.mk ts.toArray df).eval x=.pointer (some ⟨gG,i,none⟩):=by rfl)(hd:(match d with | .struct _ | .array _ _=>true | _=>false)=true:=by rfl):jX (wpList P l.toArray E (o :: rest) ⟨ts.toArray,df⟩ w):=
 yE hgd T x fP gG i hx xs d eO hu hd hi h
theorem iw{b:BinOp}{T u:TypeId}{x y:Operand}{xs ys:Array Value}{r:Value}(hr:(binOp b T (.agg xs) (.agg ys)).run P w=.ok r w)(hg:P.eqGuardType P.depth T=false)(h:wpList P l.toArray E rest ((Act.mk ts.toArray df).put o.dst r) w)
  (hgd:lG o.guard l ts=true:=by rfl)(fP:o.op=.binOp b T x y u:=by rfl)(hx:(Act.mk ts.toArray df).eval x=.agg xs:=by rfl)(hy:(Act.mk ts.toArray df).eval y=.agg ys:=by rfl):jX (wpList P l.toArray E (o :: rest) ⟨ts.toArray,df⟩ w):=
 JI hgd b T u x y fP xs ys hx hy hg r hr h
theorem dB{gG:Nat}{T:TypeId}{x y:Operand}{t:TypeId}{cells old:Array Value}(hB:aL w gG t old)(hi:(P.info? T).map (·.size)=some cells.size)(hq:old.size=cells.size)(h1:cells.all (·.oneCell')=true)(h:∀w',aL w' gG t cells->au (·=gG) w w'->wpList P l.toArray E rest ((Act.mk ts.toArray df).put o.dst undef) w')
  (hgd:o.guard=none:=by rfl)(fP:o.op=.store T x y:=by rfl)(hx:(Act.mk ts.toArray df).eval x=.pointer (some ⟨gG,0,none⟩):=by rfl)(hy:(Act.mk ts.toArray df).eval y=.agg cells:=by rfl):jX (wpList P l.toArray E (o :: rest) ⟨ts.toArray,df⟩ w):=
 ⟨fZ hgd T x y fP gG cells hx hy t old hB hi hq h1 h⟩
theorem lF{gG:Nat}{T:TypeId}{x y:Operand}{t:TypeId}{cells old:Array Value}(hB:aL w gG t old)(hi:(P.info? T).map (·.size)=some cells.size)(hq:old.size=cells.size)(h1:cells.all (·.oneCell')=true)(h:∀w',aL w' gG t cells->au (·=gG) w w'->wpList P l.toArray E rest ⟨ts.toArray,df⟩ w')
  (hn:o.dst=none:=by rfl)(hgd:o.guard=none:=by rfl)(fP:o.op=.store T x y:=by rfl)(hx:(Act.mk ts.toArray df).eval x=.pointer (some ⟨gG,0,none⟩):=by rfl)(hy:(Act.mk ts.toArray df).eval y=.agg cells:=by rfl):jX (wpList P l.toArray E (o :: rest) ⟨ts.toArray,df⟩ w):=
 ⟨wT hn hgd T x y fP gG cells hx hy t old hB hi hq h1 h⟩
theorem fw{gG:Nat}{T:TypeId}{x y:Operand}{t:TypeId}{cells old:Array Value}(hB:aL w gG t old)(hi:(P.info? T).map (·.size)=some cells.size)(hq:old.size=cells.size)(h1:cells.all (·.oneCell')=true)(h:wpList P l.toArray E rest ((Act.mk ts.toArray df).put o.dst undef) (w.setRow gG cells))
  (hgd:o.guard=none:=by rfl)(fP:o.op=.store T x y:=by rfl)(hx:(Act.mk ts.toArray df).eval x=.pointer (some ⟨gG,0,none⟩):=by rfl)(hy:(Act.mk ts.toArray df).eval y=.agg cells:=by rfl):jX (wpList P l.toArray E (o :: rest) ⟨ts.toArray,df⟩ w):=
 ⟨wpList_store_row hgd T x y fP gG cells hx hy t old hB hi hq h1 h⟩
theorem aG(k:jX (wpQuiet P l.toArray C Q rest a'))
  (h:(lG o.guard l ts=false/\v=undef)\/(lG o.guard l ts=true/\∀w,C w->(execOp (Act.mk ts.toArray df).eval o).run P w=.ok (.value v) w):=by first| exact .inl ⟨rfl,rfl⟩ | exact .inr ⟨rfl,by intro w' hw';first| exact Mw _ rfl w' |(go_simp<;>rfl)⟩)
  (bT:(Act.mk ts.toArray df).put o.dst v=a':=by go_simp<;>rfl):jX (wpQuiet P l.toArray C Q (o :: rest) ⟨ts.toArray,df⟩):=by
 subst bT
 rcases h with⟨h1,rfl⟩ |⟨h1,h2⟩
 ·exact eX h1 λK h=>h _ k
 ·exact bD h1 h2 λK h=>h _ k
theorem bC{F:World->Prop}(hF:∀w,C w->F w)(k:jX (wpQuiet P l.toArray C Q rest a'))(hg:lG o.guard l ts=true:=by rfl)
  (h:∀w,C w->F w->(execOp (Act.mk ts.toArray df).eval o).run P w=.ok (.value v) w:=by intro w' hw' hx;go_simp<;>rfl)(bT:(Act.mk ts.toArray df).put o.dst v=a':=by go_simp<;>rfl):jX (wpQuiet P l.toArray C Q (o :: rest) ⟨ts.toArray,df⟩):=by
 subst bT
 exact bD hg (λw hw=>h w hw (hF w hw)) λK h=>h _ k
theorem jr(h:∀w,C w->(execOp (Act.mk ts.toArray df).eval o).run P w=.ok (.value v) w)(k:jX (wpQuiet P l.toArray C Q rest a'))(hg:lG o.guard l ts=true:=by rfl)
  (bT:(Act.mk ts.toArray df).put o.dst v=a':=by go_simp<;>rfl):jX (wpQuiet P l.toArray C Q (o :: rest) ⟨ts.toArray,df⟩):=by
 subst bT
 exact bD hg h λK h=>h _ k
theorem cZ{f:FuncId}{cK:Func}{args:Array Value}{ca:Array Operand}{ct:Array TypeId}(hf:P.funcs[f]?=some cK)(h:∀w,C w->Calls P f args w λe w''=>e=.returned v/\C w'')(k:jX (wpQuiet P l.toArray C Q rest a'))
  (hg:lG o.guard l ts=true:=by rfl)(fP:o.op=.call {callee:=.value (.func f),args:=ca,argTypes:=ct}:=by rfl)(aH:(ca.toList.map (Act.mk ts.toArray df).eval).toArray=args:=by rfl)(hn:(cK.name== "runtime.NumGoroutine")=false:=by kernel_rfl)(eG:cK.body.isNone=false:=by kernel_rfl)
  (bT:(Act.mk ts.toArray df).put o.dst v=a':=by go_simp<;>rfl):jX (wpQuiet P l.toArray C Q (o :: rest) ⟨ts.toArray,df⟩):=by
 subst bT
 exact MV hg ca ct fP aH hf hn eG h λK h=>h _ k
theorem gu{gG:Nat}{T t:TypeId}{x:Operand}{cs:Array Value}{d:TypeDesc}(eG:∀w,C w->aL w gG t cs)(hi:(P.info? T).map (·.size)=some cs.size)(hu:P.underlying T=some d)(k:jX (wpQuiet P l.toArray C Q rest a'))
  (hg:lG o.guard l ts=true:=by rfl)(fP:o.op=.load T x:=by rfl)(hx:(Act.mk ts.toArray df).eval x=.pointer (some ⟨gG,0,none⟩):=by rfl)(hd:(match d with | .struct _ | .array _ _=>true | _=>false)=true:=by rfl)
  (bT:(Act.mk ts.toArray df).put o.dst (.agg cs)=a':=by go_simp<;>rfl):jX (wpQuiet P l.toArray C Q (o :: rest) ⟨ts.toArray,df⟩):=by
 subst bT
 exact RJ hg T x fP gG hx t cs (0,0) d eG hu hd hi λK h=>h _ k
theorem dh(gG i:Nat){T:TypeId}{x:Operand}(xs:List Value){d:TypeDesc}(eG:∀w,C w->∀j v,xs[j]?=some v->w.cell? ⟨gG,i+j,none⟩=some v)(hi:(P.info? T).map (·.size)=some xs.length)(hu:P.underlying T=some d)(k:jX (wpQuiet P l.toArray C Q rest a'))
  (hg:lG o.guard l ts=true:=by rfl)(fP:o.op=.load T x:=by rfl)(hx:(Act.mk ts.toArray df).eval x=.pointer (some ⟨gG,i,none⟩):=by rfl)(hd:(match d with | .struct _ | .array _ _=>true | _=>false)=true:=by rfl)
  (bT:(Act.mk ts.toArray df).put o.dst (.agg xs.toArray)=a':=by go_simp<;>rfl):jX (wpQuiet P l.toArray C Q (o :: rest) ⟨ts.toArray,df⟩):=by
 subst bT
 exact zT hg T x fP gG i hx xs d eG hu hd hi λK h=>h _ k
theorem bR{a:Act}(h:Q a):jX (wpQuiet P l.toArray C Q [] a):=XI h
theorem cB{id:Nat}(C:World->Prop)(hC:C {w with drawn:=w.drawn+1})(h:jX (wpQuiet P l.toArray C (λa'=>∀w',C w'->E .normal a' w') l a))
  (hm:P.follows .mixedOrders=true:=by kernel_rfl)(hB:Region.lexB .any l.toArray=true:=by kernel_rfl):(Code.region id l.toArray true).wp P E a w:=RL C hm hB hC h
theorem xP{id:Nat}{l1 l2:List Oper}(n:Nat)(C:World->Prop)(hC:C {w with drawn:=w.drawn+1})(h:jX (wpQuiet P l.toArray C (λa'=>∀w',C w'->wpList P l.toArray E l2 a' w') l1 a))
  (h1:l.take n=l1:=by rfl)(h2:l.drop n=l2:=by rfl)(hm:P.follows .mixedOrders=true:=by kernel_rfl)(hB:Region.lexTailB .any l.toArray n=true:=by kernel_rfl):(Code.region id l.toArray true).wp P E a w:=by
 subst h1 h2
 exact pq n C hm hB hC h.out
theorem aQ{w w1 w2:World}(h:Hid (Below w.heap.size w w1))(k:Below w1.heap.size w1 w2):Hid (Below w.heap.size w w2):=h.out.trans (k.mono h.out.size)
theorem bf{w w':World}{gG:Nat}{t:TypeId}{cs:Array Value}(k:Below w.heap.size w w')(h:Hid (aL w gG t cs)):Hid (aL w' gG t cs):=(k.block _ h.out.lt).trans h.out
theorem gG(n:Nat)(h:wpList P ops E (⟨some n,op,ty,pos,af,gd⟩ :: rest) a w):wpList P ops E (⟨some n,op,ty,pos,af,gd⟩ :: rest) a w:=h
theorem aH(i:Nat)(hS:S w)(k:wpAnyH P md ops E S fuel (listed.setIfInBounds i true) a' w)(hi:ops[i]?=some oi:=by rfl)
  (hy:∀w,S w->(execOp a.eval oi).run P w=.ok (.value v) w:=by intro w' hw';first| exact Mw _ rfl w' |(go_simp<;>rfl))(bT:a.put oi.dst v=a':=by go_simp<;>rfl)
  (dI:Region.noSelect ops=true:=by kernel_rfl)(hf:Region.free md ops listed i=true:=by kernel_rfl)(hr:(Region.ready md ops listed).contains i=true:=by kernel_rfl)(hg:Region.wanted oi (yielded ops a.tmps)=true:=by rfl)
  (hQ:∀c a w,E (.panic c) (a.put oi.dst v) w->E (.panic c) a w:=by exact λ_ _ _ h=>h):wpAnyH P md ops E S (fuel+1) listed a w:=by
 subst bT
 exact Cb hi dI hf hr hQ hS hg hy λK h=>h _ k
theorem eG(i:Nat)(hS:S w){F:World->Prop}(hF:∀w,S w->F w)(k:wpAnyH P md ops E S fuel (listed.setIfInBounds i true) a' w)(hi:ops[i]?=some oi:=by rfl)
  (hy:∀w,S w->F w->(execOp a.eval oi).run P w=.ok (.value v) w:=by intro w' hw' hx;go_simp<;>rfl)(bT:a.put oi.dst v=a':=by go_simp<;>rfl)
  (dI:Region.noSelect ops=true:=by kernel_rfl)(hf:Region.free md ops listed i=true:=by kernel_rfl)(hr:(Region.ready md ops listed).contains i=true:=by kernel_rfl)(hg:Region.wanted oi (yielded ops a.tmps)=true:=by rfl)
  (hQ:∀c a w,E (.panic c) (a.put oi.dst v) w->E (.panic c) a w:=by exact λ_ _ _ h=>h):wpAnyH P md ops E S (fuel+1) listed a w:=by
 subst bT
 exact Cb hi dI hf hr hQ hS hg (λw hw=>hy w hw (hF w hw)) λK h=>h _ k
theorem eO(i:Nat)(hi:ops[i]?=some oi)(hS:S w)(hy:∀w,S w->(execOp a.eval oi).run P w=.ok (.value v) w)(k:wpAnyH P md ops E S fuel (listed.setIfInBounds i true) a' w)
  (bT:a.put oi.dst v=a':=by go_simp<;>rfl)
  (dI:Region.noSelect ops=true:=by kernel_rfl)(hf:Region.free md ops listed i=true:=by kernel_rfl)(hr:(Region.ready md ops listed).contains i=true:=by kernel_rfl)(hg:Region.wanted oi (yielded ops a.tmps)=true:=by rfl)
  (hQ:∀c a w,E (.panic c) (a.put oi.dst v) w->E (.panic c) a w:=by exact λ_ _ _ h=>h):wpAnyH P md ops E S (fuel+1) listed a w:=by
 subst bT
 exact Cb hi dI hf hr hQ hS hg hy λK h=>h _ k
theorem fP(i:Nat)(h:∀K:Act->World->Prop,(∀a' w',S w'->wpAnyH P md ops E S fuel (listed.setIfInBounds i true) a' w'->K a' w')->oi.wp P a w K E)
  (hi:ops[i]?=some oi:=by rfl)(hr:Region.ready md ops listed=[i]:=by kernel_rfl)(hw:Region.wanted oi (yielded ops a.tmps)=true:=by rfl):wpAnyH P md ops E S (fuel+1) listed a w:=Ho hi hr hw h
theorem jJ{a1:Act}{w1:World}(i:Nat)(hS:S w1)(k:wpAnyH P md ops E S fuel (listed.setIfInBounds i true) a1 w1)(hi:ops[i]?=some oi:=by rfl)
  (hq:∀K:Act->World->Prop,K a1 w1->oi.wp P a w K E:=by intro K hK;go_simp;exact hK)(hr:Region.ready md ops listed=[i]:=by kernel_rfl)(hw:Region.wanted oi (yielded ops a.tmps)=true:=by rfl):wpAnyH P md ops E S (fuel+1) listed a w:=
 Ho hi hr hw λK hK=>hq K (hK _ _ hS k)
structure Oe(P:Program)(md:Region.Mode)(ops:Array Oper)(E:Exit->Act->World->Prop)(S:World->Prop)(fuel:Nat)(listed:Array Bool)(a:Act)(w:World):Prop where
 s:S w
 h:wpAnyH P md ops E S fuel listed a w
theorem aU(i:Nat)(h:oi.wp P a w (Oe P md ops E S fuel (listed.setIfInBounds i true)) E)
  (hi:ops[i]?=some oi:=by rfl)(hr:Region.ready md ops listed=[i]:=by kernel_rfl)(hw:Region.wanted oi (yielded ops a.tmps)=true:=by rfl):wpAnyH P md ops E S (fuel+1) listed a w:=by
 have e:Oe P md ops E S fuel (listed.setIfInBounds i true)=λa' w'=>S w'/\wpAnyH P md ops E S fuel (listed.setIfInBounds i true) a' w':=
  funext λa'=>funext λw'=>propext ⟨λh=>⟨h.s,h.h⟩,λh=>⟨h.1,h.2⟩⟩
 refine wpAnyH_all hr (by simp) (λj hj=>?_)
 simp only[List.mem_singleton]at hj
 subst hj
 unfold wpOp
 simp only[hi]
 rw[if_pos hw]
 rw[e]at h
 exact .inl h
theorem aV{a1:Act}(hS:S w)(k:wpAnyH P md ops E S fuel listed a1 w)(bT:a=a1:=by go_simp<;>rfl):Oe P md ops E S fuel listed a w:=⟨hS,bT ▸ k⟩
theorem bT(h:E .normal a w)(hr:Region.ready md ops listed=[]:=by kernel_rfl):wpAnyH P md ops E S fuel listed a w:=SX hr h
theorem dI{id:Nat}(S:World->Prop)(N:Nat)(h:wpAnyH P .any l.toArray E S N (Array.replicate N false) a {w with drawn:=w.drawn+1})(hN:l.length=N:=by rfl)(hm:P.follows .mixedOrders=true:=by kernel_rfl):(Code.region id l.toArray true).wp P E a w:=Nz S N hN hm h
theorem cK{f:FuncId}{cK:Func}{args:Array Value}{K:Act->World->Prop}{R:Value->World->Prop}{ca:Array Operand}{ct:Array TypeId}(hf:P.funcs[f]?=some cK)(h:Calls P f args w λe w''=>∃v,e=.returned v/\R v w'')(aU:∀v w'',R v w''->K (a.put o.dst v) w'')
  (fP:o.op=.call {callee:=.value (.func f),args:=ca,argTypes:=ct}:=by rfl)(aH:(ca.toList.map a.eval).toArray=args:=by rfl)(hn:(cK.name== "runtime.NumGoroutine")=false:=by kernel_rfl)(eG:cK.body.isNone=false:=by kernel_rfl):o.wp P a w K E:=Xw ca ct fP aH hf hn eG h aU
theorem fM{K:Act->World->Prop}{gG:Nat}{T:TypeId}{x y:Operand}{t:TypeId}{cells old:Array Value}(hB:aL w gG t old)(hi:(P.info? T).map (·.size)=some cells.size)(hq:old.size=cells.size)(h1:cells.all (·.oneCell')=true)(h:∀w',aL w' gG t cells->au (·=gG) w w'->K (a.put o.dst undef) w')
  (fP:o.op=.store T x y:=by rfl)(hx:a.eval x=.pointer (some ⟨gG,0,none⟩):=by rfl)(hy:a.eval y=.agg cells:=by rfl):o.wp P a w K E:=Ej T x y fP gG cells hx hy t old hB hi hq h1 h
theorem iL(s x:Operand){t e:TypeId}{base:Nat}{i:TypeInfo}{z:Value}{size bytes:Nat}(ht:P.underlying t=some (.slice e))(hi:P.info? e=some i)(hz:i.zero=some z)(hsize:i.size=size)(hby:i.bytes=bytes){n:Nat}{xs:List Value}(hown:w.ownsRow base e size v n xs)
  {A:Option Addr}{m c:Nat}{news:List Value}(hr:ax w size A m news)(hnil:A=none->m=0/\c=0)(h1:∀u∈news,u.oneCell'=true)(h63:n+m<=maxLen)(hbytes:(n+m)*bytes<=140737488355328)(hbase:base<=w.heap.size)
  (h:∀v' w',rC w base e size v n m xs news v' w'->wpList P ops E rest (a.put o.dst v') w')(hgd:o.guard=none:=by rfl)(fP:o.op=.call {callee:=.builtin .append,args:=#[s,x],argTypes:=#[t,t]}:=by rfl)(hzs:z.cells.size=size:=by rfl)(hsz:0 < size:=by decide)
  (dI:a.eval s=v:=by rfl)(hx:a.eval x=.slice A m c:=by rfl):wpList P ops E (o :: rest) a w:=dD w hgd s x t fP base e i z size bytes ht hi hz hsize hby hzs hsz v n xs dI hown A m c news hx hr hnil h1 h63 hbytes hbase h
theorem jK(s x:Operand){K:Act->World->Prop}{t e:TypeId}{base:Nat}{i:TypeInfo}{z:Value}{size bytes:Nat}(ht:P.underlying t=some (.slice e))(hi:P.info? e=some i)(hz:i.zero=some z)(hsize:i.size=size)(hby:i.bytes=bytes){n:Nat}{xs:List Value}(hown:w.ownsRow base e size v n xs)
  {A:Option Addr}{m c:Nat}{news:List Value}(hr:ax w size A m news)(hnil:A=none->m=0/\c=0)(h1:∀u∈news,u.oneCell'=true)(h63:n+m<=maxLen)(hbytes:(n+m)*bytes<=140737488355328)(hbase:base<=w.heap.size)
  (h:∀v' w',rC w base e size v n m xs news v' w'->K (a.put o.dst v') w')(fP:o.op=.call {callee:=.builtin .append,args:=#[s,x],argTypes:=#[t,t]}:=by rfl)(hzs:z.cells.size=size:=by rfl)(hsz:0 < size:=by decide)
  (dI:a.eval s=v:=by rfl)(hx:a.eval x=.slice A m c:=by rfl):o.wp P a w K E:=gW w s x t fP base e i z size bytes ht hi hz hsize hby hzs hsz v n xs dI hown A m c news hx hr hnil h1 h63 hbytes hbase h
theorem gI{cK:Func}{R:Ending->World->Prop}{p:Tmp}{ty t:TypeId}{gG:Nat}{cs:Array Value}{d:TypeDesc}(hg:aL w gG t cs)(hi:(P.info? ty).map (·.size)=some cs.size)(hu:P.underlying ty=some d)(hR:R (.returned (.agg cs)) w)
  (h:cK.results=#[.cell p ty]:=by rfl)(hp:a.tmps.getD p undef=.pointer (some ⟨gG,0,none⟩):=by rfl)(hd:(match d with | .struct _ | .array _ _=>true | _=>false)=true:=by rfl)(hdf:a.defers=[]:=by rfl):bodyPost P cK R .ret a w:=
 bodyPost_ret (results_cell_row h a.tmps w gG t cs (0,0) d hp hg hu hd hi) hdf hR
end
abbrev bq(f:FuncId)(args:Array Value)(w:World)(v:Value):Prop:=Calls prog f args w λe w'=>e=.returned v/\Below w.heap.size w w'
abbrev av(w w':World):Prop:=Below w.heap.size w w'
theorem aS{α:Sort _}(a:α):∃x,Hid (a=x):=⟨a,rfl⟩
theorem fB{α:Sort _}(a:α):∃x,x=a:=⟨a,rfl⟩
theorem l9(b:World)(d:Nat)(g:d<=b.heap.size)(e:TypeId)(c:Array Value)(a:Nat)(f:c.size=a)(h:a<=maxLen):(b.alloc (.cells c e)).ownsRow d e 1 (.slice (some ⟨b.heap.size,0,none⟩) a a) a c.toList:=
 ⟨by simp[f],.inr ⟨b.heap.size,a,c,rfl,g,heap_alloc_new b _,AJ _,h,ah,by rw[List.take_of_length_le (by simp[f])]⟩⟩
theorem jf{f:World}{d g h a:Nat}{b:Option Addr}{e:Nat}{i:List Value}(j:f.ownsRow d g h (.slice b a e) a i):∀c,Value.ownBlock (.slice b a e)=some c->d<=c:=by
 intro c a;obtain⟨e,c2,c,_,_,_,_,d⟩:=Own.reads j;(injection c with c _ e);subst c;cases b with
 | none=>cases a
 | some b=>injection a with a;subst a;exact(d b rfl).1
theorem dz{w a:World}{b c d e:Nat}{f:Value}{g:List Value}(h:w.ownsRow b c d f e g)(i:av w a):a.ownsRow b c d f e g:=
 ⟨h.1,h.2.imp id λ⟨a,c,d,e,f,b,g⟩=>⟨a,c,d,e,f,(i.block a (Ay.1 b).1).trans b,g⟩⟩
theorem dM{w c:World}{a b f:Nat}{g:Option Addr}{h:Nat}{e i:aj}{j:Value}(k:rC w a 5 1 (.slice g b h) b f (ak e) (ak i) j c){l:World}(n:Below a l w)(o:a<=w.heap.size)(p:w.ownsRow a 5 1 (.slice g b h) b (ak e))(m:aj)(hs:m=e++i)(d:Nat)(q:d=b+f):
  ∃b e,j=.slice b d e/\Hid (c.ownsRow a 5 1 (.slice b d e) d (ak m))/\Hid (Below a l c):=by
 subst hs
 subst q
 have a:=k.own
 obtain⟨b,e,rfl,-⟩:=Own.reads a
 refine⟨b,e,rfl,?_,k.below n o (jf p)⟩
 show c.ownsRow _ _ _ _ _ _
 simpa[ak]using a
theorem iH{w:World}{e b:Nat}{f:Value}{g:aj}(h:w.ownsRow e 5 1 f b (ak g)):∃a c,f=.slice a b c/\b<=c/\(a=none->b=0/\c=0)/\ax w 1 a b (ak g)/\(∀d,a=some d->e<=d.block):=by
 obtain⟨a,c,b,e,-,f,g,i⟩:=Own.reads h;exact⟨a,c,b,e,f,g,λd h=>(i d h).1⟩
def jk(ds:List aj):Prop:=∀d∈ds,d.length=32
theorem jk.oo{ds:List aj}(a:jk ds)(k:Nat):jk (ds.take k):=λb hd=>a b (CO hd)
theorem jk.Df{ds:List aj}(a:jk ds)(k:Nat):jk (ds.drop k):=λb hd=>a b (List.mem_of_mem_drop hd)
theorem jk.at_{ds:List aj}(h:jk ds){i:Nat}{d:aj}(a:ds[i]?=some d):d.length=32:=h d (Ab a)
theorem jk.append_{a b:List aj}(c:jk a)(d:jk b):jk (a++b):=λb hd=>by
 rcases Aj.1 hd with a | a
 ·exact c b a
 ·exact d b a
theorem jk.one{a:aj}(b:a.length=32):jk [a]:=λa hx=>by simp only[List.mem_singleton]at hx;rw[hx,b]
def j6(w:World)(A:Option Addr)(n:Nat)(ds:List aj):Prop:=ds.length=n/\jk ds/\ax w 32 A n (ds.flatMap ak)
section
variable {w w':World} {A:Option Addr} {n:Nat} {ds:List aj}
theorem j6.below(h:j6 w A n ds)(a:av w w'):j6 w' A n ds:=⟨h.1,h.2.1,h.2.2.below a⟩
theorem j6.drewN(a:j6 w A n ds)(b:Nat):j6 (w.drewN b) A n ds:=⟨a.1,a.2.1,a.2.2.drewN b⟩
theorem j6.oI(w:World)(A:Option Addr):j6 w A 0 []:=⟨rfl,(λ_ a=>by cases a),ax.oI _ _ _⟩
theorem j6.at_(h:j6 w A n ds){i:Nat}{d:aj}(f:ds[i]?=some d):∃a c,A=some ⟨a,c,none⟩/\a < w.heap.size/\∀e b,(ak d)[e]?=some b->w.cell? ⟨a,c+i*32+e,none⟩=some b:=by
 have g:=(AU.1 f).1;obtain⟨a,c,g,j,k⟩:=h.2.2.2 (aC h.1);refine⟨a,c,g,j,λe b l=>?_⟩;rw[Nat.add_assoc];exact k _ b (by have:=Eb ds h.2.1 i d f e b l;first| exact this |(rw[Nat.mul_comm 32 i]at this;exact this))
theorem uj:∀(ds:List aj) (a:Nat),jk ds->(ds.flatMap ak).take (a*32)=(ds.take a).flatMap ak
 | [],a,_=>by simp
 | b :: ds,0,_=>by simp
 | b :: ds,a+1,c=>by
  have d:=uj ds a (λe hx=>c e (List.mem_cons_of_mem _ hx));(have e:(ak b).length=32:=by rw[aB];exact c b (List.mem_cons_self ..));simp only[List.flatMap_cons,List.take_succ_cons];rw[List.take_append,e,List.take_of_length_le ah,show(a+1)*32 - 32=a*32 by omega,d]
theorem qg:∀(ds:List aj) (a:Nat),jk ds->(ds.flatMap ak).drop (a*32)=(ds.drop a).flatMap ak
 | [],a,_=>by simp
 | b :: ds,0,_=>by simp
 | b :: ds,a+1,c=>by
  have d:=qg ds a (λe hx=>c e (List.mem_cons_of_mem _ hx));(have e:(ak b).length=32:=by rw[aB];exact c b (List.mem_cons_self ..));simp only[List.flatMap_cons,List.drop_succ_cons];rw[List.drop_append,e,List.drop_of_length_le ah,show(a+1)*32 - 32=a*32 by omega,d,List.nil_append]
theorem kH(ds:List aj)(a:jk ds):(ds.flatMap ak).length=ds.length*32:=by rw[(zi ds a).2,Nat.mul_comm]
theorem j6.oo(a:j6 w A n ds)(k:Nat)(b:k<=n):j6 w A k (ds.take k):=by
 have b:=a.1;refine⟨by rw[List.length_take];omega,a.2.1.oo k,?_⟩;refine⟨by rw[kH _ (a.2.1.oo k),List.length_take];congr 1;omega,λh0=>?_⟩;obtain⟨d,e,f,g,h⟩:=a.2.2.2 ah;refine⟨d,e,f,g,λc u b=>h c u ?_⟩;rw[<-uj ds k a.2.1,List.getElem?_take]at b;by_cases a:c < k*32
 ·rw[if_pos a]at b;exact b
 ·rw[if_neg a]at b;cases b
def X4(A:Option Addr)(k c:Nat):Option Addr:=if c=k then A else A.map (·.add (k*32))
theorem j6.Df(a:j6 w A n ds)(k c:Nat)(b:k<=n)(d:n<=c):j6 w (X4 A k c) (n - k) (ds.drop k):=by
 have b:=a.1;refine⟨by rw[List.length_drop];omega,a.2.1.Df k,?_⟩;refine⟨by rw[kH _ (a.2.1.Df k),List.length_drop];congr 1;omega,λh0=>?_⟩;obtain⟨b,d,e,f,g⟩:=a.2.2.2 ah;subst e;refine⟨b,d+k*32,by unfold X4;rw[if_neg ah,Option.map_some,eD],f,λd u b=>?_⟩;rw[Nat.add_assoc];apply g;rw[<-qg ds k a.2.1,List.getElem?_drop]at b;exact b
end
theorem Uv(w:World):(sizeOf (prog.elem 44)).run prog w=.ok 32 w:=by kernel_rfl
theorem Xx:prog.underlying 44=some (.slice (prog.elem 44)):=by kernel_rfl
theorem vY{A:Option Addr}{n c k:Nat}(b:k<=c)(a:Int)(hx:a=k)(w:World):
  (Instr.sliceAt 44 (.slice A n c) none (some (.int .i64 a)) none).run prog w=.ok (.slice A k c) w:=by
 subst hx
 rw[run_sliceAt_slice w _ _ _ _ _ Xx,run_slice_h w _ A n c Xx .i64 (k:Int) ah ah,Uv]
 simp only[Result.andThen,sliced,Int.toNat_natCast,Nat.zero_mul,Nat.sub_zero]
 cases A with
 | none=>simp
 | some a=>simp[pW]
theorem Tg(a:aj)(hx:a.length=32):(prog.info? 23).map (·.size)=some (ak a).toArray.size:=jN.trans (congrArg some (by simp[aB,hx]))
theorem Vw(a:aj):(ak a).toArray.all (λb=>b.oneCell')=true:=by rw[List.all_toArray];exact List.all_eq_true.2 (aY a)
structure Gm(x:aj):Prop where
 size:(prog.info? 23).map (·.size)=some (ak x).toArray.size
 same:∀y:aj,y.length=32->(ak y).toArray.size=(ak x).toArray.size
 zero:(bF:Array Value).size=(ak x).toArray.size
 one:((ak x).toArray.all λv=>v.oneCell')=true
 part:(prog.info? 23).map (·.size)=some (ak x).length
theorem aP{x:aj}(a:x.length=32):Gm x:=⟨Tg x a,λc b=>by simp[aB,a,b],by simp[aB,a,bF],Vw x,by rw[aB,a];exact jN⟩
