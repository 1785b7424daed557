import Derived.Test.YtgldkfaiofkhbaaGreatDoorZ2
import Derived.Test.YtgldkfaiofkhbaaGreatDoorZ1
import Derived.Test.YtgldkfaiofkhbaaGreatDoorRows
import Derived.Great.BuildSlice
import Derived.Great.FillDense
import Derived.ChangeKeysEq
import Derived.Laws.StructEq
namespace Go.Proofs.YtgldkfaiofkhbaaGreatDoor
open Go Go.RowKit Go.Proofs.Tryz
def iF(x:BitVec 8):Value:=.int .u8 (b8 x)
def ak(l:aj):List Value:=l.map iF
theorem aB(a:aj):(ak a).length=a.length:=by simp[ak]
theorem eu(a:aj)(b:Nat)(c:b < a.length):(ak a)[b]?=some (iF (a.getD b 0)):=by
 simp[ak,List.getD,c]
theorem qC{e:Type}(c:List e)(a:Nat)(d:List e)(f:a+d.length<=c.length)(b:Nat):
  (splice c a d)[b]?=if b < a then c[b]? else if b < a+d.length then d[b - a]? else c[b]?:=by
 unfold splice
 by_cases e:b < a
 ·rw[if_pos e,List.getElem?_append_left (by simp;omega),List.getElem?_take,if_pos e]
 ·rw[if_neg e,List.getElem?_append_right (by simp;omega)]
  (have e:(c.take a).length=a:=by simp;omega);rw[e];by_cases c:b < a+d.length
  ·rw[if_pos c,List.getElem?_append_left ah]
  ·rw[if_neg c,List.getElem?_append_right ah,List.getElem?_drop]
   congr 1;omega
theorem aY(b:aj):∀a∈ak b,a.oneCell'=true:=by
 intro a b;obtain⟨a,_,rfl⟩:=Aq.1 b;rfl
theorem ax.src{b:World}{e:Option Addr}{f:Nat}{g:aj}(h:ax b 1 e f (ak g))(c:Nat)(j:c<=f)(h0:0 < c):∃i,e=some i/\∀a d,(ak (g.take c))[a]?=some d->b.cell? (i.add a)=some d:=by
 obtain⟨b,g,e,i,f⟩:=h.2 ah;refine⟨_,e,λa d b=>?_⟩;rw[eD];refine f a d ?_;have d:=h.1;rw[aB]at d;simp only[ak,List.getElem?_map,List.getElem?_take]at b ⊢;by_cases d:a < c
 ·rw[if_pos d]at b
  exact b
 ·rw[if_neg d]at b
  cases b
theorem ax.Yv{w:World}{b c d e:Nat}{f:aj}(g:ax w 1 (some ⟨b,c,none⟩) d (ak (f.drop e)))(a:Nat)(h:a < d):w.cell? ⟨b,c+a,none⟩=some (.int .u8 (b8 (f.getD (e+a) 0))):=by
 obtain⟨d,e,b,f,c⟩:=g.2 ah;(injection b with b);(injection b with d e);subst d;subst e;refine c a _ ?_;have a:=g.1;rw[aB]at a;rw[eu _ _ ah];unfold iF;congr 3;simp[List.getD]
theorem jg{e:Array Value}(g:∀(b:Nat) (c:Value),e[b]?=some c->c.oneCell'=true)(f:Nat)(u:Value)(h:u.oneCell'=true):∀(b:Nat) (c:Value),(e.setIfInBounds f u)[b]?=some c->c.oneCell'=true:=by
 intro b c a;rw[Array.getElem?_setIfInBounds]at a;by_cases d:f=b
 ·rw[if_pos d]at a
  by_cases f:b < e.size
  ·subst d
   rw[if_pos f]at a;obtain rfl:=AL a;exact h
  ·subst d
   rw[if_neg f]at a;cases a
 ·rw[if_neg d]at a
  exact g b c a
theorem au.setRow{S:Nat->Prop}{d b:World}(a:au S d b){c:Nat}(f:S c)(e:Array Value):au S d (b.setRow c e):=
 ⟨a.os,a.tape,a.output,by have:=a.size;simpa[World.setRow]using this,λd g hs=>(setRow_other b c d e (by rintro rfl;exact hs f)).trans (a.block d g hs)⟩
theorem l5{d:Program}{c:World}{x:Array Oper}{rest:List Oper}{o:Oper}{e:Act}{y:Exit->Act->World->Prop}(z:o.guard=none)(f g:Operand)(h s:TypeId)
  (A:o.op=.call {callee:=.builtin .copy,args:=#[f,g],argTypes:=#[h,s]})(i:TypeId)(B:d.underlying h=some (.slice i))(C:(d.info? i).map (·.size)=some 1)
  (t u:Option Addr)(j v k w:Nat)(hd:e.eval f=.slice t j v)(hs:e.eval g=.slice u k w)
  (b l:Nat)(m:Array Value)(n:TypeId)(p:aL c b n m)(a:List Value)(D:a.length=Nat.min k j)
  (I:0 < a.length->t=some ⟨b,l,none⟩/\∃q,u=some q/\∀E r,a[E]?=some r->c.cell? (q.add E)=some r)
  (J:l+a.length<=m.size)(K:∀r∈a,r.oneCell'=true)(E:World)(F:au (·=b) E c)(G:Nat)(L:a.length=G)
  (H:∀r,Hid (aL r b n (splice m.toList l a).toArray)->au (·=b) E r->wpList d x y rest (e.put o.dst (goInt G)) r):
  wpList d x y (o :: rest) e c:=by
 subst L
 by_cases h0:a.length=0
 ·obtain rfl:a=[]:=Ap h0
  refine wpList_copy_nothing z f g h s A i B C t u j v k w hd hs (by simpa using D.symm) ?_;exact H c (show _=_ by unfold aL at p;simpa[splice]using p) F
 ·obtain⟨rfl,q,rfl,d⟩:=I ah
  refine wpList_copy_own z f g h s A i B C b l j v q k w hd hs m n p a D d (by simpa using J) K ?_;exact H _ (show _=_ by simpa[splice]using setRow_heap c b _ _ n _ p) (au.setRow F rfl _)
theorem Et{P:Program}{t:Array Oper}{o:Oper}{c:Act}{w:World}{K:Act->World->Prop}{D:Exit->Act->World->Prop}{E:Prop}(F:o.guard=none)(a b:Operand)(d n:TypeId)
  (u:o.op=.call {callee:=.builtin .copy,args:=#[a,b],argTypes:=#[d,n]})(e:TypeId)(v:P.underlying d=some (.slice e))(x:(P.info? e).map (·.size)=some 1)
  (p q:Option Addr)(f r g s:Nat)(hd:c.eval a=.slice p f r)(hs:c.eval b=.slice q g s)
  (b h:Nat)(i:Array Value)(j:TypeId)(k:aL w b j i)(a:List Value)(y:a.length=Nat.min g f)
  (G:0 < a.length->p=some ⟨b,h,none⟩/\∃l,q=some l/\∀z m,a[z]?=some m->w.cell? (l.add z)=some m)
  (H:h+a.length<=i.size)(I:∀m∈a,m.oneCell'=true)(z:World)(A:au (·=b) z w)(B:Nat)(J:a.length=B)
  (C:∀m,Hid (aL m b j (splice i.toList h a).toArray)->au (·=b) z m->K (c.put o.dst (goInt B)) m):
  if Region.wanted o (yielded t c.tmps)=true then Oper.wp P o c w K D else E:=by
 subst J
 have m:Region.wanted o (yielded t c.tmps)=true:=by simp[Region.wanted,F]
 rw[if_pos m]
 by_cases h0:a.length=0
 ·obtain rfl:a=[]:=Ap h0
  have c:=run_copy_none (P:=P) w d n o.type e p q f r g s v x (by simpa using y.symm);unfold Oper.wp;simp[execOp,u,resolve,invoke,builtin,hd,hs,c,Result.andThen];exact C w (show _=_ by unfold aL at k;simpa[splice]using k) A
 ·obtain⟨rfl,l,rfl,m⟩:=G ah
  have c:=run_copy_row (P:=P) w d n o.type e b h f r l g s i j a v x k y m (by simpa using H) I;unfold Oper.wp;simp[execOp,u,resolve,invoke,builtin,hd,hs,c,Result.andThen];exact C _ (show _=_ by simpa[splice]using setRow_heap w b _ _ j _ k) (au.setRow A rfl _)
theorem dX(a:Int)(h0:0<=a)(b:a < 18446744073709551616):IntKind.u64.wrap a=a:=by
 simp only[IntKind.wrap,IntKind.bits,IntKind.signed];simp;omega
def vM(A:Option Addr)(m c:Nat):Option Addr:=if c=m then A else A.map (·.add m)
theorem OD{c:Program}{b:TypeId}{f:Option Addr}{d e m:Nat}(g:c.underlying b=some (.slice (c.elem b)))(hs:∀a,(sizeOf (c.elem b)).run c a=.ok 1 a)(h:m<=d)(a:World):
  (Instr.sliceAt b (.slice f d e) (some (.int .i64 (m:Int))) none none).run c a=.ok (.slice (vM f m e) (d - m) (e - m)) a:=by
 rw[run_sliceAt_slice a b _ _ _ _ g,run_slice_l a b f d e g .i64 (m:Int) ah ah,hs]
 simp[Result.andThen,sliced,vM]
theorem MB{a:Program}{b:TypeId}{e f N c:Nat}(g:a.underlying b=some (.array (a.arrayLen b) (a.elem b)))(h:a.arrayLen b=N)(hs:∀d,(sizeOf (a.elem b)).run a d=.ok 1 d)(i:c < N)(d:World):
  (Instr.sliceAt b (.pointer (some ⟨e,f,none⟩)) (some (.int .i64 (c:Int))) none none).run a d=.ok (.slice (some ⟨e,f+c,none⟩) (N - c) (N - c)) d:=by
 rw[run_sliceAt_array_l d b _ g .i64 (c:Int) ah ah,hs]
 simp only[Result.andThen,slicedAt,h,Int.toNat_natCast,Nat.mul_one]
 rw[if_neg ah,eD]
theorem Ry{c:Program}{b:TypeId}{e f g d m:Nat}(h:c.underlying b=some (.slice (c.elem b)))(hs:∀a,(sizeOf (c.elem b)).run c a=.ok 1 a)(i:m<=d)(a:World):
  (Instr.sliceAt b (.slice (some ⟨e,f,none⟩) g d) none (some (.int .i64 (m:Int))) none).run c a=.ok (.slice (some ⟨e,f,none⟩) m d) a:=by
 rw[run_sliceAt_slice a b _ _ _ _ h,run_slice_h a b _ g d h .i64 (m:Int) ah ah,hs]
 simp only[Result.andThen,sliced,Int.toNat_natCast,Nat.zero_mul,Nat.sub_zero,Option.map_some,eD,Nat.add_zero,ite_self]
theorem Ka{a:Program}{b:TypeId}{e f N d:Nat}(h:a.underlying b=some (.array (a.arrayLen b) (a.elem b)))(i:a.arrayLen b=N)(hs:∀c,(sizeOf (a.elem b)).run a c=.ok 1 c)(j:d<=N)(g:Int)(hx:g=d)(c:World):
  (Instr.sliceAt b (.pointer (some ⟨e,f,none⟩)) none (some (.int .i64 g)) none).run a c=.ok (.slice (some ⟨e,f,none⟩) d N) c:=by
 subst hx
 rw[run_sliceAt_array_h c b _ h .i64 (d:Int) ah ah,hs]
 simp only[Result.andThen,slicedAt,i,Int.toNat_natCast,Nat.zero_mul,Nat.sub_zero,eD,Nat.add_zero,ite_self]
def kS(A:Option Addr)(g:Nat):Prop:=∀a,A=some a->a.block≠g
theorem zk{a:Option Addr}{b c d:Nat}(e:kS a d):kS (vM a b c) d:=by
 intro f hx;unfold vM at hx;by_cases d:c=b
 ·rw[if_pos d]at hx
  exact e f hx
 ·rw[if_neg d]at hx
  cases a with
  | none=>cases hx
  | some a=>
   simp only[Option.map_some,Option.some.injEq]at hx;subst hx;have:=e a rfl;unfold Addr.add
   split<;>exact this
theorem ax.cut{c:World}{d:Option Addr}{b e:Nat}{f:List Value}(g:ax c 1 d b f)(a:Nat)(h:a<=b)(i:b<=e):ax c 1 (vM d a e) (b - a) (f.drop a):=by
 refine⟨by rw[List.length_drop,g.1];omega,λb=>?_⟩;obtain⟨c,d,b,e,f⟩:=g.2 ah;subst b;refine⟨c,d+a,?_,e,λg h b=>?_⟩
 ·unfold vM
  rw[if_neg ah,Option.map_some,eD]
 ·rw[List.getElem?_drop]at b
  have:=f (a+g) h b;rw[Nat.add_assoc];exact this
def gq(w:World)(A:Option Addr)(ps:List aj):Prop:=
 0 < ps.length->∃b o,A=some ⟨b,o,none⟩/\b < w.heap.size/\
  ∀i q,ps[i]?=some q->∃Ai ci,w.cell? ⟨b,o+i,none⟩=some (.slice Ai q.length ci)/\q.length<=ci/\ax w 1 Ai q.length (ak q)/\(Ai=none->q.length=0/\ci=0)
theorem gq.below{w b:World}{A:Option Addr}{c:List aj}(h:gq w A c)(a:Below w.heap.size w b):gq b A c:=by
 intro h0;obtain⟨b,c,d,e,f⟩:=h h0;refine⟨b,c,d,by have:=a.size;omega,λd g i=>?_⟩;obtain⟨j,k,l,m,n,o⟩:=f d g i;exact⟨j,k,(a.cell (p:=⟨b,c+d,none⟩) e).trans l,m,n.below a,o⟩
theorem au.aW{b d:World}{e c:Nat}(a:au (·=e) b d)(f:c<=e)(g:c<=b.heap.size):Below c b d:=⟨a.os,a.tape,a.output,a.size,λb c=>a.block b ah ah⟩
theorem Below.aJ(w:World)(o:Obj):Below w.heap.size w (w.alloc o):=(Below.refl _ w).alloc (AJ _) o
theorem WN(b:BitVec 8)(a:Nat)(u:Value)(c:(ak [b])[a]?=some u):(#[Value.int .u8 (b8 b)]:Array Value)[a]?=some u:=by
 match a with
 | 0=>exact c
 | a+1=>simp[ak]at c
def kb(k:Int):BitVec 8:=BitVec.ofInt 8 k
theorem SG(a:Int):a % 256=b8 (kb a):=by
 unfold b8 kb;rw[BitVec.toNat_ofInt];omega
theorem Jb(a:Int):IntKind.u8.wrap a=b8 (kb a):=by
 rw[<-SG];simp[IntKind.wrap,IntKind.bits,IntKind.signed]
theorem je{P:Program}{c:World}{d:Nat}{e:TypeId}{b:Array Value}{a:List Value}(g:aL c d e b)(hs:b.size=a.length)(h:∀f∈a,f.oneCell'=true):(storeCells ⟨d,0,none⟩ a).run P c=.ok () (c.setRow d a.toArray):=by
 have f:=run_storeCells_at (P:=P) d 0 e a 0 b c g ah h
 have c:b.toList.take (0+0)++a++b.toList.drop (0+0+a.length)=a:=by
  rw[List.drop_eq_nil_of_le (by simp;omega)];simp
 rw[c]at f;exact f
theorem kU{b:World}{c:Nat}{a:aj}{d:TypeId}(e:b.heap[c]?=some (.cells (ak a).toArray d (0,0))):ax b 1 (some ⟨c,0,none⟩) a.length (ak a):=
 aL.reads (cs:=(ak a).toArray) e 0 (ak a) (by rw[aB,Nat.mul_one]) (λc u b=>by rw[Nat.zero_add,List.getElem?_toArray];exact b)
theorem pW(a:Addr):a.add 0=a:=by unfold Addr.add;rw[if_pos rfl]
theorem qE{P:Program}{t:TypeId}{A:Option Addr}{n c m:Nat}(b:P.underlying t=some (.slice (P.elem t)))(hs:∀a,(sizeOf (P.elem t)).run P a=.ok 1 a)(e:m<=c)(d:Int)(hx:d=m)(a:World):
  (Instr.sliceAt t (.slice A n c) none (some (.int .i64 d)) none).run P a=.ok (.slice A m c) a:=by
 subst hx
 rw[run_sliceAt_slice a t _ _ _ _ b,run_slice_h a t A n c b .i64 (m:Int) ah ah,hs]
 have a:A.map (·.add (0*1))=A:=by
  cases A with
  | none=>rfl
  | some b=>simp[pW]
 simp only[Result.andThen,sliced,Int.toNat_natCast,Nat.sub_zero,a,ite_self]
theorem ax.front{c:World}{d:Option Addr}{a:aj}(e:ax c 1 d a.length (ak a))(b:Nat)(f:b<=a.length):ax c 1 d b (ak (a.take b)):=by
 refine⟨by rw[aB,List.length_take];omega,λh0=>?_⟩;obtain⟨d,f,g,h,i⟩:=e.2 ah;refine⟨d,f,g,h,λc u a=>i c u ?_⟩;simp only[ak,List.getElem?_map,List.getElem?_take]at a ⊢;by_cases d:c < b
 ·rw[if_pos d]at a
  exact a
 ·rw[if_neg d]at a
  cases a
theorem iX.below'{b c:World}{a d e:Nat}{f:TypeId}{g:Nat->Value}(h:iX b a f d g)(i:Below e b c)(j:a < e):iX c a f d g:=by
 obtain⟨b,c,d⟩:=h;exact⟨b,(i.block a j).trans c,d⟩
theorem pI:(prog.info? 5).map (λa=>(a.zero,a.size,a.bytes))=some (some (.int .u8 0),1,1):=by kernel_rfl
theorem fT{c:Program}{d:TypeId}{z:Value}{e f:Nat}(b:(c.info? d).map (λa=>(a.zero,a.size,a.bytes))=some (some z,e,f)):∃a:TypeInfo,c.info? d=some a/\a.zero=some z/\a.size=e/\a.bytes=f:=by
 cases hq:c.info? d with
 | none=>simp[hq]at b
 | some a=>
  simp[hq]at b;exact⟨a,rfl,b.1,b.2.1,b.2.2⟩
theorem JZ:(prog.info? 5).map (·.size)=some 1:=by kernel_rfl
theorem l8{P:Program}(a:World)(f g:Nat)(b:TypeId)(c:List Value)(h:TypeDesc)(j:∀d e,c[d]?=some e->a.cell? ⟨f,g+d,none⟩=some e)
  (k:P.underlying b=some h)(hd:(match h with | .struct _ | .array _ _=>true | _=>false)=true)(i:(P.info? b).map (·.size)=some c.length):
  (loadVar b ⟨f,g,none⟩).run P a=.ok (.agg c.toArray) a:=by
 have l:=run_loadCells_list (P:=P) a ⟨f,g,none⟩ c (λd e m=>by rw[eD];exact j d e m)
 cases hq:P.info? b with
 | none=>simp[hq]at i
 | some d=>
  have hs:d.size=c.length:=by simpa[hq]using i
  have c:(isAgg b).run P a=.ok true a:=by
   unfold isAgg;rw[Sem.run_bind,run_underlying k a];cases h<;>simp_all
  simp[loadVar,Sem.run_bind,c,sizeOf,typeInfo,hq,hs,l]
theorem ow{a:Program}{i:Array Oper}{rest:List Oper}{o:Oper}{e:Act}{b:World}{j:Exit->Act->World->Prop}(n:o.guard=none)(c:TypeId)(k:Operand)(p:o.op=.load c k)
  (f g:Nat)(hx:e.eval k=.pointer (some ⟨f,g,none⟩))(d:List Value)(h:TypeDesc)(q:∀l m,d[l]?=some m->b.cell? ⟨f,g+l,none⟩=some m)
  (k:a.underlying c=some h)(hd:(match h with | .struct _ | .array _ _=>true | _=>false)=true)(l:(a.info? c).map (·.size)=some d.length)
  (m:wpList a i j rest (e.put o.dst (.agg d.toArray)) b):wpList a i j (o :: rest) e b:=by
 refine wpList_plain n λK a=>?_
 unfold Oper.wp execOp
 simp only[p,hx,Instr.loadAt,Instr.sureAddr,Sem.run_bind,Sem.run_pure,Result.andThen_ok,l8 b f g c d h q k hd l]
 exact a _ _ m
def bF:Array Value:=#[.int .u8 0,.int .u8 0,.int .u8 0,.int .u8 0,.int .u8 0,.int .u8 0,.int .u8 0,.int .u8 0,.int .u8 0,.int .u8 0,.int .u8 0,.int .u8 0,.int .u8 0,.int .u8 0,.int .u8 0,.int .u8 0,.int .u8 0,.int .u8 0,.int .u8 0,.int .u8 0,.int .u8 0,.int .u8 0,.int .u8 0,.int .u8 0,.int .u8 0,.int .u8 0,.int .u8 0,.int .u8 0,.int .u8 0,.int .u8 0,.int .u8 0,.int .u8 0]
theorem jN:(prog.info? 23).map (·.size)=some 32:=by kernel_rfl
theorem zx(a:World)(e b:Array Value)(c:TypeId):(a.alloc (.cells e c)).setRow a.heap.size b=a.alloc (.cells b c):=by
 have d:((a.heap.push (Obj.cells e c)).modify a.heap.size λf=>match f with
   | .cells _ e f=>.cells b e f
   | e=>e)=a.heap.push (Obj.cells b c):=by
  apply Array.ext_getElem?
  intro c
  rw[Array.getElem?_modify,Array.getElem?_push,Array.getElem?_push]
  by_cases b:c=a.heap.size
  ·subst b
   simp
  ·rw[if_neg (λc=>b c.symm),if_neg b,if_neg b]
 unfold World.setRow World.alloc;exact congrArg (λd=>({a with heap:=d}:World)) d
theorem Eb(c:List aj)(hd:∀b∈c,b.length=32)(a:Nat)(b:aj)(d:c[a]?=some b)(e:Nat)(f:Value)(g:(ak b)[e]?=some f):(c.flatMap ak)[a*32+e]?=some f:=by
 induction c generalizing a with
 | nil=>simp at d
 | cons c h f=>
  have hx:=hd c aZ;cases a with
  | zero=>
   simp only[List.getElem?_cons_zero,Option.some.injEq]at d;subst d;have c:=(AU.1 g).1;rw[List.flatMap_cons,Nat.zero_mul,Nat.zero_add,List.getElem?_append_left c,g]
  | succ a=>
   have c:=f (λb g=>hd b (by simp[g])) a (by simpa using d);rw[List.flatMap_cons,List.getElem?_append_right (by rw[aB,hx];omega),aB,hx,show(a+1)*32+e - 32=a*32+e by omega,c]
theorem zi(a:List aj)(hd:∀b∈a,b.length=32):a.flatten.length=32*a.length/\(a.flatMap ak).length=32*a.length:=by
 induction a with
 | nil=>exact⟨rfl,rfl⟩
 | cons a d c=>
  obtain⟨d,e⟩:=c (λb f=>hd b (by simp[f]));have hx:=hd a aZ;refine⟨by rw[List.flatten_cons,List.length_append,d,hx,List.length_cons];omega,by rw[List.flatMap_cons,List.length_append,e,aB,hx,List.length_cons];omega⟩
theorem Lh(a:aj):(ak a).toArray.all (·.oneCell')=true:=by
 rw[Array.all_eq_true];intro b c;have:=aY a;exact this _ aZ
theorem tT(a:List aj)(b:Nat)(c:aj)(d:a[b]?=some c):(a.take (b+1)).flatten=(a.take b).flatten++c/\(a.take b).flatten.length+c.length<=a.flatten.length:=by
 (have e:a.take (b+1)=a.take b++[c]:=by rw[List.take_add_one,d];rfl);(have d:(a.take (b+1)).flatten=(a.take b).flatten++c:=by rw[e];simp);refine⟨d,?_⟩;(have c:a.flatten=(a.take (b+1)).flatten++(a.drop (b+1)).flatten:=by rw[<-List.flatten_append,List.take_append_drop]);rw[c,d];simp
theorem dL{c:Program}{m:Array Oper}{rest:List Oper}{o:Oper}{i:Act}{j:World}{n:Exit->Act->World->Prop}(q:o.guard=none)(k d:TypeId)(a:Nat)(l:Array (Nat×Operand))(r:o.op=.buildSlice k a l)
  (e:Nat)(hs:0 < e)(g:List (List Value))(s:c.underlying k=some (.slice d))(h:(c.info? d).map (·.size)=some e)(p:((c.info? d).bind (·.zero)).isSome=true)
  (t:g.length=a)(u:0 < a)(b:a*e<=2 ^ 24)(v:∀f∈g,f.length=e)
  (w:(l.toList.map λ(x,b)=>(x,i.eval b))=((g.map λf=>Value.agg f.toArray).zipIdx 0).map λb=>(b.2,b.1))
  (x:wpList c m n rest (i.put o.dst (.slice (some ⟨j.heap.size,0,none⟩) a a)) (j.alloc (.cells (g.flatten).toArray d))):wpList c m n (o :: rest) i j:=by
 cases hie:c.info? d with
 | none=>simp[hie]at h
 | some c=>
  simp only[hie,Option.map_some,Option.some.injEq,Option.bind_some]at h p;obtain⟨z,i⟩:=Option.isSome_iff_exists.1 p;refine wpList_buildSlice q k d a l r _ c z s hie i (by rw[h];omega) (by rw[h];have:=Nat.mul_pos u hs;omega) ?_ x;rw[Array.toList_map,w,h]
  have:=Great.fill_whole hs (g.map λf=>Value.agg f.toArray) ((Array.range (a*e)).map (z.cells[· % z.cells.size]!)) (by
   intro f a;obtain⟨b,hx,rfl⟩:=Aq.1 a;show b.toArray.size=e
   simp[v b hx]) (by simp[t])
  rw[this];congr 2;rw[List.flatMap_map];simp[List.flatMap_def,Value.cells]
theorem xw:∀(g a b d:List Value) (e:Nat) (f:Nat),b.length=f+e->a.length=g.length->(g.zipIdx e).foldl (λ(h:Array Value) (c:Value×Nat)=>h.setIfInBounds (f+c.2) c.1) (b++a++d).toArray=(b++g++d).toArray
 | [],a,b,d,e,f,i,h=>by
  have:a=[]:=Ap h;subst this;rfl
 | c :: g,j :: a,b,d,e,f,i,h=>by
  rw[List.zipIdx_cons,List.foldl_cons]
  have k:((b++(j :: a)++d).toArray).setIfInBounds (f+e) c=((b++[c])++a++d).toArray:=by
   rw[List.setIfInBounds_toArray,List.append_assoc,List.set_append_right _ _ ah,i,Nat.sub_self];simp
  show List.foldl _ (Array.setIfInBounds _ (f+e) c) _=_;rw[k,xw g a (b++[c]) d (e+1) f (by rw[List.length_append,List.length_singleton];omega) (by simpa using h)];simp
 | c :: g,[],_,_,_,_,_,h=>by simp at h
theorem gT{place:Nat->Option (Nat×Nat)}{i off size:Nat}{v:Value}{xs old pre post:List Value}{rest:List (Nat×Value)}(a:place i=some (off,size))(b:v.cells=xs.toArray)(hx:xs.length=size)(c:pre.length=off)(d:old.length=size):
  Instr.fill place (pre++old++post).toArray ((i,v) :: rest)=Instr.fill place (pre++xs++post).toArray rest:=by
 rw[Instr.fill]
 simp only[a,b]
 rw[if_neg (by simp;omega)]
 congr 1
 rw[<-Array.foldl_toList,Array.toList_zipIdx]
 exact xw xs old pre post 0 off ah ah
theorem pK{place:Nat->Option (Nat×Nat)}{a:Array Value}:Instr.fill place a []=some a:=by rw[Instr.fill]
theorem fe{b:Program}{a:World}{c:Oper}{d:Operand->Value}(e:TypeId)(f:Array (Nat×Operand))(h:c.op=.build e f)(g:Array (Nat×Value))(i:(f.map λ(j,k)=>(j,d k))=g)(f:Value)(l:(Instr.build e g).run b a=.ok f a):(execOp d c).run b a=.ok (.value f) a:=by
 unfold execOp;simp only[h,i,Sem.run_bind,Sem.run_pure,Result.andThen_ok,l]
theorem iY{b:Program}{h:Array Oper}{rest:List Oper}{o:Oper}{c:Act}{a:World}{i:Exit->Act->World->Prop}(j:o.guard=none)(d:TypeId)(e:Array (Nat×Operand))(k:o.op=.build d e)
  (f:Array (Nat×Value))(l:(e.map λ(m,n)=>(m,c.eval n))=f)(g:Value)(p:(Instr.build d f).run b a=.ok g a)
  (m:wpList b h i rest (c.put o.dst g) a):wpList b h i (o :: rest) c a:=by
 refine wpList_plain j λK a=>?_
 unfold Oper.wp
 rw[fe d e k f l g p]
 exact a _ _ m
theorem SN:(prog.info? 5).map (λa=>(a.zero,a.size,a.bytes))=some (some (.int .u8 0),1,1):=by kernel_rfl
theorem qV{c:Program}{d:TypeId}{z:Value}{e f:Nat}(b:(c.info? d).map (λa=>(a.zero,a.size,a.bytes))=some (some z,e,f)):∃a:TypeInfo,c.info? d=some a/\a.zero=some z/\a.size=e/\a.bytes=f:=by
 cases hq:c.info? d with
 | none=>simp[hq]at b
 | some a=>
  simp[hq]at b;exact⟨a,rfl,b.1,b.2.1,b.2.2⟩
theorem nO(b:Array Value)(c:Nat)(d:Value)(e:b[c]?=some d)(a:World):(part 5 b c).run prog a=.ok d a:=by
 have b:=lq (P:=prog) underlying5 a;simp[part,b,e,Result.andThen]
theorem SH(b c:aj)(d:World):∀e:List Nat,(∀a∈e,a < b.length/\a < c.length)->
  (Op.eqItems 9999 5 1 (ak b).toArray (ak c).toArray e).run prog d=.ok (e.all λa=>b.getD a 0==c.getD a 0) d
 | [],_=>rfl
 | a :: e,f=>by
  have g:=f a aZ;(have h:(ak b).toArray[a*1]?=some (iF (b.getD a 0)):=by rw[Nat.mul_one,List.getElem?_toArray];exact eu b a g.1);(have i:(ak c).toArray[a*1]?=some (iF (c.getD a 0)):=by rw[Nat.mul_one,List.getElem?_toArray];exact eu c a g.2);have g:=SH b c d e (λj k=>f j (by simp[k]));have e:(Op.equalIn 9999 5 (iF (b.getD a 0)) (iF (c.getD a 0))).run prog d=.ok (b8 (b.getD a 0)==b8 (c.getD a 0)) d:=run_equalIn_int d 9998 _ .u8 .u8 _ _ underlying5
  have f:(b8 (b.getD a 0)==b8 (c.getD a 0))=(b.getD a 0==c.getD a 0):=by
   by_cases d:b.getD a 0=c.getD a 0
   ·rw[d];simp
   ·have:b8 (b.getD a 0)≠b8 (c.getD a 0):=λj=>d (Dj j)
    rw[beq_eq_false_iff_ne.2 d,beq_eq_false_iff_ne.2 this]
  rw[f]at e;simp only[Op.eqItems,Sem.run_bind,nO _ _ _ h,nO _ _ _ i,e,Result.andThen_ok,List.all_cons];cases hb:(b.getD a 0==c.getD a 0)
  ·simp
  ·simpa using g
theorem xI(a b:aj)(hx:a.length=32)(d:b.length=32):((List.range 32).all λc=>a.getD c 0==b.getD c 0)=decide (a=b):=by
 by_cases d:a=b
 ·subst d
  simp
 ·rw[decide_eq_false d]
  (refine Bool.eq_false_iff.2 λa=>d ?_);apply List.ext_getElem ah;intro c b d;have:=List.all_eq_true.1 a c (Be.2 ah);simpa[List.getD,b,d]using this
theorem iV(x a:aj)(hx:x.length=32)(d:a.length=32)(b:World):(Op.equalIn 10000 23 (.agg (ak x).toArray) (.agg (ak a).toArray)).run prog b=.ok (decide (x=a)) b:=by
 obtain⟨e,c,_,hs,_⟩:=qV SN;(have e:prog.cellsOf 5=1:=by kernel_rfl);rw[run_equalIn_array b 9999 _ _ underlying23 c,e,SH x a b _ (λf c=>by have:=List.mem_range.1 c;omega),xI x a hx d]
theorem rX(a b:aj)(hx:a.length=32)(d:b.length=32)(c:World):(binOp .eql 23 (.agg (ak a).toArray) (.agg (ak b).toArray)).run prog c=.ok (.bool (decide (a=b))) c:=by
 rw[run_eql_struct c,iV a b hx d];rfl
theorem rT(x a:aj)(hx:x.length=32)(c:a.length=32)(b:World):(binOp .neq 23 (.agg (ak x).toArray) (.agg (ak a).toArray)).run prog b=.ok (.bool (!decide (x=a))) b:=by
 rw[run_neq_struct b,iV x a hx c];rfl
theorem uG(f:Nat)(b c:aj)(d:World):∀e:List Nat,(∀a∈e,a < b.length/\a < c.length)->
  (Op.eqItems (f+1) 5 1 (ak b).toArray (ak c).toArray e).run prog d=.ok (e.all λa=>b.getD a 0==c.getD a 0) d
 | [],_=>rfl
 | a :: e,g=>by
  have h:=g a aZ;(have i:(ak b).toArray[a*1]?=some (iF (b.getD a 0)):=by rw[Nat.mul_one,List.getElem?_toArray];exact eu b a h.1);(have j:(ak c).toArray[a*1]?=some (iF (c.getD a 0)):=by rw[Nat.mul_one,List.getElem?_toArray];exact eu c a h.2);have h:=uG f b c d e (λk l=>g k (by simp[l]));have e:(Op.equalIn (f+1) 5 (iF (b.getD a 0)) (iF (c.getD a 0))).run prog d=.ok (b8 (b.getD a 0)==b8 (c.getD a 0)) d:=run_equalIn_int d f _ .u8 .u8 _ _ underlying5
  have f:(b8 (b.getD a 0)==b8 (c.getD a 0))=(b.getD a 0==c.getD a 0):=by
   by_cases d:b.getD a 0=c.getD a 0
   ·rw[d];simp
   ·have:b8 (b.getD a 0)≠b8 (c.getD a 0):=λg=>d (Dj g)
    rw[beq_eq_false_iff_ne.2 d,beq_eq_false_iff_ne.2 this]
  rw[f]at e;simp only[Op.eqItems,Sem.run_bind,nO _ _ _ i,nO _ _ _ j,e,Result.andThen_ok,List.all_cons];cases hb:(b.getD a 0==c.getD a 0)
  ·simp
  ·simpa using h
theorem iK(d:Nat)(a b:aj)(hx:a.length=32)(f:b.length=32)(c:World):(Op.equalIn (d+2) 23 (.agg (ak a).toArray) (.agg (ak b).toArray)).run prog c=.ok (decide (a=b)) c:=by
 obtain⟨g,e,_,hs,_⟩:=qV SN;(have g:prog.cellsOf 5=1:=by kernel_rfl);rw[run_equalIn_array c (d+1) _ _ underlying23 e,g,uG d a b c _ (λh e=>by have:=List.mem_range.1 e;omega),xI a b hx f]
theorem dS(e:List Value)(d:Nat)(c:aj)(hx:c.length=32)(g:∀b f,(ak c)[b]?=some f->e[d+b]?=some f)(a:World):(part 23 e.toArray d).run prog a=.ok (.agg (ak c).toArray) a:=by
 have f:(isAgg 23).run prog a=.ok true a:=by
  unfold isAgg;rw[Sem.run_bind,run_underlying underlying23 a];rfl
 have hs:(sizeOf 23).run prog a=.ok 32 a:=by
  have a:=jN;cases hq:prog.info? 23 with
  | none=>simp[hq]at a
  | some h=>
   (have i:h.size=32:=by simpa[hq]using a);simp[sizeOf,typeInfo,hq,i]
 have h:e.toArray.extract d (d+32)=(ak c).toArray:=by
  apply Array.ext_getElem?;intro b;rw[Array.getElem?_extract,List.getElem?_toArray];by_cases a:b < 32
  ·have a:(ak c)[b]?=some _:=AV (by rw[aB];omega)
   have c:=g b _ a;have b:=(AU.1 c).1;rw[List.getElem?_toArray,a,c,if_pos (by simp;omega)]
  ·rw[if_neg (by simp;omega),List.getElem?_toArray,List.getElem?_eq_none (by rw[aB];omega)]
 simp only[part,Sem.run_bind,f,Result.andThen_ok,if_true,hs,Sem.run_pure,h]
theorem Jg(c:aj)(b:Nat)(d:Value)(a:(ak (c.take 32))[b]?=some d):(ak c)[0+b]?=some d:=by
 rw[Nat.zero_add];simp only[ak,List.getElem?_map,List.getElem?_take]at a ⊢;by_cases c:b < 32
 ·rwa[if_pos c]at a
 ·rw[if_neg c]at a
  cases a
theorem Cc(a:aj)(b:Nat)(c:Value)(d:(ak (a.drop 32))[b]?=some c):(ak a)[32+b]?=some c:=by
 simpa[ak,List.getElem?_map,List.getElem?_drop]using d
theorem Jf(a b:aj):(a=b)↔(a.take 32=b.take 32/\a.drop 32=b.drop 32):=by
 constructor
 ·rintro rfl
  exact⟨rfl,rfl⟩
 ·rintro⟨c,d⟩
  rw[<-List.take_append_drop 32 a,<-List.take_append_drop 32 b,c,d]
theorem l6{c:Program}{a:World}(d:Nat)(e f:Array Value)(b:Field)(rest:List Field)(h i:Value)(g j:Bool)(k:b.name≠ "_")(l:(part b.type e b.offset).run c a=.ok h a)(m:(part b.type f b.offset).run c a=.ok i a)(n:(Op.equalIn d b.type h i).run c a=.ok g a)
  (h:(Op.eqFields d e f rest).run c a=.ok j a):(Op.eqFields d e f (b :: rest)).run c a=.ok (g&&j) a:=by
 simp only[Op.eqFields,k,ne_eq,not_false_eq_true,if_true,Sem.run_bind,l,m,n,Result.andThen_ok]
 cases g
 ·simp
 ·simpa using h
theorem NK(d:Nat)(a b:aj)(hx:a.length=64)(e:b.length=64)(c:World):(Op.equalIn (d+2+1) 57 (.agg (ak a).toArray) (.agg (ak b).toArray)).run prog c=.ok (decide (a=b)) c:=by
 (have f:prog.underlying 57=some (.struct (prog.fieldsOf 57)):=by unfold Program.fieldsOf;rw[underlying57]);(have g:prog.stoodInHeld 57=false:=by kernel_rfl);rw[run_equalIn_agg c (d+2) _ _ _ f g];have f:=dS (ak a) 0 (a.take 32) (by simp[hx]) (Jg a) c;have g:=dS (ak b) 0 (b.take 32) (by simp[e]) (Jg b) c;have h:=dS (ak a) 32 (a.drop 32) (by simp[hx]) (Cc a) c;have i:=dS (ak b) 32 (b.drop 32) (by simp[e]) (Cc b) c;have j:=iK d (a.take 32) (b.take 32) (by simp[hx]) (by simp[e]) c;have k:=iK d (a.drop 32) (b.drop 32) (by simp[hx]) (by simp[e]) c;have e:=Jf a b;generalize ak a=l at*;generalize ak b=m at*;generalize a.take 32=n at*;generalize a.drop 32=o at*;generalize b.take 32=p at*;generalize b.drop 32=q at*;unfold Program.fieldsOf;rw[underlying57];change(Op.eqFields (d+2) l.toArray m.toArray (_ :: _ :: [])).run prog c=_;(have hd:decide (a=b)=(decide (n=p)&&(decide (o=q)&&true)):=by rw[Bool.and_true,<-Bool.decide_and];exact decide_eq_decide.2 e);rw[hd];refine l6 _ _ _ _ _ _ _ _ _ aR f g j ?_;exact l6 _ _ _ _ _ _ _ _ _ aR h i k rfl
theorem Oz(a b:aj)(hx:a.length=64)(d:b.length=64)(c:World):(Op.equalIn 9999 23 (.agg (List.take 32 (ak a)).toArray) (.agg (List.take 32 (ak b)).toArray)).run prog c=.ok (decide (a.take 32=b.take 32)) c:=by
 (have a:∀z:aj,List.take 32 (ak z)=ak (z.take 32):=λz=>by simp[ak,List.map_take]);rw[a,a];exact iK 9997 _ _ (by simp[hx]) (by simp[d]) c
theorem Oy(a b:aj)(hx:a.length=64)(d:b.length=64)(c:World):(Op.equalIn 9999 23 (.agg (List.take 32 (List.drop 32 (ak a))).toArray) (.agg (List.take 32 (List.drop 32 (ak b))).toArray)).run prog c=.ok (decide (a.drop 32=b.drop 32)) c:=by
 have e:∀z:aj,z.length=64->List.take 32 (List.drop 32 (ak z))=ak (z.drop 32):=λz f=>by
  rw[List.take_of_length_le (by rw[List.length_drop,aB,f];omega)];simp[ak,List.map_drop]
 rw[e a hx,e b d];exact iK 9997 _ _ (by simp[hx]) (by simp[d]) c
theorem KJ(a b:aj)(hx:a.length=64)(d:b.length=64)(c:World):(binOp .neq 57 (.agg (ak a).toArray) (.agg (ak b).toArray)).run prog c=.ok (.bool (!decide (a=b))) c:=by
 have e:=NK 9997 a b hx d c;rw[run_neq_struct c,e];rfl
def dW(n:Int)(x:aj):List Value:=.int .i64 n :: ak x
theorem dV{b:Int}{a:aj}(hx:a.length=32):(dW b a).length=33:=by simp[dW,aB,hx]
theorem Kv(b:List Value)(c:Nat)(d:Int)(e:b[c]?=some (.int .i64 d))(a:World):(part 3 b.toArray c).run prog a=.ok (.int .i64 d) a:=by
 have b:(isAgg 3).run prog a=.ok false a:=by
  unfold isAgg;rw[Sem.run_bind,run_underlying underlying3 a];rfl
 simp[part,b,e]
theorem Da(f:Nat)(b c:Int)(d e:aj)(hx:d.length=32)(h:e.length=32)(a:World):(Op.equalIn (f+2+1) 50 (.agg (dW b d).toArray) (.agg (dW c e).toArray)).run prog a=.ok (decide (b=c/\d=e)) a:=by
 (have g:prog.underlying 50=some (.struct (prog.fieldsOf 50)):=by unfold Program.fieldsOf;rw[underlying50]);(have i:prog.stoodInHeld 50=false:=by kernel_rfl);rw[run_equalIn_agg a (f+2) _ _ _ g i];have i:=Kv (dW b d) 0 b rfl a;have j:=Kv (dW c e) 0 c rfl a;have k:=dS (dW b d) 1 d hx (λl m g=>by rw[Nat.add_comm];exact g) a;have n:=dS (dW c e) 1 e h (λl m g=>by rw[Nat.add_comm];exact g) a;have g:(Op.equalIn (f+2) 3 (.int .i64 b) (.int .i64 c)).run prog a=.ok (b==c) a:=run_equalIn_int a (f+1) _ .i64 .i64 _ _ underlying3;have l:=iK f d e hx h a;generalize dW b d=h at*;generalize dW c e=m at*;unfold Program.fieldsOf;rw[underlying50];change(Op.eqFields (f+2) h.toArray m.toArray (_ :: _ :: [])).run prog a=_
 have hd:decide (b=c/\d=e)=((b==c)&&(decide (d=e)&&true)):=by
  rw[Bool.and_true,Bool.decide_and];rfl
 rw[hd];refine l6 _ _ _ _ _ _ _ _ _ aR i j g ?_;exact l6 _ _ _ _ _ _ _ _ _ aR k n l rfl
theorem zZ(d e:Int)(a b:aj)(hx:a.length=32)(f:b.length=32)(c:World):(binOp .neq 50 (.agg (dW d a).toArray) (.agg (dW e b).toArray)).run prog c=.ok (.bool (!decide (d=e/\a=b))) c:=by
 have g:=Da 9997 d e a b hx f c;rw[run_neq_struct c,g];rfl
theorem QA(d e:Int)(a b:aj)(hx:a.length=32)(f:b.length=32)(c:World):(binOp .eql 50 (.agg (dW d a).toArray) (.agg (dW e b).toArray)).run prog c=.ok (.bool (decide (d=e/\a=b))) c:=by
 have g:=Da 9997 d e a b hx f c;rw[run_eql_struct c,g];rfl
