import Derived.Test.YtgldkfaiofkhbaaGreatDoorZ0
import Derived.WalkKit
import Derived.WalkSpells
import Derived.Laws.OwnMore
import Derived.Deep.AppendLies
import Derived.Deep.Draws
import Derived.Maps.AppendAt
import Derived.Laws.CopyOwn
namespace Go.Proofs.YtgldkfaiofkhbaaGreatDoor
open Go Go.RowKit
structure au(S:Nat->Prop)(w w':World):Prop where
 os:w'.os=w.os
 tape:w'.tape=w.tape
 output:w'.output=w.output
 size:w.heap.size<=w'.heap.size
 block:∀k,k < w.heap.size->¬S k->w'.heap[k]?=w.heap[k]?
section
variable {S T:Nat->Prop} {a w w':World}
theorem au.refl(S:Nat->Prop)(w:World):au S w w:=⟨rfl,rfl,rfl,AJ _,λ_ _ _=>rfl⟩
theorem au.trans(c:au S a w)(k:au T w w')(e:∀b,b < a.heap.size->T b->S b):au S a w':=
 ⟨k.os.trans c.os,k.tape.trans c.tape,k.output.trans c.output,AZ c.size k.size,
  λb d hs=>(k.block b (Ad d c.size) (λh=>hs (e b d h))).trans (c.block b d hs)⟩
theorem au.mono(c:au S w w')(e:∀b,b < w.heap.size->S b->T b):au T w w':=
 ⟨c.os,c.tape,c.output,c.size,λb d h=>c.block b d (λhs=>h (e b d hs))⟩
theorem au.drew(b:au S a w):au S a w.drew:=⟨b.os,b.tape,b.output,b.size,b.block⟩
theorem au.alloc(b:au S a w)(o:Obj):au S a (w.alloc o):=
 ⟨b.os,b.tape,b.output,by have:=b.size;simp;omega,λc d hs=>(Below.heap_alloc w o c (aC b.size)).trans (b.block c d hs)⟩
theorem au.setCell(b:au S a w){p:Addr}(c:S p.block\/a.heap.size<=p.block)(u:Value):au S a (w.setCell p u):=
 ⟨b.os,b.tape,b.output,by have:=b.size;simpa[World.setCell]using this,λd e hs=>(Below.heap_setCell w p u d (by
  intro h;subst h;rcases c with c | c
  ·exact hs c
  ·omega)).trans (b.block d e hs)⟩
theorem au.grown{e:Option Nat}(c:au S a w)(d:w.grownBy w' e)(h:∀b,e=some b->S b\/a.heap.size<=b):au S a w':=
 ⟨d.os.trans c.os,d.tape.trans c.tape,d.output.trans c.output,AZ c.size d.size,λb e hs=>(d.block b (aC c.size) (by
  intro i
  rcases h b i.symm with d | d
  ·exact hs d
  ·omega)).trans (c.block b e hs)⟩
theorem au.below(h:au (λ_=>False) w w'):Below w.heap.size w w':=⟨h.os,h.tape,h.output,h.size,λb c=>h.block b c (λd=>d)⟩
theorem au.of_below(b:Below w.heap.size w w'):au S w w':=⟨b.os,b.tape,b.output,b.size,λc d _=>b.block c d⟩
theorem au.cell(h:au S w w'){p:Addr}(b:p.block < w.heap.size)(hs:¬S p.block):w'.cell? p=w.cell? p:=World.cell?_of_block (w:=w) (h.block p.block b hs)
theorem au.frozen(b:au S w w'){p:Addr}(c:p.block < w.heap.size)(hs:¬S p.block):w'.frozen? p=w.frozen? p:=World.frozen?_of_block (w:=w) (b.block p.block c hs)
end
def ax(w:World)(size:Nat)(A:Option Addr)(n:Nat)(xs:List Value):Prop:=
 xs.length=n*size/\(0 < n*size->∃b o,A=some ⟨b,o,none⟩/\b < w.heap.size/\∀j u,xs[j]?=some u->w.cell? ⟨b,o+j,none⟩=some u)
section
variable {w w':World} {size n:Nat} {A:Option Addr} {xs:List Value}
theorem eD(b c d:Nat):(⟨b,c,none⟩:Addr).add d=⟨b,c+d,none⟩:=by unfold Addr.add;split<;>simp_all
theorem ax.oI(w:World)(size:Nat)(A:Option Addr):ax w size A 0 []:=⟨by simp,λb=>absurd b aZ⟩
theorem ax.at_(h:ax w size A n xs)(e:0 < n*size):∃b c,A=some ⟨b,c,none⟩/\b < w.heap.size/\∀d u,xs[d]?=some u->w.cell? ⟨b,c+d,none⟩=some u:=h.2 e
theorem ax.keep(d:ax w size A n xs)(hs:w.heap.size<=w'.heap.size)(h:∀b c,A=some ⟨b,c,none⟩->b < w.heap.size->w'.heap[b]?=w.heap[b]?):ax w' size A n xs:=
 ⟨d.1,λi=>by
  obtain⟨b,c,e,j,k⟩:=d.2 i
  exact⟨b,c,e,ah,λd u i=>(World.cell?_of_block (w:=w) (h b c e j)).trans (k d u i)⟩⟩
theorem ax.kept{S:Nat->Prop}(e:ax w size A n xs)(d:au S w w')(h:∀b c,A=some ⟨b,c,none⟩->¬S b):ax w' size A n xs:=
 e.keep d.size λb c i j=>d.block b j (h b c i)
theorem ax.pY{S:Nat->Prop}(d:ax w size A n xs)(e:au S w w')(j:0 < n*size->∀b c,A=some ⟨b,c,none⟩->¬S b):ax w' size A n xs:=
 ⟨d.1,λh=>by
  obtain⟨b,c,i,k,l⟩:=d.2 h
  exact⟨b,c,i,by have:=e.size;omega,λd u m=>(World.cell?_of_block (w:=w) (e.block b k (j h b c i))).trans (l d u m)⟩⟩
theorem ax.below(h:ax w size A n xs)(b:Below w.heap.size w w'):ax w' size A n xs:=h.keep b.size λc _ _ d=>b.block c d
theorem ax.drew(b:ax w size A n xs):ax w.drew size A n xs:=b
theorem ax.alloc(b:ax w size A n xs)(o:Obj):ax (w.alloc o) size A n xs:=b.keep aZ λc _ _ d=>Below.heap_alloc w o c d
theorem ax.setCell(d:ax w size A n xs){p:Addr}(e:∀b c,A=some ⟨b,c,none⟩->b≠p.block)(u:Value):ax (w.setCell p u) size A n xs:=
 d.keep (by simp[World.setCell]) λb c h _=>Below.heap_setCell w p u b (e b c h)
theorem ax.Nc{h b:Nat}{i:Value}(c:w.ownsRow h b size i n xs):∃A d,i=.slice A n d/\n<=d/\d<=maxLen/\ax w size A n xs/\(∀e j,A=some ⟨e,j,none⟩->h<=e):=by
 refine ?_
 rcases c.2 with⟨rfl,rfl⟩ |⟨g,d,l,rfl,m,h,i,k,o,p⟩
 ·have hx:=Ap (by simpa using c.1)
  subst hx;exact⟨none,0,rfl,AJ _,by simp[maxLen],ax.oI _ _ _,λ_ _ b=>by cases b⟩
 ·refine⟨_,d,rfl,i,k,⟨c.1,λ_=>⟨g,0,rfl,(Ay.1 h).1,λd u i=>?_⟩⟩,?_⟩
  ·have:=c.cells (g:=g) rfl d u i
   rwa[eD]at this
  ·intro e j b
   (injection b with b);(injection b with c);omega
end
def aL(w:World)(g:Nat)(t:TypeId)(cs:Array Value):Prop:=w.heap[g]?=some (.cells cs t (0,0))
section
variable {w w':World} {g:Nat} {t:TypeId} {cs:Array Value}
theorem aL.lt(b:aL w g t cs):g < w.heap.size:=(Ay.1 b).1
theorem aL.cell(h:aL w g t cs)(i:Nat):w.cell? ⟨g,i,none⟩=cs[i]?:=cell_of_row w g i cs t (0,0) h
theorem aL.frozen(b:aL w g t cs)(c:Nat):w.frozen? ⟨g,c,none⟩=false:=by
 unfold aL at b;simp[World.frozen?,b]
theorem aL.new(w:World)(t:TypeId)(cs:Array Value):aL (w.alloc (.cells cs t)) w.heap.size t cs:=heap_alloc_new w _
theorem aL.drew(b:aL w g t cs):aL w.drew g t cs:=b
theorem aL.alloc(b:aL w g t cs)(o:Obj):aL (w.alloc o) g t cs:=(Below.heap_alloc w o g b.lt).trans b
theorem aL.lD(b:aL w g t cs)(c:Nat)(u:Value):aL (w.setCell ⟨g,c,none⟩ u) g t (cs.setIfInBounds c u):=by
 unfold aL at b ⊢;simp[World.setCell,Array.getElem?_modify,b]
theorem aL.far(b:aL w g t cs){p:Addr}(c:g≠p.block)(u:Value):aL (w.setCell p u) g t cs:=(Below.heap_setCell w p u g c).trans b
theorem aL.kept{S:Nat->Prop}(b:aL w g t cs)(c:au S w w')(d:¬S g):aL w' g t cs:=(c.block g b.lt d).trans b
theorem aL.grown{b:Option Nat}(c:aL w g t cs)(d:w.grownBy w' b)(e:some g≠b):aL w' g t cs:=(d.block g c.lt e).trans c
theorem aL.reads{size n:Nat}(c:aL w g t cs)(o:Nat)(xs:List Value)(d:xs.length=n*size)(hx:∀b u,xs[b]?=some u->cs[o+b]?=some u):ax w size (some ⟨g,o,none⟩) n xs:=
 ⟨d,λ_=>⟨g,o,rfl,c.lt,λb u d=>(c.cell (o+b)).trans (hx b u d)⟩⟩
end
def iX(w:World)(g:Nat)(t:TypeId)(n:Nat)(f:Nat->Value):Prop:=∃cs:Array Value,aL w g t cs/\cs.size=n/\∀j,j < n->cs[j]?=some (f j)
section
variable {w w':World} {g n:Nat} {t:TypeId} {f f':Nat->Value}
theorem iX.lt(b:iX w g t n f):g < w.heap.size:=by obtain⟨cs,c,_⟩:=b;exact c.lt
theorem iX.cell(h:iX w g t n f){j:Nat}(b:j < n):w.cell? ⟨g,j,none⟩=some (f j):=by
 obtain⟨cs,c,_,d⟩:=h;rw[c.cell j,d j b]
theorem iX.frozen(c:iX w g t n f)(b:Nat):w.frozen? ⟨g,b,none⟩=false:=by obtain⟨cs,d,_⟩:=c;exact d.frozen b
theorem iX.drew(b:iX w g t n f):iX w.drew g t n f:=b
theorem iX.drewN(b:iX w g t n f)(c:Nat):iX (w.drewN c) g t n f:=b
theorem iX.alloc(b:iX w g t n f)(o:Obj):iX (w.alloc o) g t n f:=by obtain⟨cs,c,d⟩:=b;exact⟨cs,c.alloc o,d⟩
theorem iX.far(b:iX w g t n f){p:Addr}(c:g≠p.block)(u:Value):iX (w.setCell p u) g t n f:=by obtain⟨cs,d,e⟩:=b;exact⟨cs,d.far c u,e⟩
theorem iX.kept{S:Nat->Prop}(b:iX w g t n f)(c:au S w w')(d:¬S g):iX w' g t n f:=by obtain⟨cs,e,h⟩:=b;exact⟨cs,e.kept c d,h⟩
theorem iX.lD(d:iX w g t n f)(c:Nat)(u:Value)(h:∀b,b < n->f' b=if b=c then u else f b):iX (w.setCell ⟨g,c,none⟩ u) g t n f':=by
 obtain⟨cs,i,hs,j⟩:=d;refine⟨_,i.lD c u,by simpa using hs,λb e=>?_⟩;rw[Array.getElem?_setIfInBounds,h b e];by_cases d:c=b
 ·subst d
  rw[if_pos rfl,if_pos ah,if_pos rfl]
 ·rw[if_neg d,if_neg (λc=>d c.symm),j b e]
theorem iX.congr(h:iX w g t n f)(d:∀b,b < n->f' b=f b):iX w g t n f':=by
 obtain⟨cs,e,hs,i⟩:=h;exact⟨cs,e,hs,λb c=>by rw[d b c];exact i b c⟩
theorem iX.new(w:World)(t:TypeId)(cs:Array Value)(n:Nat)(f:Nat->Value)(hs:cs.size=n)(c:∀b,b < n->cs[b]?=some (f b)):iX (w.alloc (.cells cs t)) w.heap.size t n f:=
 ⟨cs,aL.new w t cs,hs,c⟩
theorem iX.reads(e:iX w g t n f)(o c size:Nat)(b:o+c*size<=n):ax w size (some ⟨g,o,none⟩) c ((List.range (c*size)).map λd=>f (o+d)):=by
 refine⟨by simp,λ_=>⟨g,o,rfl,e.lt,λd u b=>?_⟩⟩;rw[List.getElem?_map]at b;by_cases h:d < c*size
 ·rw[List.getElem?_range h]at b
  simp only[Option.map_some,Option.some.injEq]at b;rw[e.cell ah,b]
 ·rw[List.getElem?_eq_none (by simp;omega)]at b
  cases b
end
theorem G6(w:World)(cs:Array Value)(t:TypeId)(c:List Value)(d:cs.toList=c):
  ∀(b:Nat) (u:Value),c[b]?=some u->(w.alloc (.cells cs t)).cell? ((⟨w.heap.size,0,none⟩:Addr).add b)=some u:=by
 intro b u c
 subst d
 rw[eD,Nat.zero_add,(aL.new w t cs).cell b]
 simpa using c
theorem gm{b:Value}(hx:b.oneCell'=true):∀u∈[b],u.oneCell'=true:=by
 intro u b;simp only[List.mem_singleton]at b;exact b ▸ hx
theorem fI{c:Nat}{a w:World}(b:Below c a w)(n:Nat):Below c a (w.drewN n):=⟨b.os,b.tape,b.output,b.size,b.block⟩
theorem au.drewN{S:Nat->Prop}{a w:World}(b:au S a w)(n:Nat):au S a (w.drewN n):=⟨b.os,b.tape,b.output,b.size,b.block⟩
theorem aL.drewN{w:World}{g:Nat}{t:TypeId}{cs:Array Value}(b:aL w g t cs)(n:Nat):aL (w.drewN n) g t cs:=b
theorem ax.drewN{w:World}{size n:Nat}{A:Option Addr}{xs:List Value}(b:ax w size A n xs)(c:Nat):ax (w.drewN c) size A n xs:=b
theorem oZ{c:Program}{t d:TypeId}{n:Nat}(cs:Array Value)(h:IntKind)(b:Int)(e:Value)(i:c.underlying t=some (.array n d))(hs:∀w,(sizeOf d).run c w=.ok 1 w)(j:∀w,(isAgg d).run c w=.ok false w)(h0:0<=b)(k:b < (n:Int))(l:cs[b.toNat]?=some e)(w:World):
  (Instr.index t (.agg cs) (.int h b)).run c w=.ok e w:=by
 have c:0<=b/\b < (n:Int):=⟨h0,k⟩
 simp[Instr.index,run_underlying i,asIntOf,c,l,hs,j,go_sem]
theorem lq{P:Program}{t:TypeId}{b:IntKind}(c:P.underlying t=some (.int b))(w:World):(isAgg t).run P w=.ok false w:=by
 simp[isAgg,run_underlying c]
