import Derived.Test.YtgldkfaiofkhbaaGreatDoorZ26
import Derived.Test.YtgldkfaiofkhbaaGreatDoorZ21
namespace Go.Proofs.YtgldkfaiofkhbaaGreatDoor
open Go Go.RowKit
def kQ(ss:List aj)(s:aj):List aj:=ss.filter (λy=>!decide (eZ y=eZ s))
def FU(ss:List aj)(s:aj):Option (List aj)×Int:=if 16 < (kQ ss s).length+1 then(none,7)else(bK eZ (s :: kQ ss s),0)
def JA(h:bE)(ss:List aj)(q:aj):Option (List aj)×Int:=
 if(iM h q).2=0 then(if(bK eZ ss).isSome then FU ss (iM h q).1 else(none,92))else(none,(iM h q).2)
theorem VS{d b:List aj}{a:aj}{c:Nat}{f:Bool}(g:bK eZ d=some b)(e:VX b a c f):bK eZ (a :: kQ d a)=some (place (ky:=eZ) a c b)/\(kQ d a).length+1=(place (ky:=eZ) a c b).length:=by
 obtain⟨d,f⟩:=jU g;have b:=(IL (x:=a) (n:=c) d f e.low e.high).1;refine⟨b,?_⟩;have a:=xQ b;rw[a];rfl
structure AD(w0 w:World)(h:bE)(A:Option Addr)(n c:Nat):Prop where
 note:aL w w0.heap.size 39 (aN h (.slice A n c)).toArray
 res:aL w (w0.heap.size+1) 39 Dm
 far:av w0 w
theorem AD.size{a w:World}{h:bE}{A:Option Addr}{n c:Nat}(k:AD a w h A n c):a.heap.size+1 < w.heap.size:=k.res.lt
theorem AD.on{a d e:World}{f:bE}{g:Option Addr}{h i j:Nat}(b:AD a d f g h i)(k:a.heap.size+1 < j)(c:Below j d e):AD a e f g h i:=
 ⟨(c.block _ ah).trans b.note,(c.block _ k).trans b.res,b.far.trans (Below.mono c ah)⟩
theorem AD.below{a w b:World}{h:bE}{A:Option Addr}{n c:Nat}(k:AD a w h A n c)(d:av w b):AD a b h A n c:=k.on k.size d
theorem AD.new{w:World}{a:bE}{b:Option Addr}{c d:Nat}:AD w ((w.alloc (.cells (aN a (.slice b c d)).toArray 39)).alloc (.cells Dm 39)) a b c d:=
 ⟨heap_alloc2_old w _ _,heap_alloc2_new w _ _,((Below.refl _ w).alloc (AJ _) _).alloc aZ _⟩
theorem AD.head{a b:World}{h:bE}{c:Option Addr}{d e:Nat}(f:AD a b h c d e)(j:Nat)(u:Value)(g:(aI h)[j]?=some u):b.cell? ⟨a.heap.size,0+j,none⟩=some u:=by
 rw[f.note.cell (0+j),List.getElem?_toArray];exact lN _ j u g
theorem AD.row{a b:World}{c:bE}{d:Option Addr}{e f:Nat}(g:AD a b c d e f)(h:c.Ok):b.cell? ⟨a.heap.size,98,none⟩=some (.slice d e f):=by
 rw[g.note.cell 98,List.getElem?_toArray];exact mJ h _
