import Derived.Test.YtgldkfaiofkhbaaGreatDoorZ17
import Derived.Deep.Strs
import Derived.Test.YtgldkfaiofkhbaaGreatDoorZ21
namespace Go.Proofs.YtgldkfaiofkhbaaGreatDoor
open Go Go.RowKit
section
open Go.ChangeShapes Go.WideShapes
def NC:List CK:=nM 32 [.int .u8]++([.int .i64]++(nM 32 [.int .u8]++(nM 32 [.int .u8]++[.int .i64])))
theorem K3{c:List Value}(b:dm [.int .i64] c):∃a:Int,c=[.int .i64 a]/\-9223372036854775808<=a/\a<=9223372036854775807:=by
 have d:=b.length
 match c,d,b with
 | [c],_,b=>
  obtain⟨a,rfl,c⟩:=b.1;exact⟨a,rfl,by simpa[Lit.wf,IntKind.min,IntKind.max,IntKind.signed,IntKind.bits]using c⟩
theorem Qx(b:List Value)(a:dm NC b):∃a:bE,a.Ok/\b=aI a:=by
 unfold NC at a;obtain⟨c,d⟩:=a.split;obtain⟨e,a⟩:=d.split;obtain⟨f,d⟩:=a.split;obtain⟨g,h⟩:=d.split;obtain⟨a,i,j⟩:=jB _ _ c;obtain⟨c,k,l⟩:=K3 e;obtain⟨d,m,n⟩:=jB _ _ f;obtain⟨e,o,p⟩:=jB _ _ g;obtain⟨f,g,q⟩:=K3 h;refine⟨⟨a,c,d,e,f⟩,⟨i,m,o,l,q⟩,?_⟩;unfold aI;show b=ak a++([.int .i64 c]++(ak d++(ak e++[.int .i64 f])));rw[<-j,<-k,<-n,<-p,<-g,List.take_append_drop,List.take_append_drop,List.take_append_drop,List.take_append_drop]
def zN:List CK:=nM 32 [.int .u8]++nM 32 [.int .u8]
theorem Mt:zN.length=64:=by simp[zN,nL]
theorem Qw(a:List Value)(b:dm zN a):∃c:aj,c.length=64/\a=ak c:=by
 unfold zN at b;obtain⟨c,d⟩:=b.split;obtain⟨a,e,f⟩:=jB _ _ c;obtain⟨b,c,g⟩:=jB _ _ d;refine⟨a++b,by rw[List.length_append,e,c],?_⟩;(have c:ak (a++b)=ak a++ak b:=by simp[ak]);rw[c,<-f,<-g,List.take_append_drop]
theorem Fy:∀(b:Nat) (a:List Value),dm (nM b zN) a->∃c:List aj,c.length=b/\(∀d∈c,d.length=64)/\a=c.flatMap ak
 | 0,a,c=>by
  have:=c.length;rw[nL]at this;obtain rfl:a=[]:=Ap (by simpa using this);exact⟨[],rfl,by simp,rfl⟩
 | b+1,a,c=>by
  rw[qj]at c;obtain⟨a,d⟩:=c.split;obtain⟨c,e,f,g⟩:=Fy b _ a;obtain⟨a,b,h⟩:=Qw _ d;refine⟨c++[a],by simp[e],λd hx=>?_,?_⟩
  ·rcases Aj.1 hx with hx | hx
   ·exact f d hx
   ·simp only[List.mem_singleton]at hx;rw[hx];exact b
  ·rw[List.flatMap_append,<-g]
   simp only[List.flatMap_cons,List.flatMap_nil,List.append_nil];rw[<-h,List.take_append_drop]
section
variable {H:Type} {enc:TypeId×Value->H} {w:World} {base:Nat} {held:Bool}
end
end
section
open Go.ChangeShapes Go.WideShapes
section
variable {H:Type} {enc:TypeId×Value->H} {w:World} {base:Nat} {held:Bool}
end
end
section
open Go.ChangeShapes Go.WideShapes
def Tv:List CK:=[.int .i64]++nM 32 [.int .u8]
theorem Tf{a:List Value}(e:dm Tv a):∃(d:Int) (b:aj),b.length=32/\a=dW d b:=by
 unfold Tv at e;obtain⟨c,f⟩:=e.split;obtain⟨b,e,g⟩:=jB _ _ f;have f:=c.length
 match h:a.take [CK.int .i64].length,f,c with
 | [f],_,c=>
  obtain⟨d,rfl,-⟩:=c.1;refine⟨d,b,e,?_⟩;unfold dW;rw[<-g];have:=List.take_append_drop [CK.int .i64].length a;rw[h]at this;exact this.symm
section
variable {H:Type} {enc:TypeId×Value->H} {w:World} {base:Nat} {held:Bool}
theorem Ia{a:Program}{d:Nat->Bool}{o:TypeId}{e f g h i:Field}{c:Nat}{b:List Value}{p:DataW H×List MemPlace}(q:a.underlying o=some (.struct #[e,f,g,h,i]))(r:DataW.trod enc a w base d held c o b=some p):
  ∃j k l m n c,p.1=.agg [j.1,k.1,l.1,m.1,n.1]/\b.length=a.cellsOf o/\DataW.trod enc a w base d held c e.type ((b.drop e.offset).take (a.cellsOf e.type))=some j/\
   DataW.trod enc a w base d held c f.type ((b.drop f.offset).take (a.cellsOf f.type))=some k/\DataW.trod enc a w base d held c g.type ((b.drop g.offset).take (a.cellsOf g.type))=some l/\
   DataW.trod enc a w base d held c h.type ((b.drop h.offset).take (a.cellsOf h.type))=some m/\DataW.trod enc a w base d held c i.type ((b.drop i.offset).take (a.cellsOf i.type))=some n:=by
 obtain⟨b,c,_,rfl,d,o,a⟩:=DataW.trod_struct q r
 match b,o with
 | [j,k,l,m,n],_=>exact⟨j,k,l,m,n,c,by simp,d,by simpa using a 0 e rfl,by simpa using a 1 f rfl,by simpa using a 2 g rfl,by simpa using a 3 h rfl,by simpa using a 4 i rfl⟩
theorem NH(a:List Value)(b c d e f:List Value)(h0:(a.drop 0).take 1=b)(g:(a.drop 1).take 1=c)(h:(a.drop 2).take 33=d)(i:(a.drop 35).take 32=e)(j:(a.drop 67).take 1=f)(k:a.length=68):a=b++c++d++e++f:=by
 subst h0 g h i j;have b:(a.drop 67).take 1=a.drop 67:=BA (by rw[List.length_drop];omega)
 have c:(a.drop 35).take 32++a.drop 67=a.drop 35:=by
  have:=List.take_append_drop 32 (a.drop 35);rwa[List.drop_drop]at this
 have d:(a.drop 2).take 33++a.drop 35=a.drop 2:=by
  have:=List.take_append_drop 33 (a.drop 2);rwa[List.drop_drop]at this
 have s1:(a.drop 1).take 1++a.drop 2=a.drop 1:=by
  have:=List.take_append_drop 1 (a.drop 1);rwa[List.drop_drop]at this
 have aD:(a.drop 0).take 1++a.drop 1=a:=by
  rw[List.drop_zero];exact List.take_append_drop 1 a
 rw[b,List.append_assoc,c,List.append_assoc,d,List.append_assoc,s1,aD]
end
end
