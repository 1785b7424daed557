import Derived.Test.YtgldkfaiofkhbaaGreatDoorZ12
import Derived.Carry
import Derived.ChangeSame
import Derived.SizedLaws
import Derived.Deep.Slices
import Derived.Deep.DeepHandedRow
namespace Go.Proofs.YtgldkfaiofkhbaaGreatDoor
open Go Go.RowKit
section
open Go.ChangeShapes Go.WideShapes
inductive CK where
 | int (k:IntKind)
 | bool
 deriving DecidableEq
def Ci:CK->Value->Prop
 | .int k,v=>∃n,v=.int k n/\(Lit.int k n).wf=true
 | .bool,v=>∃b,v=.bool b
def nM(m:Nat)(l:List CK):List CK:=(List.range m).flatMap λ_=>l
def jq(P:Program):Nat->TypeId->Option (List CK)
 | 0,_=>none
 | n+1,t=>match P.underlying t with
  | some .bool=>some [.bool]
  | some (.int k)=>some [.int k]
  | some (.array m e)=>match jq P n e with
   | some l=>if P.cellsOf e=l.length/\P.cellsOf t=m*l.length then some (nM m l)else none
   | none=>none
  | some (.struct fs)=>match(fs.toList.foldl (λ(acc:Option (List CK)) f=>match acc,jq P n f.type with
    | some l,some k=>if f.offset=l.length/\P.cellsOf f.type=k.length then some (l++k)else none
    | _,_=>none) (some []))with
   | some l=>if P.cellsOf t=l.length then some l else none
   | none=>none
  | _=>none
def dm:List CK->List Value->Prop
 | [],[]=>True
 | k :: ks,v :: vs=>Ci k v/\dm ks vs
 | _,_=>False
theorem dm.length:∀{a:List CK} {b:List Value},dm a b->b.length=a.length
 | [],[],_=>rfl
 | _ :: _,_ :: _,a=>by simp[dm.length a.2]
theorem dm.append:∀{a:List CK} {b:List Value} {c:List CK} {d:List Value},dm a b->dm c d->dm (a++c) (b++d)
 | [],[],_,_,_,a=>a
 | _ :: _,_ :: _,_,_,b,a=>⟨b.1,dm.append b.2 a⟩
theorem dm.split:∀{ks ks':List CK} {a:List Value},dm (ks++ks') a->dm ks (a.take ks.length)/\dm ks' (a.drop ks.length)
 | [],_,_,b=>⟨trivial,by simpa using b⟩
 | _ :: ks,ks',c :: a,b=>by
  have:=dm.split (ks:=ks) (ks':=ks') b.2;exact⟨⟨b.1,by simpa using this.1⟩,by simpa using this.2⟩
theorem dm.at_:∀{c:List CK} {d:List Value} (e:Nat) (b:CK),dm c d->c[e]?=some b->∃a,d[e]?=some a/\Ci b a
 | h :: c,a :: d,0,b,g,f=>by simp at f;subst f;exact⟨a,rfl,g.1⟩
 | _ :: c,_ :: d,e+1,b,g,f=>by
  obtain⟨a,c,d⟩:=dm.at_ e b g.2 (by simpa using f);exact⟨a,by simpa using c,d⟩
theorem Te{a:CK}{b:Value}(c:Ci a b):b.oneCell'=true:=by
 cases a with
 | int a=>obtain⟨a,rfl,_⟩:=c;rfl
 | bool=>obtain⟨a,rfl⟩:=c;rfl
theorem dm.one:∀{c:List CK} {a:List Value},dm c a->∀b∈a,b.oneCell'=true
 | [],[],_,_,a=>by simp at a
 | _ :: _,_ :: _,a,b,c=>by
  rcases Ag.1 c with rfl | c
  ·exact Te a.1
  ·exact dm.one a.2 b c
theorem qj(a:Nat)(l:List CK):nM (a+1) l=nM a l++l:=by simp[nM,List.range_succ]
theorem nL(a:Nat)(b:List CK):(nM a b).length=a*b.length:=by
 induction a with
 | zero=>simp[nM]
 | succ a b=>rw[qj,List.length_append,b,Nat.succ_mul]
theorem dm.rows{l:List CK}{cs:List Value}:∀a,a*l.length<=cs.length->(∀b,b < a->dm l ((cs.drop (b*l.length)).take l.length))->dm (nM a l) (cs.take (a*l.length))
 | 0,_,_=>by simp[nM,dm]
 | a+1,d,c=>by
  (have e:a*l.length+l.length<=cs.length:=by rw[<-Nat.succ_mul];exact d);have d:=dm.rows (l:=l) (cs:=cs) a (by omega) (λb e=>c b (by omega));have b:=c a (by omega);rw[qj,Nat.succ_mul,List.take_add];exact d.append b
section
variable {H:Type} {enc:TypeId×Value->H} {P:Program} {w:World} {base:Nat} {spare:Nat->Bool} {held:Bool}
theorem Du{d c:TypeId}{h e:Nat}{f:List Value}{b:DataW H×List MemPlace}(i:P.underlying d=some (.array h c))(a:DataW.trod enc P w base spare held e d f=some b):
  ∃g,e=g+1/\f.length=P.cellsOf d/\∀b,b < h->∃j,DataW.trod enc P w base spare held g c ((f.drop (b*P.cellsOf c)).take (P.cellsOf c))=some j:=by
 cases e with
 | zero=>simp[DataW.trod]at a
 | succ g=>
  unfold DataW.trod at a;rw[i]at a
  split at a<;>simp_all
  obtain⟨c,a⟩:=a;obtain⟨d,c,_⟩:=a;have e:=mapM_some_length c;(refine λb f=>?_);have a:=mapM_some_get c b b (by simp[f]);(have c:b < d.length:=by simp at e;omega);rw[List.getElem?_eq_getElem c]at a;exact⟨_,_,a⟩
theorem oO:∀(g:Nat) (t:TypeId) (h:List CK) (y:Nat) (cs:List Value) (z:DataW H×List MemPlace),jq P g t=some h->DataW.trod enc P w base spare held y t cs=some z->dm h cs
 | 0,_,_,_,_,_,b,_=>by simp[jq]at b
 | g+1,t,h,y,cs,z,b,n=>by
  unfold jq at b
  split at b
  ·rename_i i
   obtain⟨F,rfl,_⟩:=DataW.trod_bool i n;(obtain rfl:[CK.bool]=h:=by simpa using b);exact⟨⟨F,rfl⟩,trivial⟩
  ·rename_i d i
   obtain⟨G,rfl,_,I⟩:=DataW.trod_int i n;(obtain rfl:[CK.int d]=h:=by simpa using b);exact⟨⟨G,rfl,I⟩,trivial⟩
  ·rename_i A J i
   split at b
   ·rename_i l c
    split at b
    ·rename_i o
     (obtain rfl:nM A l=h:=by simpa using b);obtain⟨a,_,u,hx⟩:=Du i n;rw[o.1]at hx;rw[o.2]at u
     have K:=dm.rows (l:=l) (cs:=cs) A (by omega) (λj p=>by
      obtain⟨k,q⟩:=hx j p
      exact oO g J l _ _ _ c q)
     rwa[List.take_of_length_le (by omega)]at K
    ·cases b
   ·cases b
  ·rename_i r i
   split at b
   ·rename_i l c
    split at b
    ·rename_i o
     (obtain rfl:l=h:=by simpa using b);obtain⟨B,C,_,_,u,_,L⟩:=DataW.trod_struct i n
     have M:∀a∈r.toList,∃k,DataW.trod enc P w base spare held C a.type ((cs.drop a.offset).take (P.cellsOf a.type))=some k:=by
      intro a v;obtain⟨j,p,N⟩:=List.getElem_of_mem v;have D:=L j a (by rw[<-N];simp[Array.getElem?_eq_getElem (show j < r.size by simpa using p)])
      have O:j < B.length:=by
       (have:B.length=r.size:=by assumption);rw[this];simpa using p
      rw[List.getElem?_eq_getElem O]at D;exact⟨_,D⟩
     have Q:∀(f:List Field) (e l:List CK),(∀a∈f,∃k,DataW.trod enc P w base spare held C a.type ((cs.drop a.offset).take (P.cellsOf a.type))=some k)->
       dm e (cs.take e.length)->f.foldl (λ(e:Option (List CK)) a=>match e,jq P g a.type with
        | some l,some d=>if a.offset=l.length/\P.cellsOf a.type=d.length then some (l++d)else none
        | _,_=>none) (some e)=some l->dm l (cs.take l.length):=by
      intro f
      induction f with
      | nil=>
       intro e l _ x c;(obtain rfl:e=l:=by simpa using c);exact x
      | cons a f m=>
       intro e l E x c;rw[List.foldl_cons]at c;cases hk:jq P g a.type with
       | none=>
        exfalso;simp only[hk]at c
        have:∀f:List Field,f.foldl (λ(e:Option (List CK)) a=>match e,jq P g a.type with
         | some l,some d=>if a.offset=l.length/\P.cellsOf a.type=d.length then some (l++d)else none
         | _,_=>none) none=none:=by
         intro f;induction f with
         | nil=>rfl
         | cons _ _ m=>rw[List.foldl_cons];exact m
        rw[this]at c;cases c
       | some d=>
        simp only[hk]at c;by_cases s:a.offset=e.length/\P.cellsOf a.type=d.length
        ·rw[if_pos s]at c
         obtain⟨k,q⟩:=E a (by simp);rw[s.1,s.2]at q;have v:=oO g a.type d _ _ _ hk q;refine m (e++d) l (λR S=>E R (by simp[S])) ?_ c;rw[List.length_append,List.take_add];exact x.append v
        ·rw[if_neg s]at c
         exfalso
         have:∀f:List Field,f.foldl (λ(e:Option (List CK)) a=>match e,jq P g a.type with
          | some l,some d=>if a.offset=l.length/\P.cellsOf a.type=d.length then some (l++d)else none
          | _,_=>none) none=none:=by
          intro f;induction f with
          | nil=>rfl
          | cons _ _ m=>rw[List.foldl_cons];exact m
         rw[this]at c;cases c
     have:=Q r.toList [] l M (by simp[dm]) c;rwa[List.take_of_length_le (by rw[u,o];exact Nat.le_refl _)]at this
    ·cases b
   ·cases b
  ·cases b
theorem jB:∀(b:Nat) (a:List Value),dm (nM b [.int .u8]) a->∃d:aj,d.length=b/\a=ak d
 | 0,a,c=>by
  have:=c.length;rw[nL]at this;obtain rfl:a=[]:=Ap (by simpa using this);exact⟨[],rfl,rfl⟩
 | b+1,a,c=>by
  have g:=c.length;rw[nL]at g;rw[qj]at c;obtain⟨f,e⟩:=c.split;rw[nL]at f e;simp only[List.length_singleton,Nat.mul_one]at f e g;obtain⟨d,g,h⟩:=jB b _ f
  have hd:a.drop b=[a[b]'(by omega)]:=by
   rw[List.drop_eq_getElem_cons (by omega),List.drop_of_length_le (by omega)]
  rw[hd]at e;obtain⟨c,f,i⟩:=e.1;(have e:0<=c/\c<=255:=by simpa[Lit.wf,IntKind.min,IntKind.max,IntKind.signed,IntKind.bits]using i);refine⟨d++[BitVec.ofNat 8 c.toNat],by simp[g],?_⟩;have:a=a.take b++a.drop b:=(List.take_append_drop b a).symm;rw[this,h,hd,f]
  have hx:b8 (BitVec.ofNat 8 c.toNat)=c:=by
   unfold b8;rw[BitVec.toNat_ofNat];omega
  simp[ak,iF,hx]
theorem IX{e:Reach}{f:Nat}{b g:TypeId}{h:Nat}{c:Value}(i:P.underlying b=some (.array h g))(d:Value.okWide P w e f b c):∃a,c=.agg a/\a.size=P.cellsOf b:=by
 simp only[Value.okWide,i]at d;obtain⟨a,b,c,_⟩:=d;exact⟨a,b,c⟩
theorem qm{z m:TypeId}{ks:List CK}{N J:Nat}{A:List Value}{r:DataW H×List MemPlace}(K:P.underlying z=some (.slice m))(L:jq P N m=some ks)(M:P.cellsOf m=ks.length)(i:DataW.trod enc P w base spare held J z A=some r):
  ∃j e k B,A=[.slice j e k]/\e<=k/\k<=maxLen/\(j=none->e=0/\k=0)/\dm (nM e ks) B/\ax w ks.length j e B/\
   ((j=none/\r=(.nil,[]))\/∃f C rest,j=some f/\r.1=.slice C rest/\C.length=e/\rest.length=(if spare f.block then k else e) - e):=by
 rcases Go.Deep.open_slice K i with⟨rfl,rfl⟩ |⟨f,d,O,n,e,δ,ε,rfl,ζ,Q,R,D,rfl,E⟩
 ·exact⟨none,0,0,[],rfl,AJ _,by simp[maxLen],λ_=>⟨rfl,rfl⟩,trivial,⟨by simp,λi=>absurd i (by simp)⟩,.inl ⟨rfl,rfl⟩⟩
 ·have l:d<=n:=by rw[D];split<;>omega
  rw[M]at E
  obtain⟨h,s⟩:=Go.Deep.choose_lt (α:=List Value) (p:=λg o=>w.cells? base (f.add (g*ks.length)) ks.length=some o/\dm ks o) (λg t=>by
   obtain⟨o,v,x⟩:=E g t
   exact⟨o,v,oO N m ks _ _ _ L x⟩)
  have F:∀g,g < n->(h g).length=ks.length:=λg t=>(s g t).2.length
  have q:∀a,a<=n->dm (nM a ks) ((List.range a).flatMap h)/\((List.range a).flatMap h).length=a*ks.length:=by
   intro a
   induction a with
   | zero=>intro _;exact⟨trivial,by simp⟩
   | succ a y=>
    intro S;obtain⟨v,x⟩:=y (by omega);rw[qj,List.range_succ,List.flatMap_append];simp only[List.flatMap_cons,List.flatMap_nil,List.append_nil];exact⟨v.append (s a (by omega)).2,by rw[List.length_append,x,F a (by omega),Nat.succ_mul]⟩
  have G:∀a,a<=n->∀b u,((List.range a).flatMap h)[b]?=some u->w.cell? (f.add b)=some u:=by
   intro a
   induction a with
   | zero=>intro _ b u c;simp at c
   | succ a y=>
    intro S b u c;rw[List.range_succ,List.flatMap_append]at c;simp only[List.flatMap_cons,List.flatMap_nil,List.append_nil]at c;have T:=(q a (by omega)).2;by_cases η:b < a*ks.length
    ·rw[List.getElem?_append_left (by omega)]at c
     exact y (by omega) b u c
    ·rw[List.getElem?_append_right (by omega),T]at c
     obtain⟨_,θ,U⟩:=World.cells?_some (s a (by omega)).1
     have V:b - a*ks.length < ks.length:=by
      have:=(AU.1 c).1;rw[F a (by omega)]at this;exact this
     have:=U (b - a*ks.length) V;rw[Go.Deep.add_add,show a*ks.length+(b - a*ks.length)=b by omega]at this;rw[this,c]
  refine⟨some f,d,O,(List.range d).flatMap h,rfl,Q,R,(λi=>by cases i),(q d l).1,⟨(q d l).2,λι=>?_⟩,.inr ⟨f,_,_,rfl,rfl,by simp,by simp[D]⟩⟩;have W:=G d l 0;have κ:=(q d l).2;have c:((List.range d).flatMap h)[0]?=some (((List.range d).flatMap h)[0]'(by omega)):=AV (by omega);have I:=W _ c;obtain⟨X,Y,Z⟩:=f;(have β:Z=none:=by simpa[Addr.add]using World.cell?_spot I);subst β;refine⟨X,Y,rfl,?_,λb u γ=>?_⟩
  ·have:=World.block_lt_of_cell? w _ I
   simpa[eD]using this
  ·have:=G d l b u γ
   rwa[eD]at this
end
section
variable {H:Type} {enc:TypeId×Value->H} {P:Program} {w:World} {base:Nat} {held:Bool}
def Xn(d:DataW H)(c:Nat):Prop:=(d=.nil/\c=0)\/∃elems rest,d=.slice elems rest/\elems.length+rest.length=c
theorem Xn.le{a:List TypeId}{b:List (DataW H)}(g:(DataW.weightsEach P a b).all (·<=reachBytes)=true){j:Nat}{t c:TypeId}{d:DataW H}{e:Nat}(h:Xn d e)(i:a[j]?=some t)(hd:b[j]?=some d)(k:P.underlying t=some (.slice c))(f:Nat)(l:P.bytesOf c=f):e*f<=140737488351232:=by
 rcases h with⟨_,rfl⟩ |⟨a,rest,rfl,rfl⟩
 ·simp
 ·have:=sized_slice g i hd k
  rw[l]at this;exact this
theorem R8{a:Reach}{d:Nat}{b:TypeId}{ks:List CK}{N:Nat}{e:Value}{j:DataW H}{k:List MemPlace}(c:(∃f,P.underlying b=some (.struct f))\/∃g h,P.underlying b=some (.array g h))(l:jq P N b=some ks)(i:Value.okWide P w a d b e)
  (d:DataW.Trod enc P w base (λ_=>true) held b e j k):∃a:List Value,e=.agg a.toArray/\dm ks a:=by
 have:∃a:Array Value,e=.agg a:=by
  rcases c with⟨f,c⟩ |⟨g,h,c⟩
  ·obtain⟨a,d,_⟩:=okWide_struct c i;exact⟨a,d⟩
  ·obtain⟨a,d,_⟩:=IX c i;exact⟨a,d⟩
 obtain⟨a,rfl⟩:=this
 obtain⟨c,hx⟩:=d
 exact⟨a.toList,by simp,oO N b ks _ _ _ l hx⟩
theorem R7{e:Reach}{f:Nat}{a b:TypeId}{c:Value}{g:DataW H}{h:List MemPlace}(d:P.underlying a=some (.array 32 b))(i:P.underlying b=some (.int .u8))(j:P.cellsOf b=1)(k:P.cellsOf a=32)(l:Value.okWide P w e f a c)
  (e:DataW.Trod enc P w base (λ_=>true) held a c g h):∃b:aj,c=.agg (ak b).toArray/\b.length=32:=by
 obtain⟨a,rfl,c⟩:=R8 (ks:=nM 32 [.int .u8]) (N:=2) (.inr ⟨_,_,d⟩) (by simp[jq,d,i,j,k]) l e
 obtain⟨b,d,rfl⟩:=jB 32 a c
 exact⟨b,rfl,d⟩
end
theorem wJ:∀(c:Nat) (a:List Value),dm (nM c (nM 32 [.int .u8])) a->∃b:List aj,b.length=c/\(∀e∈b,e.length=32)/\a=b.flatMap ak
 | 0,a,d=>by
  have:=d.length;rw[nL]at this;obtain rfl:a=[]:=Ap (by simpa using this);exact⟨[],rfl,by simp,rfl⟩
 | c+1,a,d=>by
  rw[qj]at d;obtain⟨a,f⟩:=d.split;obtain⟨b,d,g,h⟩:=wJ c _ a;obtain⟨e,a,c⟩:=jB 32 _ f;refine⟨b++[e],by simp[d],λf hx=>?_,?_⟩
  ·rcases Aj.1 hx with hx | hx
   ·exact g f hx
   ·simp only[List.mem_singleton]at hx;rw[hx];exact a
  ·rw[List.flatMap_append,<-h]
   simp only[List.flatMap_cons,List.flatMap_nil,List.append_nil];rw[<-c,List.take_append_drop]
theorem Li{H:Type}{enc:TypeId×Value->H}{P:Program}(i:laidOutB P=true){c h:World}(j:av c h):∀{d:List TypeId} {e:List Value} {f:List (DataW H)} {a:List MemPlace},
  (d.all λg=>P.readableRec g&&decide (g < P.types.size))=true->DataW.TrodAll enc P c 0 (λ_=>true) true d e f a->(∀b∈a,b.block < c.heap.size)->
  DataW.TrodAll enc P h 0 (λk=>decide (k < c.heap.size)) true d e f a
 | [],e,f,a,_,h,_=>by
  obtain⟨rfl,rfl,rfl⟩:=trodAll_nil h;exact trodAll_mk0
 | g :: d,e,f,a,c,h,k=>by
  obtain⟨g,l,m,n,a,d,rfl,rfl,rfl,e,f⟩:=trodAll_cons h;simp only[List.all_cons,Bool.and_eq_true,decide_eq_true_eq]at c;exact⟨a,d,Below.trod i c.1.1 c.1.2 e j (λb hx=>k b (by simp[hx])),Li i j c.2 f (λb hx=>k b (by simp[hx])),rfl⟩
end
section
open Go.ChangeShapes Go.WideShapes
section
variable {H:Type} {enc:TypeId×Value->H} {P:Program} {w:World} {base:Nat} {held:Bool}
theorem qx{d:TypeId}:∀{a:List (DataW H)} {b:DataW H} {c:Nat},b∈a->c∈b.weights P d->c∈DataW.weightsAll P d a
 | e :: a,b,c,hd,d=>by
  simp only[DataW.weightsAll,List.mem_append]
  rcases Ag.1 hd with rfl | hd
  ·exact .inl d
  ·exact .inr (qx hd d)
 | [],_,_,hd,_=>by cases hd
theorem M8{b:Reach}{e:Nat}{a i f:TypeId}{c:Value}{d:DataW H}{g:List MemPlace}(m:P.underlying a=some (.slice i))(x:P.underlying i=some (.slice f))(l:P.underlying f=some (.int .u8))(s:P.cellsOf i=1)(D:P.cellsOf f=1)(E:P.bytesOf f=1)
  (k:Value.okWide P w b e a c)(h:DataW.Trod enc P w base (λ_=>true) held a c d g)
  {o:List TypeId}{q:List (DataW H)}(F:(DataW.weightsEach P o q).all (·<=reachBytes)=true){j:Nat}(G:o[j]?=some a)(I:q[j]?=some d):
  ∃e n a g,c=.slice e n a/\g.length=n/\n<=a/\a<=maxLen/\(e=none->n=0/\a=0)/\gq w e g/\(∀b∈g,b.length < 140737488351233)/\Xn d a:=by
 obtain⟨a,c,e,rfl⟩:=okWide_slice m k
 obtain⟨a,hx⟩:=h
 rcases Go.Deep.open_slice1 m s hx with⟨a,e⟩ |⟨y,u,v,z,n,t,g,A,a,B,J,K,k,e,r⟩
 ·simp only[Value.cells,List.cons.injEq,Value.slice.injEq,and_true]at a
  obtain⟨rfl,rfl,rfl⟩:=a;exact⟨none,0,0,[],rfl,rfl,AJ _,by simp[maxLen],λ_=>⟨rfl,rfl⟩,λh=>absurd h aZ,by simp,.inl ⟨congrArg Prod.fst e,rfl⟩⟩
 ·simp only[Value.cells,List.cons.injEq,Value.slice.injEq,and_true]at a
  obtain⟨rfl,rfl,rfl⟩:=a;simp only[if_true]at k;subst k;have hd:d=.slice ((List.range c).map g) ((List.range (z - c)).map λj=>g (c+j)):=congrArg Prod.fst e
  obtain⟨L,A⟩:=Go.Deep.choose_lt (α:=aj) (n:=c) (p:=λa b=>∃d e,t a=.slice d b.length e/\b.length<=e/\(d=none->b.length=0/\e=0)/\ax w 1 d b.length (ak b)/\b.length < 140737488351233) (λa s=>by
   obtain⟨_,B⟩:=r a ah;obtain⟨d,M,e,O,Q,t,C,k,u,v,R⟩:=qm (ks:=[.int .u8]) (N:=1) x (by simp[jq,l]) D B;obtain⟨b,l,rfl⟩:=jB M O u;subst l;refine⟨b,d,e,by simpa using Q,t,k,v,?_⟩
   rcases R with⟨h0,_⟩ |⟨O,l,rest,_,D,Q,M⟩
   ·have:=(k h0).1;omega
   ·simp only[if_true]at M
    have M:(l.length+rest.length)*P.bytesOf f∈(g a).weights P i:=by
     have:g a=.slice l rest:=D;rw[this];simp[DataW.weights,x]
    have i:g a∈(List.range c).map g:=Aq.2 ⟨a,Be.2 s,rfl⟩;have g:=qx i M
    have i:(l.length+rest.length)*P.bytesOf f∈DataW.weightsEach P o q:=DataW.weights_mem_each G I _ (by
     rw[hd];simp only[DataW.weights,m,List.mem_cons,List.mem_append]
     exact .inr (.inl g))
    have:=List.all_eq_true.1 F _ i;rw[E]at this;have B:(l.length+rest.length)*1<=140737488351232:=by simpa[reachBytes]using this
    omega)
  refine⟨some y,c,z,(List.range c).map L,rfl,by simp,J,K,(λh=>by cases h),λh0=>?_,?_,.inr ⟨_,_,hd,by simp;omega⟩⟩
  ·simp only[List.length_map,List.length_range]at h0
   have g:=(r 0 ah).1;obtain⟨h,i,f⟩:=y;(have l:f=none:=by simpa[Addr.add]using World.cell?_spot g);subst l;refine⟨h,i,rfl,?_,λa b f=>?_⟩
   ·have:=World.block_lt_of_cell? w _ g
    simpa[eD]using this
   ·have g:a < c:=by
     have:=(AU.1 f).1;simpa using this
    rw[List.getElem?_map,List.getElem?_range g]at f;obtain rfl:=AL f;obtain⟨d,e,t,C,k,u,_⟩:=A a g;have c:=(r a ah).1;rw[eD,t]at c;exact⟨d,e,c,C,u,k⟩
  ·intro b c
   obtain⟨a,s,rfl⟩:=Aq.1 c;obtain⟨_,_,_,_,_,_,v⟩:=A a (Be.1 s);exact v
end
end
