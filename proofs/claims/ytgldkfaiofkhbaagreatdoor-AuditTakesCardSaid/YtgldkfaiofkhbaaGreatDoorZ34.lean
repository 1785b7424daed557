import Derived.Test.YtgldkfaiofkhbaaGreatDoorZ23
import Derived.Test.YtgldkfaiofkhbaaGreatDoorZ33
namespace Go.Proofs.YtgldkfaiofkhbaaGreatDoor
open Go Go.RowKit Go.Proofs.Tryz
set_option maxRecDepth 100000
section
open Go.ChangeShapes Go.WideShapes
section
variable {H:Type} {enc:TypeId×Value->H} {w:World} {base:Nat} {held:Bool}
theorem H9{a:Program}{d:Nat->Bool}{s:TypeId}{e f g h i j k:Field}{c:Nat}{b:List Value}{t:DataW H×List MemPlace}(u:a.underlying s=some (.struct #[e,f,g,h,i,j,k]))(v:DataW.trod enc a w base d held c s b=some t):
  ∃l m n o p q r c,t.1=.agg [l.1,m.1,n.1,o.1,p.1,q.1,r.1]/\b.length=a.cellsOf s/\DataW.trod enc a w base d held c e.type ((b.drop e.offset).take (a.cellsOf e.type))=some l/\
   DataW.trod enc a w base d held c f.type ((b.drop f.offset).take (a.cellsOf f.type))=some m/\DataW.trod enc a w base d held c g.type ((b.drop g.offset).take (a.cellsOf g.type))=some n/\
   DataW.trod enc a w base d held c h.type ((b.drop h.offset).take (a.cellsOf h.type))=some o/\DataW.trod enc a w base d held c i.type ((b.drop i.offset).take (a.cellsOf i.type))=some p/\
   DataW.trod enc a w base d held c j.type ((b.drop j.offset).take (a.cellsOf j.type))=some q/\DataW.trod enc a w base d held c k.type ((b.drop k.offset).take (a.cellsOf k.type))=some r:=by
 obtain⟨b,c,_,rfl,d,s,a⟩:=DataW.trod_struct u v
 match b,s with
 | [l,m,n,o,p,q,r],_=>exact⟨l,m,n,o,p,q,r,c,by simp,d,by simpa using a 0 e rfl,by simpa using a 1 f rfl,by simpa using a 2 g rfl,by simpa using a 3 h rfl,by simpa using a 4 i rfl,by simpa using a 5 j rfl,by simpa using a 6 k rfl⟩
theorem wu(a:List Value){b c:Nat}{d e:List Value}(f:(a.drop b).take c=d)(g:a.drop (b+c)=e):a.drop b=d++e:=by
 rw[<-f,<-g,<-List.drop_drop,List.take_append_drop]
theorem Ul{b:Program}{a c:TypeId}{e:Nat}{f:List Value}{d:DataW H×List MemPlace}(g:b.underlying a=some (.slice c))(h:b.underlying c=some (.int .u8))(i:b.cellsOf c=1)(j:b.bytesOf c=1)
  (hx:DataW.trod enc b w base (λ_=>true) held e a f=some d)(k:∀l∈d.1.weights b a,l<=140737488351232):
  ∃d a e,f=[.slice d a.length e]/\a.length<=e/\ax w 1 d a.length (ak a)/\a.length < 140737488355328/\(d=none->a.length=0/\e=0):=by
 obtain⟨d,l,e,m,n,o,s,f,p,q,r⟩:=qm (ks:=[.int .u8]) (N:=1) g (by simp[jq,h]) i hx
 obtain⟨a,h,rfl⟩:=jB l m p
 subst h
 refine⟨d,a,e,n,o,q,?_,f⟩
 rcases r with⟨h0,_⟩ |⟨h,a,rest,_,d,i,e⟩
 ·have:=(f h0).1;omega
 ·simp only[if_true]at e
  have:=k ((a.length+rest.length)*b.bytesOf c) (by
   have a:=d;rw[a]
   simp[DataW.weights,g])
  rw[j]at this;omega
theorem U6{a:Nat}{d:List Value}{b:DataW H×List MemPlace}(hx:DataW.trod enc prog w base (λ_=>true) held a 39 d=some b):
  ∃hd b a c e,d=aN hd (.slice b a c)/\hd.Ok/\(b=none->a=0/\c=0)/\a<=c/\kD w b a e:=by
 obtain⟨f,h,j,-,i,h0,g⟩:=trod_struct2 underlying39 hx
 have f:=oO 5 36 NC _ _ _ bH h0
 obtain⟨hd,j,h⟩:=Qx _ f
 obtain⟨b,a,c,k,l,m,-,n,o,f,-⟩:=qm (ks:=zN) (N:=5) underlying37 bH bH g
 obtain⟨e,p,q,rfl⟩:=Fy a k o
 have k:prog.cellsOf 36=98:=by kernel_rfl
 have o:prog.cellsOf 37=1:=by kernel_rfl
 have r:prog.cellsOf 39=99:=by kernel_rfl
 have g:=h
 have h:(d.drop 98).take (prog.cellsOf 37)=[.slice b a c]:=l
 have l:d.length=99:=i.trans r
 rw[k,List.drop_zero]at g
 rw[o]at h
 have i:d.drop 98=[.slice b a c]:=by
  rw[<-h,List.take_of_length_le (by rw[List.length_drop,l];omega)]
 refine⟨hd,b,a,c,e,?_,j,n,m,p,q,?_⟩
 ·unfold aN
  rw[<-g,<-i,List.take_append_drop]
 ·rw[Mt]at f
  exact f
theorem VF{c:Nat}{e:List Value}{a:DataW H×List MemPlace}(hx:DataW.trod enc prog w base (λ_=>true) held c 46 e=some a)(l:∀b∈a.1.weights prog 46,b<=140737488351232):
  ∃f g c a d h,e=[.int .i64 f,.int .i64 g,.slice c a d]/\a<=d/\j6 w c a h:=by
 obtain⟨m,n,o,i,hd,p,h0,q,r⟩:=Go.Deep.trod_struct3 underlying46 hx
 have s:∀(j:Nat) (i:TypeId) (k:DataW H),[3,3,44][j]?=some i->[m.1,n.1,o.1][j]?=some k->∀b∈k.weights prog i,b<=140737488351232:=λj i k m n b o=>l b (by
  rw[hd];simp only[DataW.weights,underlying46]
  exact DataW.weights_mem_each (j:=j) m n b o)
 obtain⟨f,k,-,-⟩:=DataW.trod_int underlying3 h0
 obtain⟨g,b,-,-⟩:=DataW.trod_int underlying3 q
 obtain⟨c,a,d,i,m,n,v,o,q,l,t⟩:=qm (ks:=nM 32 [.int .u8]) (N:=3) underlying44 bH bH r
 obtain⟨h,r,v,rfl⟩:=wJ a i q
 have i:prog.bytesOf 23=32:=by kernel_rfl
 have q:a < 140737488355328:=by
  rcases t with⟨h0,_⟩ |⟨A,q,rest,_,x,B,y⟩
  ·have:=(o h0).1;omega
  ·simp only[if_true]at y
   have:=s 2 _ _ rfl rfl ((q.length+rest.length)*prog.bytesOf 23) (by
    have b:=x;rw[b]
    simp[DataW.weights,underlying44])
   rw[i]at this;omega
 have o:prog.cellsOf 3=1:=by kernel_rfl
 have q:prog.cellsOf 44=1:=by kernel_rfl
 have s:prog.cellsOf 46=3:=by kernel_rfl
 have i:=k
 have k:=b
 have b:=m
 have m:=p.trans s
 rw[o]at i k
 rw[q]at b
 refine⟨f,g,c,a,d,h,?_,n,r,v,?_⟩
 ·match a:e,m with
  | [u,a,z],_=>
   simp at i k b;rw[i,k,b]
 ·have:(nM 32 [CK.int .u8]).length=32:=by simp[nL]
  rw[this]at l;exact l
theorem Vq{c:Nat}{e:List Value}{a:DataW H×List MemPlace}(hx:DataW.trod enc prog w base (λ_=>true) held c 48 e=some a)(l:∀b∈a.1.weights prog 48,b<=140737488351232):
  ∃f g c a d h,e=[.int .i64 f,.int .i64 g,.slice c a d]/\a<=d/\j6 w c a h:=by
 obtain⟨m,n,o,i,hd,p,h0,q,r⟩:=Go.Deep.trod_struct3 underlying48 hx
 have s:∀(j:Nat) (i:TypeId) (k:DataW H),[3,3,44][j]?=some i->[m.1,n.1,o.1][j]?=some k->∀b∈k.weights prog i,b<=140737488351232:=λj i k m n b o=>l b (by
  rw[hd];simp only[DataW.weights,underlying48]
  exact DataW.weights_mem_each (j:=j) m n b o)
 obtain⟨f,k,-,-⟩:=DataW.trod_int underlying3 h0
 obtain⟨g,b,-,-⟩:=DataW.trod_int underlying3 q
 obtain⟨c,a,d,i,m,n,v,o,q,l,t⟩:=qm (ks:=nM 32 [.int .u8]) (N:=3) underlying44 bH bH r
 obtain⟨h,r,v,rfl⟩:=wJ a i q
 have i:prog.bytesOf 23=32:=by kernel_rfl
 have q:a < 140737488355328:=by
  rcases t with⟨h0,_⟩ |⟨A,q,rest,_,x,B,y⟩
  ·have:=(o h0).1;omega
  ·simp only[if_true]at y
   have:=s 2 _ _ rfl rfl ((q.length+rest.length)*prog.bytesOf 23) (by
    have b:=x;rw[b]
    simp[DataW.weights,underlying44])
   rw[i]at this;omega
 have o:prog.cellsOf 3=1:=by kernel_rfl
 have q:prog.cellsOf 44=1:=by kernel_rfl
 have s:prog.cellsOf 48=3:=by kernel_rfl
 have i:=k
 have k:=b
 have b:=m
 have m:=p.trans s
 rw[o]at i k
 rw[q]at b
 refine⟨f,g,c,a,d,h,?_,n,r,v,?_⟩
 ·match a:e,m with
  | [u,a,z],_=>
   simp at i k b;rw[i,k,b]
 ·have:(nM 32 [CK.int .u8]).length=32:=by simp[nL]
  rw[this]at l;exact l
theorem Xb{a:Nat}{f:List Value}{i:DataW H×List MemPlace}(hx:DataW.trod enc prog w base (λ_=>true) held a 52 f=some i):
  ∃b j g ch e c a d h,f=dH b j (dW g ch) e c a d/\ch.length=32/\e.length=32/\a<=d/\j6 w c a h/\(c=none->a=0/\d=0)/\(∃k,i.1=.agg (.lit (.string b.data.toList) :: k)):=by
 obtain⟨o,n,q,r,s,j,hd,p,h0,i,k,l,m⟩:=Ia underlying52 hx
 obtain⟨b,n,q,-⟩:=DataW.trod_string underlying9 h0
 obtain⟨r,s,-⟩:=DataW.trod_bool underlying4 i
 have i:=oO 4 50 Tv _ _ _ bH k
 have j:=oO 4 23 (nM 32 [.int .u8]) _ _ _ bH l
 obtain⟨g,ch,t,u⟩:=Tf i
 obtain⟨e,v,x⟩:=jB _ _ j
 obtain⟨c,a,d,j,y,z,-,A,k,i,-⟩:=qm (ks:=nM 32 [.int .u8]) (N:=3) underlying44 bH bH m
 obtain⟨h,B,C,rfl⟩:=wJ a j k
 have D:prog.cellsOf 9=1:=by kernel_rfl
 have E:prog.cellsOf 4=1:=by kernel_rfl
 have F:prog.cellsOf 50=33:=by kernel_rfl
 have G:prog.cellsOf 23=32:=by kernel_rfl
 have I:prog.cellsOf 44=1:=by kernel_rfl
 have J:prog.cellsOf 52=68:=by kernel_rfl
 have j:=n
 have k:=s
 have l:=u
 have m:=x
 have n:=y
 have s:=p.trans J
 rw[D]at j
 rw[E]at k
 rw[F]at l
 rw[G]at m
 rw[I]at n
 have p:=NH f _ _ _ _ _ j k l m n s
 refine⟨b,r,g,ch,e,c,a,d,h,?_,t,v,z,⟨B,C,?_⟩,A,?_⟩
 ·exact p
 ·have:(nM 32 [CK.int .u8]).length=32:=by simp[nL]
  rw[this]at i;exact i
 ·have:o.1=.lit (.string b.data.toList):=by rw[q]
  rw[this]at hd;exact⟨_,hd⟩
theorem Uq{d:Nat}{a:List Value}{c:DataW H×List MemPlace}(hx:DataW.trod enc prog w base (λ_=>true) held d 54 a=some c)(g:∀b∈c.1.weights prog 54,b<=140737488351232):
  ∃c:gy,a=dF c/\nZ w c:=by
 obtain⟨f,h,i,k,l,m,n,c,hd,s,h0,o,p,q,r,t,u⟩:=H9 underlying54 hx
 have c:∀(j:Nat) (d:TypeId) (e:DataW H),[3,4,39,46,27,48,52][j]?=some d->[f.1,h.1,i.1,k.1,l.1,m.1,n.1][j]?=some e->∀b∈e.weights prog d,b<=140737488351232:=λj d e h f b i=>g b (by
  rw[hd];simp only[DataW.weights,underlying54]
  exact DataW.weights_mem_each (j:=j) h f b i)
 obtain⟨v,m,-,-⟩:=DataW.trod_int underlying3 h0
 obtain⟨x,n,-⟩:=DataW.trod_bool underlying4 o
 obtain⟨f,y,z,A,B,o,C,D,E,F⟩:=U6 p
 obtain⟨G,I,J,K,c2,L,p,M,N⟩:=VF q (c 3 _ _ rfl rfl)
 obtain⟨O,d,P,q,Q,R,S,T⟩:=Ul underlying27 underlying5 bH bH r (c 4 _ _ rfl rfl)
 obtain⟨U,V,W,X,Y,Z,r,α,β⟩:=Vq t (c 5 _ _ rfl rfl)
 obtain⟨b,e,g,ch,h,i,k,l,t,γ,δ,ε,ζ,η,-,ι,θ⟩:=Xb u
 have u:b.size < 140737488355327:=by
  have:=c 6 _ _ rfl rfl b.data.toList.length (by rw[θ];simp[DataW.weights,underlying52,DataW.weightsEach]);have c:b.data.toList.length=b.size:=Array.length_toList;omega
 have θ:prog.cellsOf 3=1:=by kernel_rfl
 have ι:prog.cellsOf 4=1:=by kernel_rfl
 have κ:prog.cellsOf 39=99:=by kernel_rfl
 have μ:prog.cellsOf 46=3:=by kernel_rfl
 have ν:prog.cellsOf 27=1:=by kernel_rfl
 have ξ:prog.cellsOf 48=3:=by kernel_rfl
 have ο:prog.cellsOf 52=68:=by kernel_rfl
 have ρ:prog.cellsOf 54=176:=by kernel_rfl
 have c:=m
 have m:=n
 have n:=o
 have o:=p
 have p:=q
 have q:=r
 have r:(a.drop 108).take (prog.cellsOf 52)=dH b e (dW g ch) h i k l:=γ
 have γ:a.length=176:=s.trans ρ
 rw[θ]at c
 rw[ι]at m
 rw[κ]at n
 rw[μ]at o
 rw[ν]at p
 rw[ξ]at q
 rw[ο,List.take_of_length_le (by rw[List.length_drop,γ];omega)]at r
 have s:=wu a c (wu a m (wu a n (wu a o (wu a p (wu a q r)))))
 rw[List.drop_zero]at s
 refine⟨⟨v,x,f,y,z,A,B,G,I,J,K,c2,L,O,d.length,P,d,U,V,W,X,Y,Z,b,e,g,ch,h,i,k,l,t⟩,?_,C,F,D,E,N,M,rfl,R,Q,T,S,β,α,δ,ε,u,η,ζ⟩
 rw[s]
 rfl
instance:Inhabited gy:=⟨⟨0,false,h0,none,0,0,[],0,0,none,0,0,[],none,0,0,[],0,0,none,0,0,[],ByteArray.empty,false,0,[],[],none,0,0,[]⟩⟩
theorem Rn{c:Nat}{e:List Value}{a:DataW H×List MemPlace}(hx:DataW.trod enc prog w base (λ_=>true) held c 25 e=some a)(j:∀b∈a.1.weights prog 25,b<=140737488351232):
  ∃c n d f,e=[.slice c n d]/\n<=140737488355328/\rZ w c n f/\n<=d/\(c=none->n=0/\d=0):=by
 have g:prog.cellsOf 54=176:=by kernel_rfl
 have i:prog.bytesOf 54=376:=by kernel_rfl
 rcases Go.Deep.open_slice underlying25 hx with⟨l,c⟩ |⟨h,d,m,r,n,f,o,l,q,s,t,e,c,k⟩
 ·exact⟨none,0,0,[],l,ah,⟨rfl,λ_ m=>(by cases m),ax.oI w 176 none⟩,AJ _,λ_=>⟨rfl,rfl⟩⟩
 ·simp only[if_true]at e
  subst e;have hd:=congrArg Prod.fst c;rw[g]at k
  have x:d<=140737488355328:=by
   have e:(((List.range d).map f).length+((List.range (r - d)).map λc=>f (d+c)).length)*prog.bytesOf 54∈a.1.weights prog 25:=by
    rw[hd];simp only[DataW.weights,underlying25,List.mem_cons,true_or]
   have a:=j _ e;rw[i,List.length_map,List.length_range]at a;omega
  obtain⟨g,i⟩:=Go.Deep.choose_lt (α:=gy) (n:=d) (p:=λa p=>w.cells? base (h.add (a*176)) 176=some (dF p)/\nZ w p) (λa f=>by
   obtain⟨o,q,e⟩:=k a ah
   obtain⟨p,rfl,k⟩:=Uq e (λb o=>j b (by
    rw[hd];simp only[DataW.weights,underlying25,List.mem_cons,List.mem_append]
    exact .inr (.inl (qx (Aq.2 ⟨a,Be.2 f,rfl⟩) o))))
   exact⟨p,q,k⟩)
  have q:=λa (f:a < d)=>qz (i a f).2.ok (i a f).2.VI (i a f).2.dl
  have s:∀a,a < d->∀c u,(dF (g a))[c]?=some u->w.cell? (h.add (a*176+c))=some u:=λa f c u e=>by
   obtain⟨_,k,j⟩:=World.cells?_some (i a f).1;have t:c < 176:=dn ((AU.1 e).1) (q a f);have:=j c t;rw[Go.Deep.add_add]at this;rw[this,e]
  have v:∀j:List Nat,(j.map g).flatMap dF=j.flatMap λa=>dF (g a):=λj=>by
   induction j with
   | nil=>rfl
   | cons h j k=>simp[List.flatMap_cons,k]
  have j:∀b,b<=d->((List.range b).flatMap λa=>dF (g a)).length=b*176:=by
   intro b
   induction b with
   | zero=>simp
   | succ b k=>
    intro o;rw[List.range_succ,List.flatMap_append,List.length_append,k ah];simp only[List.flatMap_cons,List.flatMap_nil,List.append_nil];rw[q b ah];omega
  have y:∀b,b<=d->∀c u,((List.range b).flatMap λa=>dF (g a))[c]?=some u->w.cell? (h.add c)=some u:=by
   intro b
   induction b with
   | zero=>intro _ c u e;simp at e
   | succ b k=>
    intro o c u e;rw[List.range_succ,List.flatMap_append]at e;simp only[List.flatMap_cons,List.flatMap_nil,List.append_nil]at e;have o:=j b ah;by_cases t:c < b*176
    ·rw[List.getElem?_append_left ah]at e
     exact k ah c u e
    ·rw[List.getElem?_append_right ah,o]at e
     have:=s b ah _ u e;rwa[show b*176+(c - b*176)=c by omega]at this
  refine⟨some h,d,r,(List.range d).map g,l,x,⟨by simp,λp e=>?_,⟨?_,λb=>?_⟩⟩,ah,λm=>by cases m⟩
  ·obtain⟨a,f,rfl⟩:=Aq.1 e
   exact(i a (Be.1 f)).2
  ·rw[v,j d (Nat.le_refl _)]
  ·rw[v]
   replace b:0 < d:=ah;have a:=q 0 b;obtain⟨a,e⟩:∃u,(dF (g 0))[0]?=some u:=⟨_,AV ah⟩;have a:=s 0 b 0 _ e;obtain⟨b,e,f⟩:=h;(have g:f=none:=by simpa[Addr.add]using World.cell?_spot a);subst g;refine⟨b,e,rfl,?_,λc u f=>?_⟩
   ·have:=World.block_lt_of_cell? w _ a
    simpa[eD]using this
   ·have:=y d (AJ _) c u f
    rwa[eD]at this
theorem M9{a:Reach}{b:Nat}{d:Value}{e:DataW H}{c:List MemPlace}(g:Value.okWide prog w a b 25 d)
  (h:DataW.Trod enc prog w base (λ_=>true) held 25 d e c)
  {a:List TypeId}{b:List (DataW H)}(i:(DataW.weightsEach prog a b).all (·<=reachBytes)=true){j:Nat}(k:a[j]?=some 25)(l:b[j]?=some e):
  ∃b a c f,d=.slice b a c/\a<=140737488355328/\rZ w b a f/\a<=c/\(b=none->a=0/\c=0):=by
 obtain⟨d,m,n,rfl⟩:=okWide_slice underlying25 g
 obtain⟨d,hx⟩:=h
 have g:∀d∈e.weights prog 25,d<=140737488351232:=λd e=>by
  have:=List.all_eq_true.1 i _ (DataW.weights_mem_each k l d e);have d:=BQ this;simpa[reachBytes]using d
 obtain⟨b,a,c,f,e,h,d,i,k⟩:=Rn hx g
 simp only[Value.cells,List.cons.injEq,Value.slice.injEq,and_true]at e
 obtain⟨rfl,rfl,rfl⟩:=e
 exact⟨_,_,_,f,rfl,h,d,i,k⟩
end
end
