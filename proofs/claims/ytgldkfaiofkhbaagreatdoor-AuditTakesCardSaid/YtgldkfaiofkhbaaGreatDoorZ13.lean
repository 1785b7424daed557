import Derived.Test.YtgldkfaiofkhbaaGreatDoorZ12
import Derived.Test.YtgldkfaiofkhbaaGreatDoorZ5
namespace Go.Proofs.YtgldkfaiofkhbaaGreatDoor
open Go Go.RowKit Go.Proofs.Tryz
set_option maxRecDepth 100000
set_option maxHeartbeats 1000000
theorem aO.append{wr d:World}{g:Nat}{r:Option Nat}{l q:aj}{a h:Value}(c:kX wr g r l)(f:∀u,aL wr g 313 #[u]->u=a)(e:rC wr 0 5 1 a l.length q.length (ak l) (ak q) h d):
  aO wr g r (l++q) (d.setCell ⟨g,0,none⟩ h):=by
 obtain⟨b,j,a,k,o⟩:=c
 obtain rfl:=f b j
 have t:au (λa=>a=g\/some a=r) wr d:=(au.refl _ wr).grown e.grow (λa c=>.inl (.inr (k ▸ c.symm)))
 have v:aL d g 313 #[b]:=(e.grow.block g j.lt (λf=>by
  have:=(o g (k ▸ f.symm)).1
  omega)).trans j
 have m:∀a,h.ownBlock=some a->g < a/\a < d.heap.size:=by
  intro a c
  have b:a < d.heap.size:=by
   rcases e.own.2 with⟨rfl,_⟩ |⟨i,p,s,rfl,_,n,_⟩
   ·cases c
   ·obtain rfl:i=a:=by simpa[Value.ownBlock]using c
    exact(Ay.1 n).1
  refine⟨?_,b⟩
  rcases e.at_ with b | b
  ·exact(o a (by rw[<-k,<-b,c])).1
  ·rw[b]at c
   (injection c with c);have:=j.lt;omega
 refine⟨h.ownBlock,⟨h,v.lD 0 _,?_,rfl,λa f=>⟨(m a f).1,by have:=(m a f).2;simpa[World.setCell]using this⟩⟩,t.setCell (.inl (.inl rfl)) _,?_⟩
 ·have a:=e.own
  refine⟨by simp[aB],?_⟩;have c:(l++q).length=l.length+q.length:=List.length_append;(have h:ak (l++q)=ak l++ak q:=by simp[ak]);rw[c,h]
  rcases a.2 with b |⟨i,p,s,rfl,c,n,h⟩
  ·exact .inl b
  ·refine .inr ⟨i,p,s,rfl,c,?_,h⟩
   have:=(m i rfl).1;exact(Below.heap_setCell d ⟨g,0,none⟩ _ i (λf=>by simp at f;omega)).trans n
 ·rcases e.at_ with b | b
  ·exact .inl (by rw[b,k])
  ·exact .inr ⟨_,b,AJ _⟩
theorem WG(a:aj)(hd:a.length=32):(prog.info? 23).map (·.size)=some (ak a).length:=by rw[aB,hd];exact jN
theorem VZ:bF.size=32:=rfl
theorem Dg(g:Nat)(r:Option Nat)(l:aj)(c:List aj)(d:Nat)(m:c.length=d)(hd:∀b∈c,b.length=32)(a:Option Addr)(f:Nat)(w:World)(n:l.length+32*d<=140737488355328)
  (i:kX w g r l)(j:ax w 32 a d (c.flatMap ak))(k:0 < d->∀e,a=some e->e.block≠g/\some e.block≠r):
  Calls prog 156 #[.pointer (some ⟨g,0,none⟩),.slice a d f] w λh w'=>h=.returned (.tuple #[])/\aO w g r (l++c.flatten) w':=by
 obtain⟨I,J,K,L,M⟩:=fT pI
 have s:=AA (show aO w g r (l++(c.take 0).flatten) w by simpa using i.refl)
 have f:(d:Int) < 9223372036854775807:=ah
 replace f:=AA f
 replace n:=AA n
 replace m:=AA m
 replace hd:=AA hd
 replace j:=AA j
 replace k:=AA k
 clear i
 go_enter func156,ntmps156
 go_wp2_with fail
 go_loopw [8] (λe wr=>∃a:Nat,e=.int .i64 (a:Int)/\Hid (a<=d)/\Hid (aO w g r (l++(c.take a).flatten) wr)) (λe _=>d - (intOf e).toNat)
 case atStart=>exact⟨0,rfl,(show 0<=d by omega),s.out⟩
 case round=>
  clear s;obtain⟨a,rfl,N,s⟩:=hrel;by_cases x:a < d
  ·have O:(a:Int) < (d:Int):=ah
   have i:(0:Int)<=(a:Int):=ah;have i:(a:Int) < 9223372036854775807:=aC f;obtain⟨r1,i,B,c1⟩:=s.out;obtain⟨e,f,C,D,E⟩:=i
   have t:some g≠e.ownBlock:=λh=>by
    have:=(E g (D ▸ h.symm)).1;omega
   obtain⟨b,v⟩:∃b,Hid (c[a]?=some b):=⟨_,AV (m.out ▸ x)⟩;(have x:=AA<|hd.out b (Ab v.out));obtain⟨y,o,rfl,F,G⟩:=j.out.2 ah
   have z:∀j u,(ak b)[j]?=some u->wr.cell? ⟨y,o+a*32+j,none⟩=some u:=λj u A=>by
    have Q:=G _ _ (Eb c hd.out a b v.out j u A);have H:=k.out ah _ rfl;rw[Nat.add_assoc];exact(B.cell (p:=⟨y,o+(a*32+j),none⟩) F (λk=>by rcases k with k | k;exact H.1 k;exact H.2 k)).trans Q
   replace z:=AA z;clear G F;have j:(wr.alloc (.cells (ak b).toArray 23)).cell? ⟨g,0,none⟩=some e:=(World.cell?_alloc_lt wr _ ⟨g,0,none⟩ f.lt).trans (by rw[f.cell 0];rfl)
   have k:Hid ((l++(c.take a).flatten).length+32<=140737488355328):=by
    show _<=_;have:=n.out;have j:=(zi (c.take a) (λn hx=>hd.out n (CO hx))).1;have n:=List.length_take_le a c;rw[List.length_append,j];(have:(c.take a).length<=a:=by rw[List.length_take];omega);omega
   have F:Hid (l++(c.take (a+1)).flatten=(l++(c.take a).flatten)++b):=by
    show _=_;rw[List.take_add_one,v.out];simp
   have G:=AA C
   have j:∀u,aL wr g 313 #[u]->u=e:=λu A=>by
    have i:=(show wr.heap[g]?=_ from A).symm.trans f;simpa using i
   have n:=AA (WG b x.out);(have v:=AA<|(aB b).trans x.out);have A:Hid ((prog.info? 23).map (·.size)=some (ak b).toArray.size):=(show _=_ by rw[List.size_toArray];exact n.out);have H:Hid (bF.size=(ak b).toArray.size):=(by have h:(ak b).toArray.size=(ak b).length:=List.size_toArray;show bF.size=_;rw[h,v.out];rfl);replace j:=AA j;replace t:=AA t;replace f:=AA f;clear E C D c1 B;generalize l++(c.take a).flatten=h at*
   go_wp2_with (first
    |(rw[bY 11];refine ow (o:=⟨some 11,_,_,_,_,_⟩) rfl 23 (.tmp 10) rfl y (o+a*32) rfl (ak b) _ z AB rfl n ?_)
    |((with_reducible change wpList _ _ _ ({dst:=none,op:=Op.store 23 _ _,type:=_,pos:=_,after:=_,guard:=_} :: _) _ _);refine wpList_store_row (o:=⟨none,_,_,_,_,_⟩) rfl 23 (.tmp 5) (.tmp 11) rfl wr.heap.size (ak b).toArray rfl rfl 23 bF (heap_alloc_new wr _) A H (Lh b) ?_;rw[zx]))
   have n:=AA v.out;have v:=AA<|World.news_of_block (w:=(wr.alloc (.cells (ak b).toArray 23)).drew) (heap_alloc_new wr _)
   go_region_law (refine step_append_lies (P:=prog) ((wr.alloc (.cells (ak b).toArray 23)).drew) (o:=⟨some 18,_,_,_,_,_⟩) rfl (.tmp 16) (.tmp 17) 27 rfl 0 5 I (.int .u8 0) 1 1 AR J K L M rfl aR e h.length (ak h) ?hs (World.ownsRow.alloc (w:=wr) G.out _) ⟨wr.heap.size,0,none⟩ 32 32 (ak b) ?hx n.out v.out (aY b) aR ?c1 ?c2 (AX _) _ rfl ?_;(case hs=>go_simp);(case hx=>go_simp);(case c1=>have:=k.out;unfold maxLen;omega);(case c2=>have:=k.out;omega);intro h y z k e n v;have h:au (λ_=>False) wr ((wr.alloc (.cells (ak b).toArray 23)).drew):=((au.refl _ wr).alloc _).drew;have y:=AA<|s.out.step (λr1 i=>aO.put (q:=b) i j.out rfl x.out.symm h k e n v);obtain⟨b,i⟩:=ze f.out t.out h e;clear k e n v h)
   all_goals
    go_wp2_with fail
    go_roundw
    case rel=>exact⟨a+1,by go_num,(show a+1<=d by omega),(show aO _ _ _ _ _ by rw[F.out];exact y)⟩
    case measure=>simp[intOf];omega
  ·obtain rfl:a=d:=aC N
   have O:(a:Int)<=(a:Int):=ah;have b:Hid (c.take a=c):=BA (aC m);go_wp2_with fail
   go_end0
   exact⟨rfl,by have:=s.out;rw[b.out]at this;exact this⟩
theorem jy(w:World):Calls prog 130 #[] w λa w'=>a=.returned (.pointer (some ⟨w.heap.size,0,none⟩))/\w'=w.alloc (.cells #[.slice none 0 0] 313):=by
 (go_enter func130,ntmps130);go_wp2_with fail;go_ret;exact⟨rfl,rfl⟩
theorem kX.new(w:World):kX (w.alloc (.cells #[.slice none 0 0] 313)) w.heap.size none []:=
 ⟨_,aL.new w _ _,Aa _ _ _ _,rfl,λ_ a=>by cases a⟩
theorem RS(b:Int)(a:BitVec 8)(c:b8 a=b)(g:Nat)(r:Option Nat)(l:aj)(w:World)(d:l.length+1<=140737488355328)(e:kX w g r l):
  Calls prog 131 #[.pointer (some ⟨g,0,none⟩),.int .u8 b] w λf w'=>f=.returned (.tuple #[])/\aO w g r (l++[a]) w':=by
 subst c
 exact Ym g r l a w d e
theorem RO(b:Int)(a:Nat)(c:(a:Int)=b)(d:a < 18446744073709551616)(g:Nat)(r:Option Nat)(l:aj)(w:World)(e:l.length+8<=140737488355328)(f:kX w g r l):
  Calls prog 218 #[.pointer (some ⟨g,0,none⟩),.int .u64 b] w λh w'=>h=.returned (.tuple #[])/\aO w g r (l++jM a) w':=by
 subst c
 exact Yl g r l a d w e f
theorem uw(g:Nat)(r:Option Nat)(l:aj)(w:World)(i:l.length<=140737488355328)(c:kX w g r l):
  Calls prog 133 #[.pointer (some ⟨g,0,none⟩)] w λb w'=>∃a,b=.returned a/\av w w'/\w'.ownsRow w.heap.size 5 1 a l.length (ak l):=by
 obtain⟨j,k,m,n,o⟩:=fT pI
 obtain⟨a,d,e,p,q⟩:=c
 obtain⟨f,h,rfl,s,t,a,c,-⟩:=Own.reads e
 have u:w.cell? ⟨g,0,none⟩=some (.slice f l.length h):=by rw[d.cell 0];rfl
 have u:Hid (0+l.length<=maxLen):=by show _<=_;omega
 have v:Hid ((0+l.length)*1<=140737488355328):=by show _<=_;omega
 replace c:=AA c
 replace a:=AA a
 clear e d p q i s t
 go_enter func133,ntmps133
 go_wp2_with (at_builtin;refine dD _ rfl (.const (.slice none 0 0)) (.tmp 6) 27 rfl w.heap.size 5 j (.int .u8 0) 1 1 AR k m n o rfl aR (.slice none 0 0) 0 [] rfl (Aa _ _ _ _) f l.length h (ak l) rfl c a (aY l) u v (AJ _) ?_;intro c d a;replace a:=AA a)
 go_ret
 refine⟨c,rfl,a.below (Below.refl _ _) (AJ _) (λd b=>by cases b),?_⟩
 have:=a.own
 simpa using this
theorem uD(g:Nat)(r:Option Nat)(l:aj)(b:List aj)(c:Nat)(i:b.length=c)(a:Option Addr)(e:Nat)(w:World)(n:l.length+b.flatten.length<=140737488355328)(k:c < 140737488355328)
  (d:kX w g r l)(h:mo w g r a b):
  Calls prog 232 #[.pointer (some ⟨g,0,none⟩),.slice a c e] w λj w'=>j=.returned (.tuple #[])/\aO w g r (l++b.flatten) w':=by
 obtain⟨A,B,C,D,E⟩:=fT pI
 have f:=AA (show aO w g r (l++(b.take 0).flatten) w by simpa using d.refl)
 have e:(c:Int) < 9223372036854775807:=ah
 replace e:=AA e
 replace n:=AA n
 replace i:=AA i
 replace h:=AA h
 clear d k
 go_enter func232,ntmps232
 go_wp2_with fail
 go_loopw [8] (λd wr=>∃a:Nat,d=.int .i64 (a:Int)/\Hid (a<=c)/\Hid (aO w g r (l++(b.take a).flatten) wr)) (λd _=>c - (intOf d).toNat)
 case atStart=>exact⟨0,rfl,(show 0<=c by omega),f.out⟩
 case round=>
  clear f;obtain⟨a,rfl,F,o⟩:=hrel;by_cases k:a < c
  ·have G:(a:Int) < (c:Int):=ah
   have f:(0:Int)<=(a:Int):=ah;have f:(a:Int) < 9223372036854775807:=aC e;obtain⟨r1,e,t,c1⟩:=o.out;obtain⟨d,f,v,x,y⟩:=e
   have p:some g≠d.ownBlock:=λj=>by
    have:=(y g (x ▸ j.symm)).1;omega
   obtain⟨q,s⟩:∃q,Hid (b[a]?=some q):=⟨_,AV (i.out ▸ k)⟩;obtain⟨m,J,H,I,rfl,z,j,k⟩:=h.out.at_ s.out t;(have h:wr.cell? ⟨g,0,none⟩=some d:=by rw[f.cell 0];rfl);obtain⟨h,m⟩:∃h,Hid (q.length=h):=⟨_,rfl⟩;rw[m.out]at z j k;replace j:=AA j;replace k:=AA k
   have z:Hid ((l++(b.take a).flatten).length+q.length<=140737488355328):=by
    show _<=_;have:=n.out;have n:=(tT b a q s.out).2;rw[List.length_append];omega
   have J:Hid (l++(b.take (a+1)).flatten=(l++(b.take a).flatten)++q):=by
    show _=_;rw[(tT b a q s.out).1];simp
   have K:=AA v
   have s:∀u,aL wr g 313 #[u]->u=d:=λu n=>by
    have e:=(show wr.heap[g]?=_ from n).symm.trans f;simpa using e
   replace s:=AA s;replace p:=AA p;replace f:=AA f;clear y v x c1 t;generalize l++(b.take a).flatten=n at*;(have t:Hid (n.length+h<=maxLen):=by show _<=_;have:=z.out;have:=m.out;unfold maxLen;omega);(have v:Hid ((n.length+h)*1<=140737488355328):=by show _<=_;have:=z.out;have:=m.out;omega);go_wp2_with (at_builtin;refine dD wr rfl (.tmp 16) (.tmp 17) 27 rfl 0 5 A (.int .u8 0) 1 1 AR B C D E rfl (by decide) d n.length (ak n) rfl K.out H h I (ak q) rfl j.out k.out (aY q) t.out v.out (AX _) ?_;intro h j d;obtain⟨h,j,rfl,-⟩:=Own.reads d.own;have h:=AA (o.out.step (λr1 e=>aO.append (q:=q) e s.out (by rw[m.out];exact d)));obtain⟨e,j⟩:=ze f.out p.out (au.refl _ wr) d.grow;clear d);go_roundw
   case rel=>exact⟨a+1,by go_num,(show a+1<=c by omega),(show aO _ _ _ _ _ by rw[J.out];exact h)⟩
   case measure=>simp[intOf];omega
  ·obtain rfl:a=c:=aC F
   have G:(a:Int)<=(a:Int):=ah;have c:Hid (b.take a=b):=BA (aC i);go_wp2_with fail
   go_end0
   exact⟨rfl,by have:=o.out;rw[c.out]at this;exact this⟩
section
variable {w0 w w' wi:World} {g:Nat} {r r1:Option Nat} {l l2:aj}
theorem ko(a:Int)(b:BitVec 8)(d:b8 b=a)(e:l.length+1<=140737488355328)(f:aO w0 g r l w):
  Calls prog 131 #[.pointer (some ⟨g,0,none⟩),.int .u8 a] w λc w'=>c=.returned (.tuple #[])/\aO w0 g r (l++[b]) w':=by
 obtain⟨r1,h,i,c1⟩:=f
 exact(RS a b d g r1 l w e h).mono λc w' ⟨f,hx⟩=>⟨f,aO.xM i c1 hx⟩
theorem zU(b:Int)(a:Nat)(d:(a:Int)=b)(e:a < 18446744073709551616)(f:l.length+8<=140737488355328)(h:aO w0 g r l w):
  Calls prog 218 #[.pointer (some ⟨g,0,none⟩),.int .u64 b] w λc w'=>c=.returned (.tuple #[])/\aO w0 g r (l++jM a) w':=by
 obtain⟨r1,i,j,c1⟩:=h
 exact(RO b a d e g r1 l w f i).mono λc w' ⟨h,hx⟩=>⟨h,aO.xM j c1 hx⟩
theorem pM(b:List aj)(c:Nat)(e:b.length=c)(hd:∀a∈b,a.length=32)(f:l.length+32*c<=140737488355328)(h:aO w0 g r l wi):
  Calls prog 156 #[.pointer (some ⟨g,0,none⟩),.slice (some ⟨wi.heap.size,0,none⟩) c c] (wi.alloc (.cells ((b.map ak).flatten).toArray 23)) λa w'=>a=.returned (.tuple #[])/\aO w0 g r (l++b.flatten) w':=by
 obtain⟨r1,d,i,c1⟩:=h
 have h:ax (wi.alloc (.cells ((b.map ak).flatten).toArray 23)) 32 (some ⟨wi.heap.size,0,none⟩) c (b.flatMap ak):=
  (aL.new wi 23 ((b.map ak).flatten).toArray).reads 0 _ (by rw[(zi b hd).2,e];omega) (λk u j=>by rw[Nat.zero_add,List.getElem?_toArray,<-List.flatMap_def];exact j)
 refine(Dg g r1 l b c e hd _ c _ f (d.alloc _) h (λ_ j a=>?_)).mono λa w' ⟨b,hx⟩=>⟨b,aO.xM (i.alloc _) c1 hx⟩
 injection a with a
 subst a
 refine⟨λa=>?_,λa=>?_⟩
 ·have:=d.lt;simp at a;omega
 ·obtain⟨c,e,_,_,b⟩:=d
  have:=(b wi.heap.size (by rw[<-a])).2;omega
theorem vL(c:List aj)(b:Nat)(n:c.length=b)(hd:∀a∈c,a.length=32)(f:Option Addr)(h:Nat)(o:l.length+32*b<=140737488355328)(i:ax w0 32 f b (c.flatMap ak))(j:0 < b->∀d,f=some d->d.block≠g/\some d.block≠r)
  (e:aO w0 g r l w):
  Calls prog 156 #[.pointer (some ⟨g,0,none⟩),.slice f b h] w λa w'=>a=.returned (.tuple #[])/\aO w0 g r (l++c.flatten) w':=by
 obtain⟨r1,p,m,c1⟩:=e
 have q:=i.pY m (λu s t a e=>by
  have:=j ah _ a
  rcases e with e | e
  ·exact this.1 e
  ·exact this.2 e)
 refine(Dg g r1 l c b n hd f h w o p q (λh0 d a=>?_)).mono λa w' ⟨b,hx⟩=>⟨b,aO.xM m c1 hx⟩
 have c:=j h0 d a
 refine⟨c.1,λb=>?_⟩
 rcases c1 with rfl |⟨k,rfl,hk⟩
 ·exact c.2 b
 ·injection b with b
  obtain⟨s,t,c,d,_⟩:=i.2 ah;rw[a]at c;(injection c with c);subst c;simp at b;omega
end
def CY(l:aj):Nat:=l.foldl (λa c=>a*256+c.toNat) 0
def Rd(w:World)(g:Nat)(q:aj)(A:Option Addr)(c need:Nat):Prop:=
 ∃at_ why,aL w g 344 #[.slice A q.length c,.int .i64 ((at_:Nat):Int),.int .i64 why]/\ax w 1 A q.length (ak q)/\(A=none->q.length=0/\c=0)/\(0 < q.length->∀a,A=some a->a.block≠g)/\q.length<=c/\
  at_<=q.length/\(need<=q.length->at_=need/\why=0)/\(q.length < need->why=8)
section
variable {w w':World} {g need c:Nat} {q:aj} {A:Option Addr}
theorem Rd.lt(a:Rd w g q A c need):g < w.heap.size:=by obtain⟨_,_,b,_⟩:=a;exact b.lt
theorem Rd.kept{S:Nat->Prop}(h:Rd w g q A c need)(b:au S w w')(d:∀a,a < w.heap.size->¬S a):Rd w' g q A c need:=by
 obtain⟨i,j,e,f,k⟩:=h;refine⟨i,j,e.kept b (d g e.lt),f.pY b (λh a m l=>?_),k⟩;obtain⟨i,j,b,e,_⟩:=f.2 h;rw[l]at b;(injection b with b);(injection b with f);subst f;exact d a e
theorem Rd.below(h:Rd w g q A c need)(a:av w w'):Rd w' g q A c need:=h.kept (S:=λ_=>False) (au.of_below a) (λ_ _ b=>b)
theorem Rd.alloc(a:Rd w g q A c need)(o:Obj):Rd (w.alloc o) g q A c need:=a.below (Below.aJ w o)
theorem Rd.drewN(b:Rd w g q A c need)(a:Nat):Rd (w.drewN a) g q A c need:=b.below (fI (Below.refl _ _) a)
end
theorem UI{b:Program}{a:TypeId}{A:Option Addr}{d c l h:Nat}(e:b.underlying a=some (.slice (b.elem a)))(hs:∀w,(sizeOf (b.elem a)).run b w=.ok 1 w)(k:l<=h)(m:h<=c)(f i:Int)(hx:f=l)(j:i=h)(w:World):
  (Instr.sliceAt a (.slice A d c) (some (.int .i64 f)) (some (.int .i64 i)) none).run b w=.ok (.slice (vM A l c) (h - l) (c - l)) w:=by
 subst hx j
 rw[run_sliceAt_slice w a _ _ _ _ e,run_slice_lh w a A d c e .i64 .i64 (l:Int) (h:Int) ah ah ah,hs]
 simp[Result.andThen,sliced,vM]
theorem Rd.at_{w:World}{need:Nat}{q:aj}{A:Option Addr}(f:ax w 1 A q.length (ak q)){e:Nat}(h0:0 < e)(h:need+e<=q.length):∃a b,A=some ⟨a,b,none⟩/\a < w.heap.size/\∀d,d < e->w.cell? ⟨a,b+need+d,none⟩=some (.int .u8 (b8 (q.getD (need+d) 0))):=by
 obtain⟨a,b,e,h,i⟩:=f.2 ah;refine⟨a,b,e,h,λd f=>?_⟩;rw[Nat.add_assoc];exact i _ _ (eu q _ ah)
section
variable {w:World} {g c at_:Nat} {q:aj} {A:Option Addr}
theorem Rd.zR(b:ax w 1 A q.length (ak q))(d:0 < q.length->∀a,A=some a->a.block≠g)(e:Nat)(u:Value):ax (w.setCell ⟨g,e,none⟩ u) 1 A q.length (ak q):=
 b.pY ((au.refl (·=g) w).setCell (.inl rfl) u) (λf h i a e=>d ah _ a e)
theorem Rd.YC{a:Nat}(e:aL w g 344 #[.slice A q.length c,.int .i64 (at_:Int),.int .i64 0])(f:ax w 1 A q.length (ak q))(h:A=none->q.length=0/\c=0)(b:0 < q.length->∀d,A=some d->d.block≠g)(i:q.length<=c)(j:at_+a<=q.length):
  Rd (w.setCell ⟨g,1,none⟩ (.int .i64 ((at_:Int)+(a:Int)))) g q A c (at_+a)/\au (·=g) w (w.setCell ⟨g,1,none⟩ (.int .i64 ((at_:Int)+(a:Int)))):=
 ⟨⟨at_+a,0,by have:=e.lD 1 (.int .i64 ((at_:Int)+(a:Int)));simpa using this,Rd.zR f b _ _,h,b,i,j,λ_=>⟨rfl,rfl⟩,λa=>absurd a ah⟩,(au.refl (·=g) w).setCell (p:=⟨g,1,none⟩) (.inl rfl) _⟩
theorem Rd.fail{a:Nat}(e:aL w g 344 #[.slice A q.length c,.int .i64 (at_:Int),.int .i64 0])(f:ax w 1 A q.length (ak q))(h:A=none->q.length=0/\c=0)(b:0 < q.length->∀d,A=some d->d.block≠g)(i:q.length<=c)(j:at_<=q.length)(k:q.length < a):
  Rd (w.setCell ⟨g,2,none⟩ (.int .i64 8)) g q A c a/\au (·=g) w (w.setCell ⟨g,2,none⟩ (.int .i64 8)):=
 ⟨⟨at_,8,by have:=e.lD 2 (.int .i64 8);simpa using this,Rd.zR f b _ _,h,b,i,j,λa=>absurd a ah,λ_=>rfl⟩,(au.refl (·=g) w).setCell (p:=⟨g,2,none⟩) (.inl rfl) _⟩
theorem Rd.stay{a:Nat}(d:aL w g 344 #[.slice A q.length c,.int .i64 (at_:Int),.int .i64 8])(e:ax w 1 A q.length (ak q))(f:A=none->q.length=0/\c=0)(h:0 < q.length->∀b,A=some b->b.block≠g)(i:q.length<=c)(j:at_<=q.length)(k:q.length < a):Rd w g q A c a:=
 ⟨at_,8,d,e,f,h,i,j,λa=>absurd a ah,λ_=>rfl⟩
end
theorem Il(g:Nat)(b:Value)(at_:Int)(w:World)(a:aL w g 344 #[b,.int .i64 at_,.int .i64 0]):
  Calls prog 240 #[.pointer (some ⟨g,0,none⟩),.int .i64 8] w λb d=>b=.returned (.tuple #[])/\w.setCell ⟨g,2,none⟩ (.int .i64 8)=d:=by
 have b:w.cell? ⟨g,2,none⟩=some (.int .i64 0):=by rw[a.cell 2];rfl
 have b:=a.frozen 2
 clear a
 go_enter func240,ntmps240
 go_wp2_with fail
 go_end0
 exact⟨rfl,rfl⟩
theorem OZ(q:aj)(d:q.length < 140737488355328)(g:Nat)(A:Option Addr)(c at_:Nat)(b:Int)(w:World)(a:aL w g 344 #[.slice A q.length c,.int .i64 (at_:Int),.int .i64 b])(e:at_<=q.length):
  Calls prog 241 #[.pointer (some ⟨g,0,none⟩)] w λf h=>f=.returned (.int .i64 ((q.length:Int) - (at_:Int)))/\∃b,h=w.drewN b:=by
 have f:w.cell? ⟨g,0,none⟩=some (.slice A q.length c):=by rw[a.cell 0];rfl
 have f:w.cell? ⟨g,1,none⟩=some (.int .i64 (at_:Int)):=by rw[a.cell 1];rfl
 have f:=IntWalk.i64_in ((q.length:Int) - (at_:Int)) ah
 generalize q.length=b at*
 clear a d e
 go_enter func241,ntmps241
 go_wp2_with fail
 go_quiet (fail)
 go_wp2_with fail
 go_ret
 exact⟨rfl,_,rfl⟩
def JC(w w':World)(A:Option Addr)(c:Nat)(p:aj):Prop:=
 ax w' 1 A p.length (ak p)/\(A=none->p.length=0/\c=0)/\p.length<=c/\∀a,A=some a->w.heap.size<=a.block
theorem ax.mid{d:World}{e:Option Addr}{f a c:Nat}{b:aj}(h:ax d 1 e b.length (ak b))(g:a+c<=b.length)(i:b.length<=f):ax d 1 (vM e a f) c (ak ((b.drop a).take c)):=by
 have g:=ax.cut h a ah i;(have h:(ak b).drop a=ak (b.drop a):=by simp[ak]);rw[h]at g;(have h:ax d 1 (vM e a f) (b.drop a).length (ak (b.drop a)):=by rw[List.length_drop];exact g);exact ax.front h c (by rw[List.length_drop];omega)
theorem QF{b:Option Addr}{c d:Nat}(a:vM b c d=none):b=none:=by
 unfold vM at a
 split at a
 ·exact a
 ·cases b with
  | none=>rfl
  | some b=>simp at a
theorem P8(c:aj)(a:c.length < 140737488355328)(d o b:Nat)(g:b < 140737488355328)(f:Option Addr)(i:Nat)(e:World)(h:Rd e d c f i o):
  Calls prog 174 #[.pointer (some ⟨d,0,none⟩),.int .i64 (b:Int)] e λm g=>∃j k a,m=.returned (.slice j a.length k)/\(o+b<=c.length->a=(c.drop o).take b)/\(c.length < o+b->a=[])/\JC e g j k a/\Rd g d c f i (o+b)/\au (·=d) e g:=by
 obtain⟨D,E,F,G,H⟩:=fT pI
 obtain⟨a,n,j,k,s,t,u,J,v,w⟩:=h
 have K:e.cell? ⟨d,0,none⟩=some (.slice f c.length i):=by rw[j.cell 0];rfl
 have x:e.cell? ⟨d,1,none⟩=some (.int .i64 (a:Int)):=by rw[j.cell 1];rfl
 have L:e.cell? ⟨d,2,none⟩=some (.int .i64 n):=by rw[j.cell 2];rfl
 have y:=j.frozen 1
 have n:(0:Int)<=(b:Int):=ah
 have n:decide ((b:Int) < 0)=false:=by simp
 have n:=AO ((c.length:Int) - (a:Int)) ah
 by_cases n:o<=c.length
 ·obtain⟨rfl,rfl⟩:=v n
  by_cases n:a+b<=c.length
  ·have N:decide ((c.length:Int) - (a:Int) < (b:Int))=false:=by simp;omega
   have p:(a:Int)+(b:Int)<=140737488355328:=ah;(have q:IntKind.i64.wrap ((a:Int)+(b:Int) - (b:Int))=(a:Int):=by rw[show(a:Int)+(b:Int) - (b:Int)=(a:Int) by omega];exact AO _ ah);have q:(0:Int)<=(a:Int):=ah;have q:=AO (a:Int) ah;replace p:=AA p;have p:=AO ((a:Int)+(b:Int)) ah
   have p:∀g,(Instr.sliceAt 27 (.slice f c.length i) (some (.int .i64 (a:Int))) (some (.int .i64 ((a:Int)+(b:Int)))) none).run prog g=.ok (.slice (vM f a i) b (i - a)) g:=λg=>by
    rw[UI (l:=a) (h:=a+b) underlying27 (λ_=>rfl) ah ah _ _ rfl ah g];congr 2;omega
   (have z:Hid (((c.drop a).take b).length=b):=by show _=_;rw[List.length_take,List.length_drop];omega);(have I:Hid (vM f a i=none->b=0/\i - a=0):=λm=>by have:=s (QF m);omega);(have M:Hid (0+b<=maxLen):=by show _<=_;unfold maxLen;omega);(have O:Hid ((0+b)*1<=140737488355328):=by show _<=_;omega);(have p:=λ(g:World) (j:aL g d 344 #[.slice f c.length i,.int .i64 (a:Int),.int .i64 0]) (k:ax g 1 f c.length (ak c))=>Rd.YC j k s t u n);(have r:=λ(g:World) (k:ax g 1 f c.length (ak c))=>ax.mid (Rd.zR k t 1 (.int .i64 ((a:Int)+(b:Int)))) n u);replace p:=AA p;replace r:=AA r;replace j:=AA j;replace k:=AA k;clear v w;(go_enter func174,ntmps174);go_wp2_with fail
   go_quiet (fail)
   have A:Hid (au (·=d) e (e.drewN nq)):=(au.refl _ e).drewN nq;have q:Hid (aL (e.drewN nq) d 344 #[.slice f c.length i,.int .i64 (a:Int),.int .i64 0]):=j;have B:Hid (ax (e.drewN nq) 1 f c.length (ak c)):=k;generalize e.drewN nq=n at*;clear K x L y;(have x:n.cell? ⟨d,1,none⟩=some (.int .i64 (a:Int)):=by rw[aL.cell q.out 1];rfl);have y:=aL.frozen q 1;have hF:=AA (p n q B);(have P:=AA<|r n B);(have C:Hid (aL (n.setCell ⟨d,1,none⟩ (.int .i64 ((a:Int)+(b:Int)))) d 344 #[.slice f c.length i,.int .i64 ((a:Int)+(b:Int)),.int .i64 0]):=by show aL _ _ _ _;have:=aL.lD q 1 (.int .i64 ((a:Int)+(b:Int)));simpa using this);go_wp2_with fail;clear x y;generalize n.setCell ⟨d,1,none⟩ (.int .i64 ((a:Int)+(b:Int)))=r at*;(have Q:r.cell? ⟨d,0,none⟩=some (.slice f c.length i):=by rw[aL.cell C.out 0];rfl);(have Q:r.cell? ⟨d,1,none⟩=some (.int .i64 ((a:Int)+(b:Int))):=by rw[aL.cell C.out 1];rfl);refine iA 15 bH bH ?_
   repeat(quiet_step (fail))
   refine wpQuiet_nil ?_;intro _ Q;obtain⟨C,R⟩:=Q;subst R;simp only[List.drop];(have Q:=AA<|AZ A.size hF.2.size);go_wp2_with (at_builtin;refine dD (r.drewN C) rfl (.const (.slice none 0 0)) (.tmp 50) 27 rfl e.heap.size 5 D (.int .u8 0) 1 1 AR E F G H rfl aR (.slice none 0 0) 0 [] rfl (Aa _ _ _ _) (vM f a i) b (i - a) (ak ((c.drop a).take b)) rfl (P.drewN C) I (aY _) M O Q ?_;intro E O D;have E:=D.own;rw[Nat.zero_add,List.nil_append]at E;obtain⟨P,c1,rfl,F,_,G,H,I⟩:=Own.reads E;have M:Hid (av r O):=(fI (Below.refl _ r) C).grown D.grow (AJ _) (λO m=>by cases m);clear D E;replace H:=AA H;replace G:=AA G;replace F:=AA F;replace I:=AA I);go_ret;refine⟨P,c1,(c.drop a).take b,by rw[z.out];rfl,λ_=>rfl,λh=>absurd h ah,⟨by rw[z.out];exact H,by rw[z.out];exact G,by rw[z.out];exact F,λr m=>(I r m).1⟩,hF.1.below M,?_⟩;exact(A.trans hF.2 (λ_ _ h=>h)).trans (au.of_below (S:=(·=d)) M) (λ_ _ h=>h)
  ·have N:decide ((c.length:Int) - (a:Int) < (b:Int))=true:=by simp;omega
   (have p:=λ(g:World) (j:aL g d 344 #[.slice f c.length i,.int .i64 (a:Int),.int .i64 0]) (k:ax g 1 f c.length (ak c))=>Rd.fail j k s t u J (show c.length < a+b by omega));replace p:=AA p;replace j:=AA j;replace k:=AA k;clear v w;(go_enter func174,ntmps174);go_wp2_with fail
   go_quiet (fail)
   have A:Hid (au (·=d) e (e.drewN nq)):=(au.refl _ e).drewN nq;have q:Hid (aL (e.drewN nq) d 344 #[.slice f c.length i,.int .i64 (a:Int),.int .i64 0]):=j;have B:Hid (ax (e.drewN nq) 1 f c.length (ak c)):=k;generalize e.drewN nq=n at*;have a:=AA (Il d _ _ n q);have hF:=AA (p n q B);clear K x L y;go_wp2_with (go_at_call 240;refine Calls.mono a ?_;rintro m g ⟨rfl,rfl⟩);go_ret;exact⟨none,0,[],rfl,λh=>absurd h ah,λ_=>rfl,⟨ax.oI _ _ _,λ_=>⟨rfl,rfl⟩,AJ _,λ_ m=>by cases m⟩,hF.1,A.trans hF.2 (λ_ _ h=>h)⟩
 ·obtain rfl:=w ah
  have hF:=AA (Rd.stay j k s t u J (show c.length < o+b by omega));clear j v w;(go_enter func174,ntmps174);go_wp2_with fail;go_ret;exact⟨none,0,[],rfl,λh=>absurd h ah,λ_=>rfl,⟨ax.oI _ _ _,λ_=>⟨rfl,rfl⟩,AJ _,λ_ m=>by cases m⟩,hF,au.refl _ e⟩
theorem Rd.O4{a:Nat->Prop}{e f:World}{b g h:Nat}{c:aj}{d:Option Addr}(k:Rd e b c d h g)(i:au a e f)(l:¬a b)(m:0 < c.length->∀j,d=some j->¬a j.block):Rd f b c d h g:=by
 obtain⟨a,b,c,d,e⟩:=k;exact⟨a,b,c.kept i l,d.pY i (λg h j f=>m ah _ f),e⟩
theorem Rd.old{b:World}{e f g:Nat}{c:aj}{d:Option Addr}(h:Rd b e c d g f):0 < c.length->∀a,d=some a->a.block < b.heap.size:=by
 obtain⟨_,_,_,b,_⟩:=h;intro d a c;obtain⟨e,f,a,d,_⟩:=b.2 ah;rw[c]at a;(injection a with a);subst a;exact d
theorem bI(a:aj)(hx:a.length=32):(prog.info? 23).map (·.size)=some (ak a).toArray.size:=jN.trans (congrArg some (by simp[aB,hx]))
theorem QD(a:aj):(ak a).toArray.all (λb=>b.oneCell')=true:=by rw[List.all_toArray];exact List.all_eq_true.2 (aY a)
theorem sM{a:TypeId}{b:List Value}{c:Nat}(d:(prog.info? a).map (·.size)=some c)(e:b.length=c):(prog.info? a).map (·.size)=some b.length:=e ▸ d
theorem kM:(prog.info? 23).map (·.size)=some 32:=by kernel_rfl
theorem jP:((prog.info? 23).bind (·.zero)).isSome=true:=by kernel_rfl
structure bE where
 log:aj
 size:Int
 root:aj
 index:aj
 clock:Int
structure bE.Ok(h:bE):Prop where
 log:h.log.length=32
 root:h.root.length=32
 index:h.index.length=32
 size:-9223372036854775808<=h.size/\h.size<=9223372036854775807
 clock:-9223372036854775808<=h.clock/\h.clock<=9223372036854775807
def aI(h:bE):List Value:=ak h.log++([.int .i64 h.size]++(ak h.root++(ak h.index++[.int .i64 h.clock])))
theorem bQ{b:bE}(a:b.Ok):(aI b).length=98:=by simp[aI,aB,a.log,a.root,a.index]
theorem sD(a:bE):∀b∈aI a,b.oneCell'=true:=by
 intro b a;simp only[aI,List.mem_append,List.mem_singleton]at a
 rcases a with a | rfl | a | a | rfl
 ·exact aY _ b a
 ·rfl
 ·exact aY _ b a
 ·exact aY _ b a
 ·rfl
theorem jb{h:bE}(a:Nat)(b:Value)(c:(ak h.log)[a]?=some b):(aI h)[0+a]?=some b:=by
 have a:=(AU.1 c).1;rw[aI,Nat.zero_add,List.getElem?_append_left a,c]
theorem bZ{h:bE}(a:h.Ok):(aI h)[32]?=some (.int .i64 h.size):=by
 rw[aI,List.getElem?_append_right (by rw[aB,a.log];omega),aB,a.log];rfl
theorem gL{b:bE}(c:b.Ok)(a:Nat)(d:Value)(e:(ak b.root)[a]?=some d):(aI b)[33+a]?=some d:=by
 have b:=(AU.1 e).1;rw[aI,List.getElem?_append_right (by rw[aB,c.log];omega),aB,c.log,List.getElem?_append_right (by simp;omega)];rw[List.length_singleton,show 33+a - 32 - 1=a by omega,List.getElem?_append_left b,e]
theorem jA{c:bE}(a:c.Ok)(b:Nat)(d:Value)(e:(ak c.index)[b]?=some d):(aI c)[65+b]?=some d:=by
 have c:=(AU.1 e).1;rw[aI,List.getElem?_append_right (by rw[aB,a.log];omega),aB,a.log,List.getElem?_append_right (by simp;omega)];rw[List.length_singleton,List.getElem?_append_right (by rw[aB,a.root];omega),aB,a.root,show 65+b - 32 - 1 - 32=b by omega,List.getElem?_append_left c,e]
theorem fo{h:bE}(a:h.Ok):(aI h)[97]?=some (.int .i64 h.clock):=by
 rw[aI,List.getElem?_append_right (by rw[aB,a.log];omega),aB,a.log,List.getElem?_append_right aZ];rw[List.length_singleton,List.getElem?_append_right (by rw[aB,a.root];omega),aB,a.root,List.getElem?_append_right (by rw[aB,a.index];omega),aB,a.index];rfl
def gH(h:bE):Bool:=decide (0<=h.size)&&decide (h.size<=1099511627776)&&decide (0<=h.clock)&&decide (h.clock<=4611686018427387904)
def dN(h:bE):aj:=[32]++h.log++jM h.size.toNat++(h.root++h.index)++jM h.clock.toNat
theorem jZ{b:bE}(a:b.Ok):(dN b).length=113:=by simp[dN,iO,a.log,a.root,a.index]
theorem gK(a:bE)(b:a.Ok)(d:World):
  bq 209 #[.agg (aI a).toArray] d (.bool (gH a)):=by
 have p:(aI a).toArray[32]?=some (.int .i64 a.size):=by rw[List.getElem?_toArray];exact bZ b
 have q:(aI a).toArray[97]?=some (.int .i64 a.clock):=by rw[List.getElem?_toArray];exact fo b
 have r:=bZ b
 have s:=fo b
 have c:=Below.aJ d (.cells (aI a).toArray 36)
 replace c:=AA c
 have k:Hid (gH a=(decide (0<=a.size)&&decide (a.size<=1099511627776)&&decide (0<=a.clock)&&decide (a.clock<=4611686018427387904))):=rfl
 generalize gH a=t at*
 generalize aI a=u at*
 generalize a.size=e at*
 generalize a.clock=f at*
 rcases Bool.eq_false_or_eq_true (decide (0<=e))with g | g<;>rcases Bool.eq_false_or_eq_true (decide (e<=1099511627776))with h | h<;>rcases Bool.eq_false_or_eq_true (decide (0<=f))with i | i<;>rcases Bool.eq_false_or_eq_true (decide (f<=4611686018427387904))with j | j
 all_goals
  have l:=AA g
  have m:=AA h
  have n:=AA i
  have o:=AA j
  go_enter func209,ntmps209
  go_wp2_with fail
  go_ret
  refine⟨?_,c⟩
  rw[k.out,l.out,m.out,n.out,o.out]
  rfl
theorem iT:(prog.info? 36).map (·.size)=some 98:=by kernel_rfl
theorem O0(a:bE)(e:a.Ok)(P:gH a=true)(m:Nat)(r:Option Nat)(l:aj)(c:World)(k:l.length+113<=140737488355328)(t:kX c m r l):
  Calls prog 210 #[.pointer (some ⟨m,0,none⟩),.agg (aI a).toArray] c λh f=>h=.returned (.tuple #[])/\aO c m r (l++dN a) f:=by
 have Q:0<=a.size/\a.size<=1099511627776/\0<=a.clock/\a.clock<=4611686018427387904:=by simpa[gH,and_assoc]using P
 obtain⟨R,ν,S,ξ⟩:=Q
 have D:Hid (aO (c.alloc (.cells (aI a).toArray 36)) m r l (c.alloc (.cells (aI a).toArray 36))):=(t.alloc _).refl
 have j:Hid (c.heap.size≠m/\some c.heap.size≠r):=by
  refine⟨λh=>?_,λh=>?_⟩
  ·have:=t.lt;omega
  ·obtain⟨b,_,_,_,T⟩:=t
   have:=(T _ h.symm).2;omega
 have u:=AA<|aL.new c 36 (aI a).toArray
 replace k:=AA k
 have v:=AA e.log
 have U:=AA e.root
 have V:=AA e.index
 have c1:=λ(f:World) (i:aL f c.heap.size 36 (aI a).toArray) (g:Nat) (b:Value) (d:(ak a.log)[g]?=some b)=>((i.cell (0+g)).trans (by rw[List.getElem?_toArray];exact jb g b d):f.cell? ⟨c.heap.size,0+g,none⟩=some b)
 have c2:=λ(f:World) (i:aL f c.heap.size 36 (aI a).toArray)=>((i.cell 32).trans (by rw[List.getElem?_toArray];exact bZ e):f.cell? ⟨c.heap.size,32,none⟩=some (.int .i64 a.size))
 have w:=λ(f:World) (i:aL f c.heap.size 36 (aI a).toArray) (g:Nat) (b:Value) (d:(ak a.root)[g]?=some b)=>((i.cell (33+g)).trans (by rw[List.getElem?_toArray];exact gL e g b d):f.cell? ⟨c.heap.size,33+g,none⟩=some b)
 have x:=λ(f:World) (i:aL f c.heap.size 36 (aI a).toArray) (g:Nat) (b:Value) (d:(ak a.index)[g]?=some b)=>((i.cell (65+g)).trans (by rw[List.getElem?_toArray];exact jA e g b d):f.cell? ⟨c.heap.size,65+g,none⟩=some b)
 have y:=λ(f:World) (i:aL f c.heap.size 36 (aI a).toArray)=>((i.cell 97).trans (by rw[List.getElem?_toArray];exact fo e):f.cell? ⟨c.heap.size,97,none⟩=some (.int .i64 a.clock))
 replace c1:=AA c1
 replace c2:=AA c2
 replace w:=AA w
 replace x:=AA x
 replace y:=AA y
 have s1:=AA<|sM kM (by rw[aB,e.log])
 have W:=AA<|sM kM (by rw[aB,e.root])
 have X:=AA<|sM kM (by rw[aB,e.index])
 have Y:Hid (∀b∈[ak a.log],b.length=32):=by intro b d;simp only[List.mem_singleton]at d;rw[d,aB,e.log]
 have Z:Hid (∀b∈[ak a.root,ak a.index],b.length=32):=by
  intro b d;simp only[List.mem_cons,List.not_mem_nil,or_false]at d
  rcases d with rfl | rfl
  ·rw[aB,e.root]
  ·rw[aB,e.index]
 have α:Hid (∀z∈[a.log],z.length=32):=by intro b d;simp only[List.mem_singleton]at d;rw[d,e.log]
 have β:Hid (∀z∈[a.root,a.index],z.length=32):=by
  intro b d;simp only[List.mem_cons,List.not_mem_nil,or_false]at d
  rcases d with rfl | rfl
  ·exact e.root
  ·exact e.index
 have ο:=dX _ R ah
 have ρ:=dX _ S ah
 have E:Hid ((a.size.toNat:Int)=a.size/\a.size.toNat < 18446744073709551616):=by refine⟨?_,?_⟩<;>omega
 have F:Hid ((a.clock.toNat:Int)=a.clock/\a.clock.toNat < 18446744073709551616):=by refine⟨?_,?_⟩<;>omega
 have γ:Hid (l++dN a=l++[32]++[a.log].flatten++jM a.size.toNat++[a.root,a.index].flatten++jM a.clock.toNat):=by show _=_;simp[dN]
 have G:=λδ=>AA (iO δ)
 have A:=u
 obtain⟨ε,H⟩:=bG (([ak a.log].flatten).toArray)
 obtain⟨ζ,I⟩:=bG (([ak a.root,ak a.index].flatten).toArray)
 go_enter func210,ntmps210
 go_wp2_with (first
  |(go_at_call 131;refine(ko 32 32 rfl (aC k) D).mono ?_;rintro h η ⟨rfl,n⟩;replace n:=AA n;have J:=AA (n.blk u j.1 j.2);have K:=AA (c1 η J);clear D u)
  |(rw[aF 8];refine bS K s1 AB ?_)
  |(rw[bY 9];refine dL (o:=⟨some 9,_,_,_,_,_⟩) rfl 44 23 1 _ rfl 32 aR [ak a.log] Ac kM jP rfl aR aR Y rfl ?_;rw[<-H.out])
  |(go_at_call 156;rw[show ε=(([a.log].map ak).flatten).toArray from H.out];refine(pM [a.log] 1 rfl α (by have:=k.out;simp;omega) n).mono ?_;rintro h θ ⟨rfl,p⟩;replace p:=AA p;have L:=AA (p.blk A j.1 j.2);have ι:=c2 θ L;clear n J K)
  |(go_at_call 218;refine(zU a.size a.size.toNat E.1 E.2 (by have:=k.out;have:=v.out;simp;omega) p).mono ?_;rintro h M ⟨rfl,q⟩;replace q:=AA q;have B:=AA (q.blk A j.1 j.2);have N:=AA (w M B);have O:=AA (x M B);clear p L ι)
  |(rw[aF 18];refine bS N W AB ?_)
  |(rw[aF 20];refine bS O X AB ?_)
  |(rw[bY 21];refine dL (o:=⟨some 21,_,_,_,_,_⟩) rfl 44 23 2 _ rfl 32 aR [ak a.root,ak a.index] Ac kM jP rfl aR aR Z rfl ?_;rw[<-I.out])
  |(go_at_call 156;rw[show ζ=(([a.root,a.index].map ak).flatten).toArray from I.out];refine(pM [a.root,a.index] 2 rfl β.out (by have:=k.out;have:=v.out;have:=(G a.size.toNat).out;simp;omega) q.out).mono ?_;rintro h κ ⟨rfl,s⟩;replace s:=AA s;have μ:=AA (s.out.blk A.out j.out.1 j.out.2);have σ:=y.out κ μ.out;clear q B N O)
  |(go_at_call 218;refine(zU a.clock a.clock.toNat F.out.1 F.out.2 (by have:=k.out;have:=v.out;have:=U.out;have:=V.out;have:=(G a.size.toNat).out;simp;omega) s.out).mono ?_;rintro h τ ⟨rfl,C⟩;replace C:=AA C))
 go_end0
 exact⟨rfl,by have:=C.Sc;rw[<-γ.out]at this;exact this⟩
def tL:Array Value:=#[.int .u8 0,.int .u8 0,.int .u8 0,.int .u8 0,.int .u8 0,.int .u8 0,.int .u8 0,.int .u8 0,.int .u8 0,.int .u8 0,.int .u8 0,.int .u8 0,.int .u8 0,.int .u8 0,.int .u8 0,.int .u8 0,.int .u8 0,.int .u8 0,.int .u8 0,.int .u8 0,.int .u8 0,.int .u8 0,.int .u8 0,.int .u8 0,.int .u8 0,.int .u8 0,.int .u8 0,.int .u8 0,.int .u8 0,.int .u8 0,.int .u8 0,.int .u8 0,.int .i64 0,.int .u8 0,.int .u8 0,.int .u8 0,.int .u8 0,.int .u8 0,.int .u8 0,.int .u8 0,.int .u8 0,.int .u8 0,.int .u8 0,.int .u8 0,.int .u8 0,.int .u8 0,.int .u8 0,.int .u8 0,.int .u8 0,.int .u8 0,.int .u8 0,.int .u8 0,.int .u8 0,.int .u8 0,.int .u8 0,.int .u8 0,.int .u8 0,.int .u8 0,.int .u8 0,.int .u8 0,.int .u8 0,.int .u8 0,.int .u8 0,.int .u8 0,.int .u8 0,.int .u8 0,.int .u8 0,.int .u8 0,.int .u8 0,.int .u8 0,.int .u8 0,.int .u8 0,.int .u8 0,.int .u8 0,.int .u8 0,.int .u8 0,.int .u8 0,.int .u8 0,.int .u8 0,.int .u8 0,.int .u8 0,.int .u8 0,.int .u8 0,.int .u8 0,.int .u8 0,.int .u8 0,.int .u8 0,.int .u8 0,.int .u8 0,.int .u8 0,.int .u8 0,.int .u8 0,.int .u8 0,.int .u8 0,.int .u8 0,.int .u8 0,.int .u8 0,.int .i64 0]
theorem yx:tL.size=98:=by kernel_rfl
def Qz(l r i:aj):Array Value:=(splice (splice (splice tL.toList 0 (ak l)) 33 (ak r)) 65 (ak i)).toArray
def YD(q:aj):Bool:=decide (q.getD 0 0=32)&&decide (CY ((q.drop 33).take 8)<=1099511627776)&&decide (CY ((q.drop 105).take 8)<=4611686018427387904)
structure FW(w0 w:World)(g n m:Nat)(q:aj)(A:Option Addr)(c need:Nat)(cs:Array Value):Prop where
 rd:Rd w g q A c need
 res:aL w n 36 tL
 head:aL w m 36 cs
 kept:au (·=g) w0 w
 hn:w0.heap.size<=n
 hm:w0.heap.size<=m
 ne:n≠m
 hg:g < w0.heap.size
 old:0 < q.length->∀a,A=some a->a.block < w0.heap.size
section
variable {w0 w w':World} {g n m c need need':Nat} {q:aj} {A:Option Addr} {cs cs':Array Value}
theorem FW.call(a:FW w0 w g n m q A c need cs)(d:Rd w' g q A c need')(b:au (·=g) w w'):FW w0 w' g n m q A c need' cs:=
 ⟨d,a.res.kept b (dn a.hn a.hg),a.head.kept b (dn a.hm a.hg),a.kept.trans b (λ_ _ e=>e),a.hn,a.hm,a.ne,a.hg,a.old⟩
theorem FW.store(a:FW w0 w g n m q A c need cs)(d:aL w' m 36 cs')(b:au (·=m) w w'):FW w0 w' g n m q A c need cs':=
 ⟨a.rd.O4 b (dn a.hm a.hg) (λh0 e f h=>by have:=a.old h0 e f;have:=a.hm;omega),a.res.kept b a.ne,d,a.kept.trans b (λe f h=>by have:=a.hm;omega),a.hn,a.hm,a.ne,a.hg,a.old⟩
theorem FW.lD(b:FW w0 w g n m q A c need cs)(a:Nat)(u:Value):FW w0 (w.setCell ⟨m,a,none⟩ u) g n m q A c need (cs.setIfInBounds a u):=
 b.store (b.head.lD a u) ((au.refl (·=m) w).setCell (p:=⟨m,a,none⟩) (.inl rfl) u)
theorem FW.begin(e:Rd w g q A c need)(f:g < w0.heap.size)(h:0 < q.length->∀a,A=some a->a.block < w0.heap.size)(b:au (·=g) w0 w)(i:w0.heap.size<=n)(d:aL w n 36 tL):FW w0 (w.alloc (.cells tL 36)) g n w.heap.size q A c need tL:=
 ⟨e.alloc _,d.alloc _,aL.new _ _ _,b.alloc _,i,b.size,by have:=d.lt;omega,f,h⟩
end
theorem Dy{f:Program}{i:Func}{g u:Tmp}{a:TypeId}(l:i.results=#[.cell g a,.tmp u])(b:Array Value)(c:World)(d:Nat)(j:TypeId)(e:Array Value)(k:Nat×Nat)(h:TypeDesc)
  (m:b.getD g undef=.pointer (some ⟨d,0,none⟩))(n:c.heap[d]?=some (.cells e j k))
  (o:f.underlying a=some h)(hd:(match h with | .struct _ | .array _ _=>true | _=>false)=true)(p:(f.info? a).map (·.size)=some e.size):
  (results i b).run f c=.ok (.tuple #[.agg e,b.getD u undef]) c:=by
 have f:b[g]?.getD undef=.pointer (some ⟨d,0,none⟩):=by simpa using m
 simp[results,l,f,asAddr,run_loadVar_row c d j a e k h n o hd p,Result.andThen]
def eZ(t:aj):aj:=t.take 32
def uE(h:bE)(r:List aj):aj:=33 :: (dN h++(BitVec.ofNat 8 r.length :: r.flatten))
def lI(h:bE)(ss:List aj):Option aj×Int:=
 if gH h=false then(none,1)else if ss.length=0\/16 < ss.length then(none,7)else match bK eZ ss with
  | none=>(none,92)
  | some r=>(some (uE h r),0)
theorem vG:∀{b:List aj},(∀a∈b,a.length=64)->b.flatten.length=64*b.length
 | [],_=>rfl
 | a :: b,c=>by
  rw[List.flatten_cons,List.length_append,c a aZ,vG (λa b=>c a (by simp[b])),List.length_cons];omega
theorem G5{b:bE}(c:b.Ok){a:List aj}(d:∀e∈a,e.length=64):(uE b a).length=115+64*a.length:=by
 unfold uE;rw[List.length_cons,List.length_append,jZ c,List.length_cons,vG d];omega
theorem PY{a:List aj}{b:Nat}{c d:aj}(e:a[b]?=some c)(f:a[b+1]?=some d):nu (ky:=eZ) (a.drop b)=(aT (eZ c) (eZ d)&&nu (ky:=eZ) (a.drop (b+1))):=by
 obtain⟨a,rfl⟩:=AU.1 e;obtain⟨b,rfl⟩:=AU.1 f;rw[List.drop_eq_getElem_cons a,List.drop_eq_getElem_cons b];rfl
theorem PX{a:List aj}{b:Nat}(c:a.length<=b+1):nu (ky:=eZ) (a.drop b)=true:=by
 have c:(a.drop b).length<=1:=by rw[List.length_drop];omega
 match hd:a.drop b,c with
 | [],_=>rfl
 | [a],_=>rfl
 | a :: b :: d,c=>simp at c
theorem SB(b:bE)(d:b.Ok)(h:gH b=true)(a:World):
  Calls prog 264 #[.agg (aI b).toArray] a λc f=>∃e,c=.returned e/\av a f/\f.ownsRow a.heap.size 5 1 e 113 (ak (dN b)):=by
 have i:=AA<|Below.aJ a (.cells (aI b).toArray 36)
 have f:=AA (kX.new (a.alloc (.cells (aI b).toArray 36)))
 have j:Hid (aL ((a.alloc (.cells (aI b).toArray 36)).alloc (.cells #[.slice none 0 0] 313)) a.heap.size 36 (aI b).toArray):=(aL.new a _ _).alloc _
 have k:Hid ((prog.info? 36).map (·.size)=some (aI b).toArray.size):=by show _=_;rw[List.size_toArray,bQ d];exact iT
 have g:=AA (jZ d)
 have l:Hid ((a.alloc (.cells (aI b).toArray 36)).heap.size=a.heap.size+1):=by show _=_;simp
 rw[l.out]at f
 go_enter func264,ntmps264
 go_wp2_with (first
  |(go_at_call 130;refine(jy _).mono ?_;rintro c l ⟨rfl,rfl⟩)
  |(rw[aF 6];refine aM j k AQ ?_)
  |(go_at_call 210;refine(O0 b d h (a.heap.size+1) none [] _ aZ f).mono ?_;rintro c j ⟨rfl,f⟩;have h:=AA<|(i.alloc aZ _).trans (f.below (λ_ c=>by cases c) (B:=a.heap.size) ah (by simp;omega));obtain⟨i,d,-,-⟩:=f;replace d:=AA d)
  |(go_at_call 133;refine(uw (a.heap.size+1) i (dN b) j (by rw[g.out];omega) d).mono ?_;rintro c d ⟨e,rfl,b,a⟩;rw[g.out]at a;obtain⟨c,d,rfl,-⟩:=Own.reads a;have c:=aQ h b;replace a:=AA a;clear b))
 go_ret
 exact⟨_,rfl,c,cO a h.size⟩
theorem zH{d:Program}{k:Array Oper}{rest:List Oper}{o:Oper}{b:Act}{w:World}{l:Exit->Act->World->Prop}(n:o.guard=none)(e:TypeId)(f h:Operand)(p:o.op=.store e f h)
  (g:Nat)(a:Array Value)(hx:b.eval f=.pointer (some ⟨g,0,none⟩))(r:b.eval h=.agg a)
  (i:TypeId)(j:Array Value)(m:aL w g i j)(s:(d.info? e).map (·.size)=some a.size)
  (t:j.size=a.size)(u:a.all (·.oneCell')=true)
  (v:∀w',Hid (aL w' g i a)->au (·=g) w w'->wpList d k l rest (b.put o.dst undef) w'):wpList d k l (o :: rest) b w:=
 wpList_store_row n e f h p g a hx r i j m s t u (v _ (setRow_heap _ _ _ _ _ _ m) (au.setRow (S:=(·=g)) (au.refl _ w) rfl _))
structure kI(w0 w:World)(g:Nat)(q:aj)(A:Option Addr)(c need:Nat):Prop where
 rd:Rd w g q A c need
 res:aL w w0.heap.size 36 tL
 below:av w0 w
 hg:w0.heap.size < g
section
variable {w0 w w':World} {g c need need':Nat} {q:aj} {A:Option Addr}
theorem kI.call(a:kI w0 w g q A c need)(d:Rd w' g q A c need')(b:au (·=g) w w'):kI w0 w' g q A c need':=
 ⟨d,a.res.kept b (aC a.hg),a.below.trans (au.aW b (aC a.hg) a.below.size),a.hg⟩
theorem kI.far(a:kI w0 w g q A c need)(b:av w w'):kI w0 w' g q A c need:=
 ⟨a.rd.below b,a.res.kept (S:=λ_=>False) (au.of_below b) (λd=>d),a.below.trans (b.mono a.below.size),a.hg⟩
theorem kI.end_(b:kI w0 w g q A c need)(a:Array Value):av w0 (w.setRow w0.heap.size a):=below_setRow b.below (AJ _) a
end
theorem HY{w w':World}{o:Obj}(a:au (·=w.heap.size) (w.alloc o) w'):av w w':=
 (Below.aJ w o).trans (au.aW a (AJ _) aZ)
theorem Vh(b:Nat)(d:b < 9223372036854775808)(w:World):
  Calls prog 276 #[.int .i64 (b:Int)] w λf a=>∃c,f=.returned c/\av w a/\a.ownsRow w.heap.size 5 1 c 8 (ak (jM b)):=by
 obtain⟨l,m,n,o,p⟩:=fT pI
 have g:Hid (w.ownsRow w.heap.size 5 1 (.slice none 0 0) 0 (ak ((jM b).take 0))):=Aa _ _ _ _
 have a:Hid ((b:Int) < 9223372036854775808):=by show _ < _;omega
 clear d
 go_enter func276,ntmps276
 go_wp2_with fail
 go_loopw [3,4] (λh c wr=>∃(a:Nat) (d:Option Addr) (e:Nat),h=.slice d a e/\c=.int .i64 (7 - (a:Int))/\Hid (a<=8)/\Hid (wr.ownsRow w.heap.size 5 1 (.slice d a e) a (ak ((jM b).take a)))/\Hid (av w wr)) (λ_ c _=>(1+intOf c).toNat)
 case atStart=>exact⟨0,none,0,rfl,rfl,(show 0<=8 by omega),g,Below.refl _ _⟩
 case round=>
  clear g;obtain⟨a,d,e,rfl,rfl,q,h,g⟩:=hrel;by_cases i:a < 8
  ·have c:(0:Int)<=7 - (a:Int):=ah
   have c:(a:Int)<=7:=ah;have c:(0:Int)<=(a:Int):=ah;obtain⟨c,hx⟩:=bG (vP b (56 - 8*a));have j:(8*(7 - (a:Int))).toNat=56 - 8*a:=ah;have j:(b:Int) / 2 ^ (56 - 8*a) % 256=b8 c:=hx.out ▸ Ph b _;have j:(8*(7 - (a:Int))) < 64:=ah;have j:0<=(8*(7 - (a:Int))):=ah;have j:(0:Int)<=(b:Int) / 2 ^ (56 - 8*a):=Int.ediv_nonneg ah (by exact Int.le_of_lt (Int.pow_pos aR));(have r:Hid ((jM b).take (a+1)=(jM b).take a++[c]):=by show _=_;rw[List.take_add_one,Ju b a i,hx.out];rfl);have k:=AA g.size;have s:Hid (ax (wr.alloc (.cells #[.int .u8 (b8 c)] 5)) 1 (some ⟨wr.heap.size,0,none⟩) 1 (ak [c])):=(aL.new wr 5 _).reads 0 _ rfl (λa u i=>by rw[Nat.zero_add];exact by simpa[ak,iF]using i);have i:Hid ((wr.alloc (.cells #[.int .u8 (b8 c)] 5)).ownsRow w.heap.size 5 1 (.slice d a e) a (ak ((jM b).take a))):=World.ownsRow.alloc (w:=wr) h _;have j:Hid (av w (wr.alloc (.cells #[.int .u8 (b8 c)] 5))):=g.alloc k _;have k:=AA j.size
   go_wp2_with (at_builtin;refine dD _ rfl (.tmp 9) (.tmp 15) 27 rfl w.heap.size 5 l (.int .u8 0) 1 1 AR m n o p rfl aR (.slice d a e) a (ak ((jM b).take a)) rfl i (some ⟨wr.heap.size,0,none⟩) 1 1 (ak [c]) rfl s (λf=>by cases f) (aY [c]) (by unfold maxLen;omega) ah k ?_;intro e f c;obtain⟨l,c1,rfl,-⟩:=Own.reads c.own;have m:=AA<|c.below j k (λf e=>by
     obtain⟨k,c2,f,_,_,_,_,j⟩:=Own.reads i;(injection f with f _ i);subst f;cases d with
     | none=>cases e
     | some d=>injection e with e;subst e;exact(j d rfl).1);replace c:=AA c.own)
   go_roundw
   case rel=>exact⟨a+1,l,c1,rfl,by go_num,(show a+1<=8 by omega),(by show World.ownsRow _ _ _ _ _ _ _;rw[r.out];have:=c.out;simpa[ak]using this),m⟩
   case measure=>simp[intOf];omega
  ·obtain rfl:a=8:=aC q
   have a:Hid ((jM b).take 8=jM b):=BA (by rw[iO];omega);go_wp2_with fail;go_ret;exact⟨_,rfl,g,by have:=h.out;rw[a.out]at this;exact this⟩
theorem OY(c:Int)(a:Nat)(e:(a:Int)=c)(f:a < 9223372036854775808)(b:World):
  Calls prog 276 #[.int .i64 c] b λg d=>∃c,g=.returned c/\av b d/\d.ownsRow b.heap.size 5 1 c 8 (ak (jM a)):=by
 subst e
 exact Vh a f b
theorem pE(a:bE)(c:a.Ok)(k:gH a=true)(b:World):
  Calls prog 248 #[.agg (aI a).toArray] b λd e=>∃f,d=.returned (.tuple #[f,.bool true])/\av b e/\e.ownsRow b.heap.size 5 1 f 113 (ak (dN a)):=by
 obtain⟨f,g,h,i,j⟩:=fT pI
 have f:0<=a.size/\a.size<=1099511627776/\0<=a.clock/\a.clock<=4611686018427387904:=by simpa[gH,and_assoc]using k
 obtain⟨k,p,l,m⟩:=f
 have x:(aI a).toArray[32]?=some (.int .i64 a.size):=by rw[List.getElem?_toArray];exact bZ c
 have y:(aI a).toArray[97]?=some (.int .i64 a.clock):=by rw[List.getElem?_toArray];exact fo c
 have f:=bZ c
 have f:=fo c
 have q:Hid ((a.size.toNat:Int)=a.size/\a.size.toNat < 9223372036854775808):=by refine⟨?_,?_⟩<;>omega
 have t:Hid ((a.clock.toNat:Int)=a.clock/\a.clock.toNat < 9223372036854775808):=by refine⟨?_,?_⟩<;>omega
 have f:decide (a.size < 0)=false:=by simp;omega
 have f:decide (1099511627776 < a.size)=false:=by simp;omega
 have f:decide (a.clock < 0)=false:=by simp;omega
 have f:decide (4611686018427387904 < a.clock)=false:=by simp;omega
 have z:=AA<|Below.aJ b (.cells (aI a).toArray 36)
 have f:Hid ((b.alloc (.cells (aI a).toArray 36)).heap.size=b.heap.size+1):=by show _=_;simp
 have o:=AA<|aL.new b 36 (aI a).toArray
 have A:Hid (aL ((b.alloc (.cells (aI a).toArray 36)).alloc (.cells #[.int .u8 32] 5)) b.heap.size 36 (aI a).toArray):=(aL.new b _ _).alloc _
 have v:Hid (((b.alloc (.cells (aI a).toArray 36)).alloc (.cells #[.int .u8 32] 5)).ownsRow (b.heap.size+1) 5 1 (.slice (some ⟨b.heap.size+1,0,none⟩) 1 1) 1 (ak [32])):=by
  have:=l9 (b.alloc (.cells (aI a).toArray 36)) (b.heap.size+1) (Nat.le_of_eq f.symm) 5 #[.int .u8 32] 1 rfl (by unfold maxLen;omega);rw[f.out]at this;exact this
 have w:Hid (Below (b.heap.size+1) (b.alloc (.cells (aI a).toArray 36)) ((b.alloc (.cells (aI a).toArray 36)).alloc (.cells #[.int .u8 32] 5))):=(Below.refl _ _).alloc (Nat.le_of_eq f.symm) _
 have p:Hid (b.heap.size+1<=((b.alloc (.cells (aI a).toArray 36)).alloc (.cells #[.int .u8 32] 5)).heap.size):=by have:=w.size;have:=f.out;show _<=_;omega
 have c1:=λ(e:World) (k:aL e b.heap.size 36 (aI a).toArray)=>k.reads (size:=1) (n:=32) 0 (ak a.log) (by rw[aB,c.log]) (λl u m=>by rw[List.getElem?_toArray];exact jb l u m)
 have r:=λ(e:World) (k:aL e b.heap.size 36 (aI a).toArray)=>k.reads (size:=1) (n:=32) 33 (ak a.root) (by rw[aB,c.root]) (λl u m=>by rw[List.getElem?_toArray];exact gL c l u m)
 have s:=λ(e:World) (k:aL e b.heap.size 36 (aI a).toArray)=>k.reads (size:=1) (n:=32) 65 (ak a.index) (by rw[aB,c.index]) (λl u m=>by rw[List.getElem?_toArray];exact jA c l u m)
 have c:=AA (c1 _ A)
 replace r:=AA r
 replace s:=AA s
 clear c1
 have A:Hid (dN a=([32]++a.log++jM a.size.toNat++a.root++a.index++jM a.clock.toNat)):=by show _=_;simp[dN]
 go_enter func248,ntmps248
 go_wp2_with (first
  |(rw[bY 26];refine iL (.tmp 23) (.tmp 25) AR g h i j v c (λd=>by cases d) (aY _) (by unfold maxLen;omega) ah p ?_;intro k e c;obtain⟨l,c2,rfl,B,k⟩:=dM c w p v ([32]++a.log) rfl 33 rfl;clear c;have l:Hid (b.heap.size+1<=e.heap.size):=(by have:=k.size;have:=f.out;show _<=_;omega);have v:=AA ((k.block b.heap.size ah).trans o);have m:=(aL.cell v 32).trans x)
  |(go_at_call 276;refine(OY a.size a.size.toNat q.1 q.2 e).mono ?_;rintro d m ⟨p,rfl,e,w⟩;obtain⟨x,cl,rfl,-,-,m,p,-⟩:=Own.reads w;have C:=AA<|k.trans (e.mono l);have k:=AA (dz B e);have x:=AA<|AZ l e.size;have B:=AA ((e.block b.heap.size (aC l)).trans v);replace p:=AA p;replace m:=AA m;clear e w q)
  |(rw[bY 31];refine iL (.tmp 27) (.tmp 30) AR g h i j k p m (aY _) (by unfold maxLen;omega) ah x ?_;intro e l c;obtain⟨p,q,rfl,m,e⟩:=dM c C x k ([32]++a.log++jM a.size.toNat) rfl 41 rfl;clear c;have p:Hid (b.heap.size+1<=l.heap.size):=(by have:=e.size;have:=f.out;show _<=_;omega);have k:=AA ((e.block b.heap.size ah).trans o);have q:=AA (r l k))
  |(rw[bY 35];refine iL (.tmp 32) (.tmp 34) AR g h i j m q (λd=>by cases d) (aY _) (by unfold maxLen;omega) ah p ?_;intro k l c;obtain⟨r,v,rfl,q,k⟩:=dM c e p m ([32]++a.log++jM a.size.toNat++a.root) rfl 73 rfl;clear c;have m:Hid (b.heap.size+1<=l.heap.size):=(by have:=k.size;have:=f.out;show _<=_;omega);have e:=AA ((k.block b.heap.size ah).trans o);have p:=AA (s l e))
  |(rw[bY 39];refine iL (.tmp 36) (.tmp 38) AR g h i j q p (λd=>by cases d) (aY _) (by unfold maxLen;omega) ah m ?_;intro e l c;obtain⟨r,s,rfl,p,e⟩:=dM c k m q ([32]++a.log++jM a.size.toNat++a.root++a.index) rfl 105 rfl;clear c;have k:Hid (b.heap.size+1<=l.heap.size):=(by have:=e.size;have:=f.out;show _<=_;omega);have f:=AA ((e.block b.heap.size ah).trans o);have b:=(aL.cell f 97).trans y)
  |(go_at_call 276;refine(OY a.clock a.clock.toNat t.1 t.2 l).mono ?_;rintro d f ⟨m,rfl,b,l⟩;obtain⟨m,o,rfl,-,-,d,f,-⟩:=Own.reads l;have o:=AA<|e.trans (b.mono k);have e:=AA (dz p b);have m:=AA<|AZ k b.size;replace f:=AA f;replace d:=AA d;clear b l)
  |(rw[bY 44];refine iL (.tmp 40) (.tmp 43) AR g h i j e f d (aY _) (by unfold maxLen;omega) ah m ?_;intro b d c;obtain⟨f,g,rfl,b,d⟩:=dM c o m e ([32]++a.log++jM a.size.toNat++a.root++a.index++jM a.clock.toNat) rfl 113 rfl;clear c))
 go_ret2
 exact⟨_,rfl,z.trans (d.mono ah),by have:=b.out;rw[<-A.out]at this;exact cO this ah⟩
theorem D5(a b:Int):decide (b < a)=!decide (a<=b):=by
 by_cases c:a<=b
 ·rw[decide_eq_true c,decide_eq_false ah];rfl
 ·rw[decide_eq_false c,decide_eq_true ah];rfl
theorem EO(a:bE)(d:a.Ok)(k:gH a=false)(l:World):
  bq 248 #[.agg (aI a).toArray] l (.tuple #[.slice none 0 0,.bool false]):=by
 have s:(aI a).toArray[32]?=some (.int .i64 a.size):=by rw[List.getElem?_toArray];exact bZ d
 have t:(aI a).toArray[97]?=some (.int .i64 a.clock):=by rw[List.getElem?_toArray];exact fo d
 have u:=bZ d
 have v:=fo d
 have e:=Below.aJ l (.cells (aI a).toArray 36)
 replace e:=AA e
 have r:Hid ((decide (0<=a.size)&&decide (a.size<=1099511627776)&&decide (0<=a.clock)&&decide (a.clock<=4611686018427387904))=false):=k
 clear k
 generalize aI a=w at*
 generalize a.size=b at*
 generalize a.clock=c at*
 have m:=D5 0 b
 have n:=D5 b 1099511627776
 have o:=D5 0 c
 have p:=D5 c 4611686018427387904
 rcases Bool.eq_false_or_eq_true (decide (0<=b))with f | f<;>rcases Bool.eq_false_or_eq_true (decide (b<=1099511627776))with g | g<;>rcases Bool.eq_false_or_eq_true (decide (0<=c))with h | h<;>rcases Bool.eq_false_or_eq_true (decide (c<=4611686018427387904))with i | i
 all_goals
  rw[f]at m
  rw[g]at n
  rw[h]at o
  rw[i]at p
  simp only[Bool.not_true,Bool.not_false]at m n o p
  have q:Hid (Bool.and (Bool.and (Bool.and (decide (0<=b)) (decide (b<=1099511627776))) (decide (0<=c))) (decide (c<=4611686018427387904))=false):=r
  have j:=q.out
  rw[f,g,h,i]at j
  first
  | exact absurd j aR
  |(clear j q;go_enter func248,ntmps248;go_wp2_with fail;go_ret2;exact⟨rfl,e⟩)

structure Rs(w0 w:World)(cs:Array Value):Prop where
 res:aL w w0.heap.size 36 tL
 head:aL w (w0.heap.size+1) 36 cs
 below:av w0 w
section
variable {w0 w w':World} {cs cs':Array Value}
theorem Rs.store(a:Rs w0 w cs)(c:aL w' (w0.heap.size+1) 36 cs')(b:au (·=w0.heap.size+1) w w'):Rs w0 w' cs':=
 ⟨a.res.kept b ah,c,a.below.trans (au.aW b (BF _) a.below.size)⟩
theorem Rs.drewN(a:Rs w0 w cs)(b:Nat):Rs w0 (w.drewN b) cs:=⟨a.res,a.head,fI a.below b⟩
theorem Rs.lD(b:Rs w0 w cs)(a:Nat)(u:Value):Rs w0 (w.setCell ⟨w0.heap.size+1,a,none⟩ u) (cs.setIfInBounds a u):=
 b.store (b.head.lD a u) ((au.refl (·=w0.heap.size+1) w).setCell (p:=⟨w0.heap.size+1,a,none⟩) (.inl rfl) u)
theorem Rs.new(w:World):Rs w ((w.alloc (.cells tL 36)).alloc (.cells tL 36)) tL:=by
 (have a:(w.alloc (.cells tL 36)).heap.size=w.heap.size+1:=by simp);have b:=aL.new (w.alloc (.cells tL 36)) 36 tL;rw[a]at b;exact⟨(aL.new w _ _).alloc _,b,(Below.aJ w _).alloc (by rw[a];omega) _⟩
theorem Rs.end_(b:Rs w0 w cs)(a:Array Value):av w0 (w.setRow w0.heap.size a):=below_setRow b.below (AJ _) a
end
theorem zW(b:Array Value)(c:Nat)(d:Value)(e:b[c]?=some d)(a:World):(part 3 b c).run prog a=.ok d a:=by
 have b:=lq (P:=prog) underlying3 a;simp[part,b,e,Result.andThen]
theorem Fg(d:Nat)(a:aj)(c:World):∀e:List Nat,(∀b∈e,b < a.length)->
  (Op.eqItems (d+1) 5 1 (ak a).toArray (ak a).toArray e).run prog c=.ok true c
 | [],_=>rfl
 | b :: e,f=>by
  have g:=f b aZ;(have h:(ak a).toArray[b*1]?=some (iF (a.getD b 0)):=by rw[Nat.mul_one,List.getElem?_toArray];exact eu a b g);have g:=Fg d a c e (λi j=>f i (by simp[j]));have e:(Op.equalIn (d+1) 5 (iF (a.getD b 0)) (iF (a.getD b 0))).run prog c=.ok (b8 (a.getD b 0)==b8 (a.getD b 0)) c:=run_equalIn_int c d _ .u8 .u8 _ _ underlying5;rw[beq_self_eq_true]at e;simp only[Op.eqItems,Sem.run_bind,nO _ _ _ h,e,Result.andThen_ok];simpa using g
theorem EN(c:Nat)(a:aj)(hx:a.length=32)(b:World):(Op.equalIn (c+2) 23 (.agg (ak a).toArray) (.agg (ak a).toArray)).run prog b=.ok true b:=by
 obtain⟨e,d,_,hs,_⟩:=fT pI;(have e:prog.cellsOf 5=1:=by kernel_rfl);rw[run_equalIn_array b (c+1) _ _ underlying23 d,e,Fg c a b _ (λf d=>by have:=List.mem_range.1 d;omega)]
theorem qA{d:Program}{a:World}(e:Nat)(b:Array Value)(c:Field)(rest:List Field)(f:Value)(g:c.name≠ "_")(h:(part c.type b c.offset).run d a=.ok f a)(i:(Op.equalIn e c.type f f).run d a=.ok true a)
  (f:(Op.eqFields e b b rest).run d a=.ok true a):(Op.eqFields e b b (c :: rest)).run d a=.ok true a:=by
 simp only[Op.eqFields,g,ne_eq,not_false_eq_true,if_true,Sem.run_bind,h,i,Result.andThen_ok]
 simpa using f
theorem K4(d:Nat)(a:bE)(c:a.Ok)(b:World):(Op.eqFields (d+2) (aI a).toArray (aI a).toArray (prog.fieldsOf 36).toList).run prog b=.ok true b:=by
 have h:=zW (aI a).toArray 32 _ (by rw[List.getElem?_toArray];exact bZ c) b;have i:=zW (aI a).toArray 97 _ (by rw[List.getElem?_toArray];exact fo c) b;have j:=dS (aI a) 0 a.log c.log (λe f g=>jb e f g) b;have k:=dS (aI a) 33 a.root c.root (λe f g=>gL c e f g) b;have l:=dS (aI a) 65 a.index c.index (λe f g=>jA c e f g) b;have g:=EN d a.log c.log b;have m:=EN d a.root c.root b;have n:=EN d a.index c.index b;have c:(Op.equalIn (d+2) 3 (.int .i64 a.size) (.int .i64 a.size)).run prog b=.ok (a.size==a.size) b:=run_equalIn_int b (d+1) _ .i64 .i64 _ _ underlying3;have e:(Op.equalIn (d+2) 3 (.int .i64 a.clock) (.int .i64 a.clock)).run prog b=.ok (a.clock==a.clock) b:=run_equalIn_int b (d+1) _ .i64 .i64 _ _ underlying3;rw[beq_self_eq_true]at c e;generalize aI a=f at*;unfold Program.fieldsOf;rw[underlying36];change(Op.eqFields (d+2) f.toArray f.toArray (_ :: _ :: _ :: _ :: _ :: [])).run prog b=_;refine qA _ _ _ _ _ aR j g ?_;refine qA _ _ _ _ _ aR h c ?_;refine qA _ _ _ _ _ aR k m ?_;refine qA _ _ _ _ _ aR l n ?_;exact qA _ _ _ _ _ aR i e rfl
theorem NM(c:Nat)(a:bE)(d:a.Ok)(b:World):(Op.equalIn (c+2+1) 36 (.agg (aI a).toArray) (.agg (aI a).toArray)).run prog b=.ok true b:=by
 (have e:prog.underlying 36=some (.struct (prog.fieldsOf 36)):=by unfold Program.fieldsOf;rw[underlying36]);(have f:prog.stoodInHeld 36=false:=by kernel_rfl);rw[run_equalIn_agg b (c+2) _ _ _ e f];exact K4 c a d b
theorem Tt(a:bE)(c:a.Ok)(b:World):(binOp .eql 36 (.agg (aI a).toArray) (.agg (aI a).toArray)).run prog b=.ok (.bool true) b:=by
 have d:=NM 9997 a c b;rw[run_eql_struct b,d];rfl
def oq(a b:bE):Bool:=decide (a.log=b.log)&&((a.size==b.size)&&(decide (a.root=b.root)&&(decide (a.index=b.index)&&((a.clock==b.clock)&&true))))
theorem Qu{a b:bE}(c:oq a b=true):a=b:=by
 obtain⟨d,e,f,g,h⟩:=a;obtain⟨a,d,e,f,g⟩:=b;simpa[oq]using c
theorem ND(a:bE):oq a a=true:=by simp[oq]
theorem uT{c:Program}{a:World}(d:Nat)(e f:Array Value)(b:Field)(rest:List Field)(h i:Value)(g j:Bool)(k:b.name≠ "_")(l:(part b.type e b.offset).run c a=.ok h a)(m:(part b.type f b.offset).run c a=.ok i a)(n:(Op.equalIn d b.type h i).run c a=.ok g a)
  (h:(Op.eqFields d e f rest).run c a=.ok j a):(Op.eqFields d e f (b :: rest)).run c a=.ok (g&&j) a:=by
 simp only[Op.eqFields,k,ne_eq,not_false_eq_true,if_true,Sem.run_bind,l,m,n,Result.andThen_ok]
 cases g
 ·simp
 ·simpa using h
theorem K5(i:Nat)(b c:bE)(g:b.Ok)(h:c.Ok)(a:World):(Op.eqFields (i+2) (aI b).toArray (aI c).toArray (prog.fieldsOf 36).toList).run prog a=.ok (oq b c) a:=by
 have j:=zW (aI b).toArray 32 _ (by rw[List.getElem?_toArray];exact bZ g) a;have k:=zW (aI b).toArray 97 _ (by rw[List.getElem?_toArray];exact fo g) a;have l:=dS (aI b) 0 b.log g.log (λd e f=>jb d e f) a;have m:=dS (aI b) 33 b.root g.root (λd e f=>gL g d e f) a;have n:=dS (aI b) 65 b.index g.index (λd e f=>jA g d e f) a;have o:=zW (aI c).toArray 32 _ (by rw[List.getElem?_toArray];exact bZ h) a;have p:=zW (aI c).toArray 97 _ (by rw[List.getElem?_toArray];exact fo h) a;have q:=dS (aI c) 0 c.log h.log (λd e f=>jb d e f) a;have r:=dS (aI c) 33 c.root h.root (λd e f=>gL h d e f) a;have s:=dS (aI c) 65 c.index h.index (λd e f=>jA h d e f) a;have d:=iK i b.log c.log g.log h.log a;have e:=iK i b.root c.root g.root h.root a;have f:=iK i b.index c.index g.index h.index a;have g:(Op.equalIn (i+2) 3 (.int .i64 b.size) (.int .i64 c.size)).run prog a=.ok (b.size==c.size) a:=run_equalIn_int a (i+1) _ .i64 .i64 _ _ underlying3;have h:(Op.equalIn (i+2) 3 (.int .i64 b.clock) (.int .i64 c.clock)).run prog a=.ok (b.clock==c.clock) a:=run_equalIn_int a (i+1) _ .i64 .i64 _ _ underlying3;unfold oq;generalize aI b=t at*;generalize aI c=b at*;unfold Program.fieldsOf;rw[underlying36];change(Op.eqFields (i+2) t.toArray b.toArray (_ :: _ :: _ :: _ :: _ :: [])).run prog a=_;refine uT _ _ _ _ _ _ _ _ _ aR l q d ?_;refine uT _ _ _ _ _ _ _ _ _ aR j o g ?_;refine uT _ _ _ _ _ _ _ _ _ aR m r e ?_;refine uT _ _ _ _ _ _ _ _ _ aR n s f ?_;exact uT _ _ _ _ _ _ _ _ _ aR k p h rfl
theorem K6(d:Nat)(a b:bE)(e:a.Ok)(f:b.Ok)(c:World):(Op.equalIn (d+2+1) 36 (.agg (aI a).toArray) (.agg (aI b).toArray)).run prog c=.ok (oq a b) c:=by
 (have g:prog.underlying 36=some (.struct (prog.fieldsOf 36)):=by unfold Program.fieldsOf;rw[underlying36]);(have h:prog.stoodInHeld 36=false:=by kernel_rfl);rw[run_equalIn_agg c (d+2) _ _ _ g h];exact K5 d a b e f c
theorem Cj(a b:bE)(d:a.Ok)(e:b.Ok)(c:World):(binOp .eql 36 (.agg (aI a).toArray) (.agg (aI b).toArray)).run prog c=.ok (.bool (oq a b)) c:=by
 have f:=K6 9997 a b d e c;rw[run_eql_struct c,f];rfl
