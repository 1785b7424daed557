import Derived.Test.YtgldkfaiofkhbaaGreatDoorZ24
import Derived.Test.YtgldkfaiofkhbaaGreatDoorZ21
namespace Go.Proofs.YtgldkfaiofkhbaaGreatDoor
open Go Go.RowKit Go.Proofs.Tryz
set_option maxRecDepth 100000
set_option maxHeartbeats 8000000
theorem oU{i:Program}{e:Oper}{c:Act}{b:World}{K:Act->World->Prop}{l:Exit->Act->World->Prop}(f:TypeId)(g h:Operand)(m:e.op=.store f g h)
  (a:Nat)(d:Value)(hx:c.eval g=.pointer (some ⟨a,0,none⟩))(n:c.eval h=d)(o:d.oneCell'=true)
  (g:TypeId)(j:Value)(k:aL b a g #[j])(p:(i.info? f).map (·.size)=some 1)
  (q:∀h,aL h a g #[d]->au (·=a) b h->K (c.put e.dst undef) h):e.wp i c b K l:=by
 unfold Oper.wp execOp
 simp only[m,hx,n,Instr.storeAt,Instr.sureAddr,Sem.run_bind,Sem.run_pure,Result.andThen_ok,run_storeVar_one b a g f j d k p o]
 exact q _ (setRow_heap _ _ _ _ _ _ k) (au.setRow (S:=(·=a)) (au.refl _ b) rfl _)
structure RW(w wr:World)(v:Value)(n:Nat)(l:List KD):Prop where
 ring:aL wr w.heap.size 139 #[v]
 row:ol wr (w.heap.size+1) v n l
 keys:∀x∈l,kE wr (w.heap.size+1) x
 far:av w wr
theorem RW.size{w wr:World}{v:Value}{n:Nat}{l:List KD}(h:RW w wr v n l):w.heap.size+1<=wr.heap.size:=h.ring.lt
theorem RW.below{w wr b:World}{v:Value}{n:Nat}{c:List KD}(h:RW w wr v n c)(a:av wr b):RW w b v n c:=
 ⟨(a.block _ h.ring.lt).trans h.ring,h.row.below a,λb hx=>(h.keys b hx).below a,h.far.trans (a.mono h.far.size)⟩
theorem lS{b c:World}{a d h:Nat}{e i:Value}{f:List KD}{j:List Value}{g:KD}(k:ol b a e d f)(l:rC b a 142 33 e d h (f.flatMap iC) j i c)(m:kE b a g):kE c a g:=by
 refine m.kept (NF l) λb d a e c=>?_
 rcases k.2.2 with⟨d,-⟩ |⟨e,h,i,f,j,g,-⟩
 ·rw[d]at a;cases a
 ·rw[f]at a
  have a:some b=some e:=a;(injection a with a);subst a;exact TN g c
theorem RW.push{a b c:World}{d:Value}{i:Nat}{e:List KD}{f:KD}{u:Value}(j:av a b)(k:ol b (a.heap.size+1) d (i+1) (e++[f]))(l:∀g∈e++[f],kE b (a.heap.size+1) g)
  (m:aL c a.heap.size 139 #[u])(n:u=d)(h:au (·=a.heap.size) b c):RW a c d (i+1) (e++[f]):=by
 subst n
 refine⟨m,k.off h (λa b=>by omega),λg c=>(l g c).kept h (λa d b e _=>by omega),j.trans (au.aW h (AJ _) j.size)⟩
theorem RW.sorted{d wr e:World}{c a f:Nat}{i g:List KD}(b:RW d wr (.slice (some ⟨c,0,none⟩) a f) a i)(j:g.Perm i)(k:ol e (d.heap.size+1) (.slice (some ⟨c,0,none⟩) a f) a g)(h:au (·=c) wr e):RW d e (.slice (some ⟨c,0,none⟩) a f) a g:=by
 have a:=yT b.row c rfl;obtain⟨a,c⟩:=b.row.blk;refine⟨b.ring.kept h (λa=>by omega),k,λd hx=>(b.keys d (j.mem_iff.1 hx)).kept h (λf g a _ e=>by subst a;exact TN c e),b.far.trans (au.aW h ah b.far.size)⟩
structure mV(w:World)(B R:Nat)(l:List KD):Prop where
 base:B<=R
 ring:∃A c,aL w R 139 #[.slice A l.length c]/\ol w B (.slice A l.length c) l.length l
 keys:∀x∈l,kE w B x
theorem mV.at_{a:World}{c b:Nat}{l:List KD}(h:mV a c b l):gZ a b l:=by
 obtain⟨a,b,c,d⟩:=h.ring;obtain⟨i,c2,e,f,-,-,g,-⟩:=d.reads;(injection e with d _ i);subst d i;exact⟨a,b,c,f,g,λd hx=>(h.keys d hx).reads⟩
theorem mV.below{w b:World}{B R:Nat}{c:List KD}(h:mV w B R c)(a:av w b):mV b B R c:=by
 obtain⟨c,d,b,e⟩:=h.ring;exact⟨h.base,⟨c,d,(a.block _ b.lt).trans b,e.below a⟩,λf hx=>(h.keys f hx).below a⟩
theorem mV.kept{S:Nat->Prop}{w f:World}{a R:Nat}{g:List KD}(b:mV w a R g)(c:au S w f)(d:∀e,S e->e < a):mV f a R g:=by
 obtain⟨g,h,i,f⟩:=b.ring;have j:=b.base;refine⟨j,⟨g,h,aL.kept i c (λa=>by have:=d _ a;omega),f.1,f.2.1,?_⟩,λh hx=>(b.keys h hx).kept c (λe g a i _=>by have:=d _ a;omega)⟩
 rcases f.2.2 with b |⟨e,h,g,i,j,k,rest⟩
 ·exact .inl b
 ·exact .inr ⟨e,h,g,i,j,aL.kept k c (λa=>by have:=d _ a;omega),rest⟩
theorem RW.UM{b wr:World}{c:Option Addr}{d e:Nat}{f:List KD}(a:RW b wr (.slice c d e) d f):mV wr b.heap.size b.heap.size f:=by
 have b:=a.row.1;subst b;exact⟨AJ _,⟨c,e,a.ring,a.row.base (BF _)⟩,λb hx=>cO (a.keys b hx) (BF _)⟩
theorem Qc{e:World}{f a c:Nat}{d:Option Addr}{g:List KD}(h:ol e f (.slice d a c) a g)(i:0 < a):∃b,d=some ⟨b,0,none⟩:=by
 rcases h.2.2 with⟨d,-⟩ |⟨b,c,e,a,-⟩
 ·injection d with _ d;omega
 ·injection a with a
  exact⟨b,a⟩
theorem Uo{d:List KD}{e f:Nat}{g h:KD}(i:e=f+1)(j:d[f]?=some g)(k:d[e]?=some h)(l:jF g≠jF h)(m:∀(a:Nat) b c,a+1 < e->d[a]?=some b->d[a+1]?=some c->jF b≠jF c):∀(a:Nat) b c,a+1 < e+1->d[a]?=some b->d[a+1]?=some c->jF b≠jF c:=λa b c h g d=>by
 by_cases h:a+1 < e
 ·exact m a b c h g d
 ·obtain rfl:a=f:=ah
  rw[<-i]at d;rw[j]at g;rw[k]at d;rw[<-Option.some.inj g,<-Option.some.inj d];exact l
def tq(es:List aj):Bool:=es.all λq=>lT q.length
def j4(es:List aj):Bool:=decide ((es.map iU).Pairwise (·≠·))
def gB(es:List aj):Int:=if es.length < 1\/64 < es.length then 7 else if tq es=true then(if j4 es=true then 0 else 92)else 160
theorem Gx:∀{c:List KD},(c.Pairwise λa b=>aT (jF b) (jF a)=false)->(∀(d:Nat) a b,c[d]?=some a->c[d+1]?=some b->jF a≠jF b)->bN jF c
 | [],_,_=>List.Pairwise.nil
 | [e],_,_=>List.pairwise_singleton _ _
 | e :: f :: c,hs,g=>by
  have c:=List.pairwise_cons.1 hs;have i:=Gx c.2 (λd a b j k=>g (d+1) a b (by simpa using j) (by simpa using k))
  have b:aT (jF e) (jF f)=true:=by
   cases h:aT (jF e) (jF f)with
   | true=>rfl
   | false=>exact absurd (oJ _ _ h (c.1 f aZ)) (g 0 e f rfl rfl)
  refine List.pairwise_cons.2 ⟨λz a=>?_,i⟩
  rcases Ag.1 a with rfl | a
  ·exact b
  ·exact gD _ _ _ b ((List.pairwise_cons.1 i).1 z a)
theorem Jz{b:List aj}{a:List KD}(c:(a.map (·.q)).Perm b)(hs:bN jF a):j4 b=true:=by
 unfold j4;rw[decide_eq_true_eq]
 have b:(a.map (·.q)).Pairwise (λd e=>iU d≠iU e):=by
  rw[List.pairwise_map];exact hs.imp λa=>qP a
 rw[List.pairwise_map];exact(c.pairwise_iff (λ{_ _} a=>a.symm)).1 b
theorem zw{c:List aj}{b:List KD}(f:(b.map (·.q)).Perm c){a:Nat}{d e:KD}(g:b[a]?=some d)(h:b[a+1]?=some e)(i:jF d=jF e):j4 c=false:=by
 unfold j4;rw[decide_eq_false_iff_not];intro b;rw[List.pairwise_map]at b;have c:=(f.pairwise_iff (λ{_ _} b=>b.symm)).2 b;rw[List.pairwise_map]at c;obtain⟨b,rfl⟩:=AU.1 g;obtain⟨d,rfl⟩:=AU.1 h;exact List.pairwise_iff_getElem.1 c a (a+1) b d (Bq a) i
def Uc(es:List aj)(w:World)(e:Ending)(w':World):Prop:=∃v k,e=.returned (.tuple #[v,.int .i64 k])/\av w w'/\k=gB es/\(k≠0->v=.pointer none)/\(k=0->∃l,v=.pointer (some ⟨w.heap.size,0,none⟩)/\mV w' w.heap.size w.heap.size l/\(l.map (·.q)).Perm es/\bN jF l)
theorem D6{b:List aj}{c d:World}{a:Int}(e:a=gB b)(h0:a≠0)(f:av c d):Uc b c (.returned (.tuple #[.pointer none,.int .i64 a])) d:=⟨_,_,rfl,f,e,λ_=>rfl,λa=>absurd a h0⟩
def Yb:Array Value:=(List.replicate 32 (Value.int .u8 0)++[Value.slice none 0 0]).toArray
theorem W9:(prog.info? 142).map (λa=>(a.zero,a.size,a.bytes))=some (some (.agg Yb),33,56):=by kernel_rfl
theorem XY:(prog.info? 5).map (λa=>(a.zero,a.size,a.bytes))=some (some (.int .u8 0),1,1):=by kernel_rfl
theorem Ox:(prog.info? 137).map (·.size)=some 1:=by kernel_rfl
theorem YA:prog.eqGuardType prog.depth 23=false:=by kernel_rfl
theorem oC:(prog.info? 23).map (·.size)=some 32:=by kernel_rfl
theorem KH(D:List aj)(p:Nat)(ú:D.length=p)(û:p < 140737488355328)(ü:Option Addr)(ē:Nat)(c:World)(Ü:bn c)(Ý:gq c ü D)(ý:∀e∈D,e.length < 140737488355228):
  Calls prog 14 #[.slice ü p ē] c (Uc D c):=by
 obtain⟨Ç,È,É,Ê,Ë⟩:=bV W9
 obtain⟨Þ,ß,à,á,â⟩:=bV XY
 have Ĕ:=AA<|λb (M:av c b)=>Ý.below M
 have ĕ:=AA<|λb (M:av c b)=>Ü.below M Ü.1
 have Ė:=AA Ý
 have δ:=AA ú
 have ļ:=AA û
 have ė:=AA ý
 obtain⟨Ľ,ľ⟩:=aS (gB D)
 clear ú û Ü Ý ý
 by_cases h0:p=0
 ·subst h0
  (have ã:Hid (7=gB D):=by show _=_;unfold gB;rw[if_pos (by rw[δ.out];omega)]);(go_enter func14,ntmps14);go_wp2_with fail;go_ret2;exact D6 ã aR (Below.refl _ _)
 by_cases þ:64 < p
 ·have ã:Hid (7=gB D):=by show _=_;unfold gB;rw[if_pos (by rw[δ.out];omega)]
  (have O:((p:Int)==0)=false:=by simp;omega);have Ę:(64:Int) < (p:Int):=ah;clear h0 þ;(go_enter func14,ntmps14);go_wp2_with fail;go_ret2;exact D6 ã aR (Below.refl _ _)
 have O:((p:Int)==0)=false:=by simp;omega
 have Ę:((64:Int) < (p:Int))=False:=eq_false ah
 have Ψ:Hid (1<=p):=by show _<=_;omega
 have φ:Hid (p<=64):=by show _<=_;omega
 obtain⟨ę,ä⟩:=aS (c.alloc (.cells #[.slice none 0 0] 139))
 have ÿ:Hid (RW c ę (.slice none 0 0) 0 []):=ä.out ▸ ⟨aL.new _ _ _,ol.nil _ _,λv hx=>(by cases hx),Below.aJ c _⟩
 have Ě:=ä.out
 clear h0 þ ä
 go_enter func14,ntmps14
 go_wp2_with fail
 clear Ě
 go_loopw [21] (λě wr=>∃(i c1:Nat) (o:Option Addr) (x:List KD),ě=.int .i64 (i:Int)/\Hid (i<=p)/\Hid (x.map (·.q)=D.take i)/\Hid (tq (D.take i)=true)/\Hid (RW c wr (.slice o i c1) i x)) (λy _=>p - (intOf y).toNat)
 case atStart=>exact⟨0,0,none,[],rfl,AX _,rfl,rfl,ÿ⟩
 case round=>
  clear ÿ;obtain⟨i,c1,o,x,rfl,Ā,Ì,Í,I⟩:=hrel;have Ŀ:(i:Int)<=64:=dn Ā φ;have ŀ:(0:Int)<=(i:Int):=ah;by_cases Î:i < p
  ·have Ĝ:(i:Int) < (p:Int):=ah
   have ι:=AA Î;obtain⟨e,χ⟩:∃e,Hid (D[i]?=some e):=⟨_,AV (δ.out ▸ Î)⟩;obtain⟨κ,ā,ĝ,Ă,ă⟩:=Ė.out (by rw[δ.out];omega);obtain⟨ε,μ,å,æ,-,ç⟩:=ă i e χ;subst ĝ;have Ï:=AA<|ė e (Ab χ)
   have Ω:Hid (∀b,av c b->ax b 1 ε e.length (ak e)):=λb M=>by
    obtain⟨Ą,ą,A,-,À⟩:=Ĕ.out b M (by rw[δ.out];omega);obtain⟨Ğ,ğ,Ġ,-,ġ,-⟩:=À i e χ;(injection A with A);(injection A with A Á);subst A Á;(have:some (Value.slice ε e.length μ)=some (Value.slice Ğ e.length ğ):=by rw[<-å,<-Ġ];exact(M.cell (p:=⟨κ,ā+i,none⟩) Ă).symm);(injection this with this);(injection this with this);rw[this];exact ġ
   have Ć:=(I.far.cell (p:=⟨κ,ā+i,none⟩) Ă).trans å;obtain⟨f,B⟩:=aS (e.length);rw[B.out]at Ï Ω Ć æ ç;have Ģ:=AA æ;have Ð:=AA ç
   have Â:Hid (tq (D.take (i+1))=lT f):=by
    show _=_;have Ñ:=Í.out;unfold tq at Ñ ⊢;rw[List.take_add_one,χ.out,List.all_append,Ñ,Option.toList_some,List.all_cons,List.all_nil,B.out];simp
   clear Î ă å æ ç;cases hkb:lT f with
   | false=>
    have ģ:Hid (160=gB D):=by
     show _=_;unfold gB;rw[if_neg (by rw[δ.out];have:=Ψ.out;have:=φ.out;omega),if_neg];intro Ò;unfold tq at Ò;have:=List.all_eq_true.1 Ò e (Ab χ);rw[B.out,hkb]at this;cases this
    have è:=AA hkb;clear hkb;go_wp2_with (go_at_call 60;refine(oL f ε μ _).mono ?_;rw[è.out];rintro q é ⟨rfl,rfl⟩);go_ret2;exact D6 ģ aR I.far
   | true=>
    have è:=AA hkb;rw[hkb]at Â;clear hkb;go_upto_region 9 with(go_at_call 60;refine(oL f ε μ _).mono ?_;rw[è.out];rintro q é ⟨rfl,rfl⟩);clear Ć;obtain⟨wr,rfl⟩:∃wr,wr=é:=⟨é,rfl⟩;obtain⟨N,Ã⟩:=aS (iU e);have ê:Hid (N.length=32):=Ã.out ▸ jI e
    have ć:Hid (∀b,av c b->bq 61 #[.slice ε f μ] b (.agg (ak N).toArray)):=λb M=>by
     rw[<-Ã.out];exact Ca e f B ε μ b (ĕ b M) (Ω b M) Ģ (aC Ï) Ð
    (have ë:Hid (0+f<=maxLen):=by show _<=_;have:=Ï.out;unfold maxLen;omega);(have ì:Hid ((0+f)*1<=140737488355328):=by show _<=_;have:=Ï.out;omega);(have Ó:Hid (i+1<=maxLen):=by show _<=_;unfold maxLen;omega);(have Ô:Hid ((i+1)*56<=140737488355328):=by show _<=_;omega);have Õ:=AA I.row.1;(have Ö:Hid (∀h k,(x++[(⟨e,h,k⟩:KD)]).map (·.q)=D.take (i+1)):=λh k=>by rw[List.map_append,Ì.out,List.take_add_one,χ.out];rfl);have g:=AA I.row;have r:=AA I.keys;have d:=AA I.ring;have í:=AA I.far;(have aD:=AA<|í.trans ((Below.refl _ wr).drew.mono í.size));have a:av wr wr.drew:=(Below.refl _ _).drew;replace g:=AA (g.below a);replace r:=AA (λv hx=>(r v hx).below a);replace d:Hid (aL _ c.heap.size 139 #[.slice o i c1]):=(a.block _ d.lt).trans d;clear a í I;refine dI (λb=>av c b) 15 ?_;refine aH 0 aD ?_;refine aH 1 aD ?_;refine aH 2 aD ?_;refine aH 3 aD ?_;refine aH 5 aD ?_;refine aH 7 aD ?_;refine iP (i:=4) (j:=6) rfl rfl bH (by rfl) (by rfl) (λK t=>?_) (λK t=>?_)
    ·have ζ:(wr.drew).cell? ⟨c.heap.size,0,none⟩=some (.slice o i c1):=aL.cell d 0
     go_simp;refine t _ _ aD ?_;clear t K;clear ζ;refine aU 6 ?_;refine cK (R:=λy Ä=>y=.agg (ak N).toArray/\Below (wr.drew).heap.size (wr.drew) Ä) A9 ((ć (wr.drew) aD).mono λq Ä ⟨î,M⟩=>⟨_,î,rfl,M⟩) ?_;rintro Ĥ ν ⟨rfl,a⟩;have β:=aQ aD a;replace g:=AA (g.below a);replace r:=AA (λv hx=>(r v hx).below a);replace d:Hid (aL _ c.heap.size 139 #[.slice o i c1]):=(a.block _ d.lt).trans d;clear a;refine aV β ?_;refine aU 8 ?_;refine gW _ (.const (.slice none 0 0)) (.tmp 35) 27 rfl (ν).heap.size 5 Þ (.int .u8 0) 1 1 AR ß à á â rfl aR (.slice none 0 0) 0 [] rfl (Aa _ _ _ _) ε f μ (ak e) rfl (Ω _ β) Ð (aY e) ë ì (AJ _) (λĈ l S=>?_);have a:=S.below (Below.refl _ _) (AJ _) (λf q=>by cases q);have C:=aQ β a;have J:=S.own;rw[Nat.zero_add,List.nil_append]at J;obtain⟨h,k,rfl,-⟩:=Own.reads J;(have z:Hid (kE l (c.heap.size+1) ⟨e,h,k⟩):=by show World.ownsRow _ _ _ _ (.slice h e.length k) e.length _;rw[B.out];exact cO J d.lt);clear S J;replace g:=AA (g.below a);replace r:=AA (λv hx=>(r v hx).below a);replace d:Hid (aL _ c.heap.size 139 #[.slice o i c1]):=(a.block _ d.lt).trans d;clear a;refine aV C ?_;obtain⟨m,F⟩:=aS (iC ⟨e,h,k⟩);(have Å:Hid (∀b,(Instr.build 142 #[(0,.agg (ak N).toArray),(1,.slice h f k)]).run prog b=.ok (.agg m.toArray) b):=λb=>by rw[EF N ê.out h f k b,<-F.out,<-Ã.out,<-B.out];rfl);have η:Hid (m.length=33):=F.out ▸ lX _;(have ψ:Hid (∀u∈m,u.oneCell'=true):=by intro u P;rw[<-F.out]at P;exact zf _ u P);(have ω:Hid (∀y∈[m],y.length=33):=λy ξ=>by simp only[List.mem_singleton]at ξ;rw[ξ];exact η);obtain⟨E,O⟩:=aS (([m].flatten).toArray);refine eO 9 rfl C (λb T=>fe 142 _ rfl #[(0,.agg (ak N).toArray),(1,.slice h f k)] (by simp;exact⟨rfl,rfl⟩) _ (Å b)) ?_;refine aU 10 ?_;refine ig 137 142 1 _ rfl 33 aR [m] BL Ih HZ rfl aR aR ω rfl ?_;rw[O.out];have ο:Hid (ax (l.alloc (.cells E 142)) 33 (some ⟨l.heap.size,0,none⟩) 1 m):=O.out ▸ wm l η;have a:av l (l.alloc (.cells E 142)):=Below.aJ _ _;have Q:Hid (av c (l.alloc (.cells E 142))):=C.trans (a.mono C.size);replace g:=AA (g.below a);replace r:=AA (λv hx=>(r v hx).below a);replace d:Hid (aL _ c.heap.size 139 #[.slice o i c1]):=(a.block _ d.lt).trans d;replace z:=AA (z.below a);clear a;refine aV Q ?_;refine aU 11 ?_;refine gW _ (.tmp 32) (.tmp 38) 137 rfl (c.heap.size+1) 142 Ç (.agg Yb) 33 56 BL È É Ê Ë rfl aR (.slice o i c1) i (x.flatMap iC) rfl g.2 (some ⟨l.heap.size,0,none⟩) 1 1 m rfl ο (λq=>by cases q) ψ Ó Ô d.lt (λØ L s=>?_);have G:=s.below (Below.refl _ _) d.lt (λf q=>yT g f q);(have w:=AA<|Q.trans (G.mono (BF _)));have U:Hid (aL L c.heap.size 139 #[.slice o i c1]):=(G.block _ (Bq _)).trans d
     have ρ:Hid (∀H∈x++[(⟨e,h,k⟩:KD)],kE L (c.heap.size+1) H):=λH n=>by
      rcases Aj.1 n with n | n
      ·exact lS g s (r H n)
      ·simp only[List.mem_singleton]at n
       rw[n];exact lS g s z
     rw[<-F.out]at s;(have V:=AA<|wH s Õ);obtain⟨W,X,rfl,-⟩:=V.reads;clear s z g r d G;refine aV w ?_;refine aH 12 w ?_;refine aH 13 w ?_;refine aU 14 ?_;refine oU 137 (.tmp 41) (.tmp 39) rfl c.heap.size (.slice W (i+1) X) rfl rfl rfl 139 (.slice o i c1) U Ox (λï Y Z=>?_);have α:=AA (RW.push w V ρ Y rfl Z);have σ:=AA α.far;clear Y Z U;refine aV σ ?_;refine bT ?_;go_wp2_with fail;go_roundw
     case rel=>exact⟨i+1,X,W,x++[KD.mk e h k],by go_num,ι,Ö h k,Â,α⟩
     case measure=>(have:=ι.out;simp[intOf];omega)
    ·refine cK (R:=λy Ä=>y=.agg (ak N).toArray/\Below (wr.drew).heap.size (wr.drew) Ä) A9 ((ć (wr.drew) aD).mono λq Ä ⟨î,M⟩=>⟨_,î,rfl,M⟩) ?_
     rintro Ĥ ν ⟨rfl,a⟩;have β:=aQ aD a;replace g:=AA (g.below a);replace r:=AA (λv hx=>(r v hx).below a);replace d:Hid (aL _ c.heap.size 139 #[.slice o i c1]):=(a.block _ d.lt).trans d;clear a;go_simp;refine t _ _ β ?_;clear t K;refine iP (i:=4) (j:=8) rfl rfl bH (by rfl) (by rfl) (λK t=>?_) (λK t=>?_)
     ·have ζ:(ν).cell? ⟨c.heap.size,0,none⟩=some (.slice o i c1):=aL.cell d 0
      go_simp;refine t _ _ β ?_;clear t K;clear ζ;refine aU 8 ?_;refine gW _ (.const (.slice none 0 0)) (.tmp 35) 27 rfl (ν).heap.size 5 Þ (.int .u8 0) 1 1 AR ß à á â rfl aR (.slice none 0 0) 0 [] rfl (Aa _ _ _ _) ε f μ (ak e) rfl (Ω _ β) Ð (aY e) ë ì (AJ _) (λĈ l S=>?_);have a:=S.below (Below.refl _ _) (AJ _) (λf q=>by cases q);have C:=aQ β a;have J:=S.own;rw[Nat.zero_add,List.nil_append]at J;obtain⟨h,k,rfl,-⟩:=Own.reads J;(have z:Hid (kE l (c.heap.size+1) ⟨e,h,k⟩):=by show World.ownsRow _ _ _ _ (.slice h e.length k) e.length _;rw[B.out];exact cO J d.lt);clear S J;replace g:=AA (g.below a);replace r:=AA (λv hx=>(r v hx).below a);replace d:Hid (aL _ c.heap.size 139 #[.slice o i c1]):=(a.block _ d.lt).trans d;clear a;refine aV C ?_;obtain⟨m,F⟩:=aS (iC ⟨e,h,k⟩);(have Å:Hid (∀b,(Instr.build 142 #[(0,.agg (ak N).toArray),(1,.slice h f k)]).run prog b=.ok (.agg m.toArray) b):=λb=>by rw[EF N ê.out h f k b,<-F.out,<-Ã.out,<-B.out];rfl);have η:Hid (m.length=33):=F.out ▸ lX _;(have ψ:Hid (∀u∈m,u.oneCell'=true):=by intro u P;rw[<-F.out]at P;exact zf _ u P);(have ω:Hid (∀y∈[m],y.length=33):=λy ξ=>by simp only[List.mem_singleton]at ξ;rw[ξ];exact η);obtain⟨E,O⟩:=aS (([m].flatten).toArray);refine eO 9 rfl C (λb T=>fe 142 _ rfl #[(0,.agg (ak N).toArray),(1,.slice h f k)] (by simp;exact⟨rfl,rfl⟩) _ (Å b)) ?_;refine aU 10 ?_;refine ig 137 142 1 _ rfl 33 aR [m] BL Ih HZ rfl aR aR ω rfl ?_;rw[O.out];have ο:Hid (ax (l.alloc (.cells E 142)) 33 (some ⟨l.heap.size,0,none⟩) 1 m):=O.out ▸ wm l η;have a:av l (l.alloc (.cells E 142)):=Below.aJ _ _;have Q:Hid (av c (l.alloc (.cells E 142))):=C.trans (a.mono C.size);replace g:=AA (g.below a);replace r:=AA (λv hx=>(r v hx).below a);replace d:Hid (aL _ c.heap.size 139 #[.slice o i c1]):=(a.block _ d.lt).trans d;replace z:=AA (z.below a);clear a;refine aV Q ?_;refine aU 11 ?_;refine gW _ (.tmp 32) (.tmp 38) 137 rfl (c.heap.size+1) 142 Ç (.agg Yb) 33 56 BL È É Ê Ë rfl aR (.slice o i c1) i (x.flatMap iC) rfl g.2 (some ⟨l.heap.size,0,none⟩) 1 1 m rfl ο (λq=>by cases q) ψ Ó Ô d.lt (λØ L s=>?_);have G:=s.below (Below.refl _ _) d.lt (λf q=>yT g f q);(have w:=AA<|Q.trans (G.mono (BF _)));have U:Hid (aL L c.heap.size 139 #[.slice o i c1]):=(G.block _ (Bq _)).trans d
      have ρ:Hid (∀H∈x++[(⟨e,h,k⟩:KD)],kE L (c.heap.size+1) H):=λH n=>by
       rcases Aj.1 n with n | n
       ·exact lS g s (r H n)
       ·simp only[List.mem_singleton]at n
        rw[n];exact lS g s z
      rw[<-F.out]at s;(have V:=AA<|wH s Õ);obtain⟨W,X,rfl,-⟩:=V.reads;clear s z g r d G;refine aV w ?_;refine aH 12 w ?_;refine aH 13 w ?_;refine aU 14 ?_;refine oU 137 (.tmp 41) (.tmp 39) rfl c.heap.size (.slice W (i+1) X) rfl rfl rfl 139 (.slice o i c1) U Ox (λï Y Z=>?_);have α:=AA (RW.push w V ρ Y rfl Z);have σ:=AA α.far;clear Y Z U;refine aV σ ?_;refine bT ?_;go_wp2_with fail;go_roundw
      case rel=>exact⟨i+1,X,W,x++[KD.mk e h k],by go_num,ι,Ö h k,Â,α⟩
      case measure=>(have:=ι.out;simp[intOf];omega)
     ·refine gW _ (.const (.slice none 0 0)) (.tmp 35) 27 rfl (ν).heap.size 5 Þ (.int .u8 0) 1 1 AR ß à á â rfl aR (.slice none 0 0) 0 [] rfl (Aa _ _ _ _) ε f μ (ak e) rfl (Ω _ β) Ð (aY e) ë ì (AJ _) (λĈ l S=>?_)
      have a:=S.below (Below.refl _ _) (AJ _) (λf q=>by cases q);have C:=aQ β a;have J:=S.own;rw[Nat.zero_add,List.nil_append]at J;obtain⟨h,k,rfl,-⟩:=Own.reads J;(have z:Hid (kE l (c.heap.size+1) ⟨e,h,k⟩):=by show World.ownsRow _ _ _ _ (.slice h e.length k) e.length _;rw[B.out];exact cO J d.lt);clear S J;replace g:=AA (g.below a);replace r:=AA (λv hx=>(r v hx).below a);replace d:Hid (aL _ c.heap.size 139 #[.slice o i c1]):=(a.block _ d.lt).trans d;clear a;go_simp;refine t _ _ C ?_;clear t K;obtain⟨m,F⟩:=aS (iC ⟨e,h,k⟩);(have Å:Hid (∀b,(Instr.build 142 #[(0,.agg (ak N).toArray),(1,.slice h f k)]).run prog b=.ok (.agg m.toArray) b):=λb=>by rw[EF N ê.out h f k b,<-F.out,<-Ã.out,<-B.out];rfl);have η:Hid (m.length=33):=F.out ▸ lX _;(have ψ:Hid (∀u∈m,u.oneCell'=true):=by intro u P;rw[<-F.out]at P;exact zf _ u P);(have ω:Hid (∀y∈[m],y.length=33):=λy ξ=>by simp only[List.mem_singleton]at ξ;rw[ξ];exact η);obtain⟨E,O⟩:=aS (([m].flatten).toArray);refine eO 9 rfl C (λb T=>fe 142 _ rfl #[(0,.agg (ak N).toArray),(1,.slice h f k)] (by simp;exact⟨rfl,rfl⟩) _ (Å b)) ?_;refine iP (i:=4) (j:=10) rfl rfl bH (by rfl) (by rfl) (λK t=>?_) (λK t=>?_)
      ·have ζ:(l).cell? ⟨c.heap.size,0,none⟩=some (.slice o i c1):=aL.cell d 0
       go_simp;refine t _ _ C ?_;clear t K;clear ζ;refine aU 10 ?_;refine ig 137 142 1 _ rfl 33 aR [m] BL Ih HZ rfl aR aR ω rfl ?_;rw[O.out];have ο:Hid (ax (l.alloc (.cells E 142)) 33 (some ⟨l.heap.size,0,none⟩) 1 m):=O.out ▸ wm l η;have a:av l (l.alloc (.cells E 142)):=Below.aJ _ _;have Q:Hid (av c (l.alloc (.cells E 142))):=C.trans (a.mono C.size);replace g:=AA (g.below a);replace r:=AA (λv hx=>(r v hx).below a);replace d:Hid (aL _ c.heap.size 139 #[.slice o i c1]):=(a.block _ d.lt).trans d;replace z:=AA (z.below a);clear a;refine aV Q ?_;refine fP 11 (λK t=>?_);refine gW _ (.tmp 32) (.tmp 38) 137 rfl (c.heap.size+1) 142 Ç (.agg Yb) 33 56 BL È É Ê Ë rfl (by decide) (.slice o i c1) i (x.flatMap iC) rfl g.2 (some ⟨l.heap.size,0,none⟩) 1 1 m rfl ο (λq=>by cases q) ψ Ó Ô d.lt (λØ L s=>?_);have G:Below (c.heap.size+1) (l.alloc (.cells E 142)) L:=s.below (Below.refl _ _) d.lt (λf q=>yT g f q);have w:Hid (av c L):=Q.trans (G.mono (BF _));have U:Hid (aL L c.heap.size 139 #[.slice o i c1]):=(G.block _ (Bq _)).trans d
       have ρ:Hid (∀H∈x++[(⟨e,h,k⟩:KD)],kE L (c.heap.size+1) H):=λH n=>by
        rcases Aj.1 n with n | n
        ·exact lS g s (r H n)
        ·simp only[List.mem_singleton]at n
         rw[n];exact lS g s z
       rw[<-F.out]at s;have V:Hid (ol L (c.heap.size+1) Ø (i+1) (x++[(⟨e,h,k⟩:KD)])):=wH s Õ;obtain⟨W,X,rfl,-⟩:=V.reads;clear s z g r d G;go_simp;refine t _ _ w ?_;clear t K;refine aH 12 w ?_;refine aH 13 w ?_;refine fP 14 (λK t=>?_);refine oU 137 (.tmp 41) (.tmp 39) rfl c.heap.size (.slice W (i+1) X) rfl rfl rfl 139 (.slice o i c1) U Ox (λï Y Z=>?_);have α:=AA (RW.push w V ρ Y rfl Z);have σ:=AA α.far;clear Y Z U;go_simp;refine t _ _ σ ?_;clear t K;refine bT ?_;go_wp2_with fail;go_roundw
       case rel=>exact⟨i+1,X,W,x++[KD.mk e h k],by go_num,ι,Ö h k,Â,α⟩
       case measure=>(have:=ι.out;simp[intOf];omega)
      ·refine ig 137 142 1 _ rfl 33 (by decide) [m] BL Ih HZ rfl (by decide) (by decide) ω rfl ?_
       rw[O.out];(have ο:Hid (ax (l.alloc (.cells E 142)) 33 (some ⟨l.heap.size,0,none⟩) 1 m):=by show ax _ _ _ _ _;rw[<-O.out];exact wm l η);have a:av l (l.alloc (.cells E 142)):=Below.aJ _ _;have Q:Hid (av c (l.alloc (.cells E 142))):=C.trans (a.mono C.size);replace g:=AA (g.below a);replace r:=AA (λv hx=>(r v hx).below a);replace d:Hid (aL _ c.heap.size 139 #[.slice o i c1]):=(a.block _ d.lt).trans d;replace z:=AA (z.below a);clear a;go_simp;refine t _ _ Q ?_;clear t K;refine fP 4 (λK t=>?_);have ζ:((l.alloc (.cells E 142))).cell? ⟨c.heap.size,0,none⟩=some (.slice o i c1):=aL.cell d 0;go_simp;refine t _ _ Q ?_;clear t K;clear ζ;refine aU 11 ?_;refine gW _ (.tmp 32) (.tmp 38) 137 rfl (c.heap.size+1) 142 Ç (.agg Yb) 33 56 BL È É Ê Ë rfl aR (.slice o i c1) i (x.flatMap iC) rfl g.2 (some ⟨l.heap.size,0,none⟩) 1 1 m rfl ο (λq=>by cases q) ψ Ó Ô d.lt (λØ L s=>?_);have G:=s.below (Below.refl _ _) d.lt (λf q=>yT g f q);(have w:=AA<|Q.trans (G.mono (BF _)));have U:Hid (aL L c.heap.size 139 #[.slice o i c1]):=(G.block _ (Bq _)).trans d
       have ρ:Hid (∀H∈x++[(⟨e,h,k⟩:KD)],kE L (c.heap.size+1) H):=λH n=>by
        rcases Aj.1 n with n | n
        ·exact lS g s (r H n)
        ·simp only[List.mem_singleton]at n
         rw[n];exact lS g s z
       rw[<-F.out]at s;(have V:=AA<|wH s Õ);obtain⟨W,X,rfl,-⟩:=V.reads;clear s z g r d G;refine aV w ?_;refine aH 12 w ?_;refine aH 13 w ?_;refine aU 14 ?_;refine oU 137 (.tmp 41) (.tmp 39) rfl c.heap.size (.slice W (i+1) X) rfl rfl rfl 139 (.slice o i c1) U Ox (λï Y Z=>?_);have α:=AA (RW.push w V ρ Y rfl Z);have σ:=AA α.far;clear Y Z U;refine aV σ ?_;refine bT ?_;go_wp2_with fail;go_roundw
       case rel=>exact⟨i+1,X,W,x++[KD.mk e h k],by go_num,ι,Ö h k,Â,α⟩
       case measure=>(have:=ι.out;simp[intOf];omega)
  ·have Ĝ:¬((i:Int) < (p:Int)):=ah
   have ĥ:i=p:=aC Ā;subst ĥ;clear Î;rw[List.take_of_length_le (δ.out ▸ Nat.le_refl _)]at Ì Í;have Ħ:=I;obtain⟨γ,ħ⟩:=Qc I.row Ψ;subst ħ;have Ĩ:wr.cell? ⟨c.heap.size,0,none⟩=some (.slice (some ⟨γ,0,none⟩) i c1):=I.ring.cell 0;go_upto_region 13 with(go_at_call 64;refine(PD x i (c.heap.size+1) γ c1 (aC φ) wr I.row).mono ?_;rintro q ν ⟨rfl,τ,ð,ĉ,Ċ⟩;have ñ:=AA (I.sorted ð.1 ĉ Ċ);clear ĉ Ċ Ħ I Ĩ);have ò:Hid ((τ.map (·.q)).Perm D):=Ì.out ▸ ð.1.map _;have ó:=AA ñ.row.1;(have ċ:Hid (VU ν (some ⟨γ,0,none⟩) i τ):=by obtain⟨Ł,c2,q,-,-,-,ĩ,-⟩:=ñ.row.reads;injection q with Ī;subst Ī;exact ĩ);clear Ì;go_wp2_with fail
   go_loopw [8] (λy Γ=>∃j:Nat,y=.int .i64 (j:Int)/\Hid (1<=j)/\Hid (j<=i)/\Hid (∀(Δ:Nat) Æ κ,Δ+1 < j->τ[Δ]?=some Æ->τ[Δ+1]?=some κ->jF Æ≠jF κ)/\Hid (av ν Γ)) (λy _=>i - (intOf y).toNat)
   case atStart=>exact⟨1,rfl,AJ _,Ψ,(λΔ Æ κ ł=>by omega),Below.refl _ _⟩
   case round=>
    obtain⟨j,rfl,ī,Ĭ,Č,υ⟩:=hrel;obtain⟨Γ,rfl⟩:=fB wr;have Ń:(j:Int)<=64:=dn Ĭ φ;have ń:(0:Int)<=(j:Int):=ah;have Θ:=AA (ñ.below υ);have ĭ:Γ.cell? ⟨c.heap.size,0,none⟩=some (.slice (some ⟨γ,0,none⟩) i c1):=Θ.ring.cell 0;by_cases Ù:j < i
    ·have n:(j:Int) < (i:Int):=ah
     have č:=AA Ù;obtain⟨f,B⟩:∃f,Hid (j=f+1):=⟨j - 1,by show _=_;have:=ī.out;omega⟩;(have Ņ:IntKind.i64.wrap ((j:Int) - 1)=(f:Int):=by rw[IntWalk.i64_in _ ah];have:=B.out;omega);have ņ:(f:Int) < (i:Int):=aC B;have Ň:(0:Int)<=(f:Int):=ah;have ň:=AO (f:Int) (aC B);obtain⟨Į,ô⟩:∃v,Hid (τ[f]?=some v):=⟨_,AV (by rw[ó.out];have:=B.out;omega)⟩;obtain⟨į,õ⟩:∃v,Hid (τ[j]?=some v):=⟨_,AV (ó.out ▸ Ù)⟩;obtain⟨Ξ,Ú⟩:=aS (jF Į);obtain⟨Φ,Û⟩:=aS (jF į);have Ď:Hid (Ξ.length=32):=Ú.out ▸ rV _;have ď:Hid (Φ.length=32):=Û.out ▸ rV _
     have İ:Hid (∀b,av Γ b->∀(θ:Nat) (u:Value),(ak Ξ)[θ]?=some u->b.cell? ⟨γ,f*33+θ,none⟩=some u):=λb ö θ u P=>by
      obtain⟨Ą,ą,A,-,À⟩:=(ċ.below (υ.trans (ö.mono υ.size))).at_ ô;(injection A with A);(injection A with A Á);subst A Á;have:=À θ u (Jj (Ú.out ▸ P));rwa[Nat.zero_add]at this
     have ı:Hid (∀b,av Γ b->∀(θ:Nat) (u:Value),(ak Φ)[θ]?=some u->b.cell? ⟨γ,j*33+θ,none⟩=some u):=λb ö θ u P=>by
      obtain⟨Ą,ą,A,-,À⟩:=(ċ.below (υ.trans (ö.mono υ.size))).at_ õ;(injection A with A);(injection A with A Á);subst A Á;have:=À θ u (Jj (Û.out ▸ P));rwa[Nat.zero_add]at this
     (have Ĵ:Hid ((prog.info? 23).map (·.size)=some (ak Ξ).length):=by show _=_;rw[aB,Ď.out];exact oC);(have ĵ:Hid ((prog.info? 23).map (·.size)=some (ak Φ).length):=by show _=_;rw[aB,ď.out];exact oC);obtain⟨Đ,ø⟩:=aS (decide (Ξ=Φ));(have Ķ:Hid (∀b,(binOp .eql 23 (.agg (ak Ξ).toArray) (.agg (ak Φ).toArray)).run prog b=.ok (.bool Đ) b):=λb=>by rw[rX _ _ Ď.out ď.out,ø.out]);clear Ù;go_upto_region 16 with fail;clear ĭ;refine cB (aA Γ) (aA.jD ((Below.refl _ _).drew)) ?_;(iterate 3 refine aG ?_);refine jr (λb T=>by have ζ:b.cell? ⟨c.heap.size,0,none⟩=some (.slice (some ⟨γ,0,none⟩) i c1):=(Θ.below T.below).ring.cell 0;go_simp;rfl) ?_;(iterate 4 refine aG ?_);refine dh γ ((f*33)) (ak Ξ) (λb T=>İ b T.below) Ĵ AB ?_;(iterate 3 refine aG ?_);refine jr (λb T=>by have ζ:b.cell? ⟨c.heap.size,0,none⟩=some (.slice (some ⟨γ,0,none⟩) i c1):=(Θ.below T.below).ring.cell 0;go_simp;rfl) ?_;(iterate 3 refine aG ?_);refine dh γ ((j*33)) (ak Φ) (λb T=>ı b T.below) ĵ AB ?_;refine jr (λb T=>iN rfl rfl rfl YA (Ķ b)) ?_;refine bR ?_;intro Ŋ ù;have ķ:=AA (Θ.below ù.below);(have Ĺ:=AA<|υ.trans (ù.below.mono υ.size));clear ù;cases Đ with
     | true=>
      have ĺ:Hid (92=gB D):=by
       show _=_;unfold gB;rw[if_neg (by rw[δ.out];have:=Ψ.out;have:=φ.out;omega),if_pos Í.out,if_neg];rw[zw ò.out ô.out (B.out ▸ õ.out) (by rw[Ú.out,Û.out];exact of_decide_eq_true ø.out)];simp
      go_wp2_with fail;go_ret2;exact D6 ĺ aR ķ.far
     | false=>
      have Ļ:=AA (Uo B ô õ (by rw[Ú.out,Û.out];exact of_decide_eq_false ø) Č);go_wp2_with fail;go_roundw
      case rel=>exact⟨j+1,by go_num,Nat.le_add_left _ _,č,Ļ,Ĺ⟩
      case measure=>(have:=č.out;simp[intOf];omega)
    ·have n:¬((j:Int) < (i:Int)):=ah
     have đ:=AA<|Gx ð.2 (λΔ Æ κ Ñ Ē=>Č Δ Æ κ (dn ((AU.1 Ē).1) ó) Ñ Ē)
     have h0:Hid (0=gB D):=by
      show _=_;unfold gB;rw[if_neg (by rw[δ.out];have:=Ψ.out;have:=φ.out;omega),if_pos Í.out,if_pos (Jz ò.out đ.out)]
     clear Ù;go_wp2_with fail;go_ret2;exact⟨_,_,rfl,Θ.far,h0,λÒ=>absurd rfl Ò,λ_=>⟨τ,rfl,Θ.UM,ò,đ⟩⟩
def eY(keys:List aj)(d:aj):Option aj:=keys.find? (λq=>decide (iU q=d))
def nJ(keys:List aj)(h:bE):List aj->Option (List aj)
 | []=>some []
 | s :: rs=>match eY keys (eZ s)with
  | none=>nJ keys h rs
  | some q=>if fE h s q=0 then(nJ keys h rs).map (eZ s :: ·)else none
def L9(o:Option (List aj))(least:Int):Option (List aj)×Int:=match o with
 | none=>(none,161)
 | some ids=>if(ids.length:Int) < least then(none,7)else(some ids,0)
def iq(keys:List aj)(h:bE)(ss:List aj)(least:Int):Option (List aj)×Int:=
 if least < 1\/16 < least then(none,1)else if(lI h ss).2=0 then L9 (nJ keys h ((bK eZ ss).getD [])) least else(none,8)
def Pm(B:Nat)(w':World)(v:Value):Option (List aj)->Prop
 | none=>v=.slice none 0 0
 | some ids=>(∀d∈ids,d.length=32)/\w'.ownsRow B 23 32 v ids.length (ids.flatMap ak)
def JB(keys:List aj)(h:bE)(ss:List aj)(least:Int)(w:World)(e:Ending)(w':World):Prop:=∃v,e=.returned (.tuple #[v,.int .i64 (iq keys h ss least).2])/\av w w'/\Pm w.heap.size w' v (iq keys h ss least).1
theorem Qa{c:List aj}{d:List KD}{b:aj}(e:(d.map (·.q)).Perm c)(f:∀a∈d,jF a≠b):eY c b=none:=by
 unfold eY;rw[List.find?_eq_none];intro d c;obtain⟨a,hx,rfl⟩:=Aq.1 (e.mem_iff.2 c);have c:¬iU a.q=b:=f a hx;simpa using c
theorem Eo:∀{c:List KD},bN jF c->∀{a b:KD},a∈c->b∈c->jF a=jF b->a=b
 | [],_,_,_,d,_,_=>by cases d
 | z :: c,hs,a,b,hx,g,d=>by
  have c:=List.pairwise_cons.1 hs
  rcases Ag.1 hx with h | i
  ·rcases Ag.1 g with e | f
   ·rw[h,e]
   ·have:=c.1 b f
    rw[<-h,d,gJ]at this;cases this
  ·rcases Ag.1 g with e | f
   ·have:=c.1 a i
    rw[<-e,d,gJ]at this;cases this
   ·exact Eo c.2 i f d
theorem P9{c:List aj}{d:List KD}{a:aj}{b:KD}(e:(d.map (·.q)).Perm c)(hs:bN jF d)(hx:b∈d)(hd:jF b=a):eY c a=some b.q:=by
 unfold eY;cases h:c.find? (λd=>decide (iU d=a))with
 | none=>
  rw[List.find?_eq_none]at h;have:=h b.q (e.mem_iff.1 (Aq.2 ⟨b,hx,rfl⟩));(have c:¬iU b.q=a:=by simpa using this);exact absurd hd c
 | some d=>
  have c:=List.find?_some h;obtain⟨b,d,rfl⟩:=Aq.1 (e.mem_iff.2 (List.mem_of_find?_eq_some h));(have e:iU b.q=a:=by simpa using c);have c:jF b=a:=e;rw[Eo hs d hx (c.trans hd.symm)]
theorem NI{b:List KD}{c:aj}{f g:World}{h:Ending}(d:Pn b c f h g):av f g/\∃e,h=.returned e/\(((∀a∈b,jF a≠c)/\e=.slice none 0 0)\/∃a∈b,jF a=c/\e=.slice a.A a.q.length a.c):=by
 obtain⟨b,d⟩:=d;refine⟨b,?_⟩
 rcases d with⟨b,c⟩ |⟨a,b,c,e⟩
 ·exact⟨_,c,.inl ⟨b,rfl⟩⟩
 ·exact⟨_,e,.inr ⟨a,b,c,rfl⟩⟩
theorem JL{a:List aj}{c:bE}{b e:List aj}{d:Nat}{f:aj}(g:nJ a c b=(nJ a c (b.drop d)).map (e++·))(hx:b[d]?=some f)(h:eY a (eZ f)=none):nJ a c b=(nJ a c (b.drop (d+1))).map (e++·):=by
 rw[g];obtain⟨a,rfl⟩:=AU.1 hx;rw[List.drop_eq_getElem_cons a,nJ,h]
theorem Ol{a:List aj}{b:bE}{c g:List aj}{e:Nat}{d f:aj}(h:nJ a b c=(nJ a b (c.drop e)).map (g++·))(hx:c[e]?=some d)(i:eY a (eZ d)=some f)(j:¬fE b d f=0):nJ a b c=none:=by
 rw[h];obtain⟨a,rfl⟩:=AU.1 hx;rw[List.drop_eq_getElem_cons a,nJ,i];show Option.map _ (if _ then _ else _)=_;rw[if_neg j];rfl
theorem JK{a:List aj}{b:bE}{c f:List aj}{d:Nat}{e q:aj}(g:nJ a b c=(nJ a b (c.drop d)).map (f++·))(hx:c[d]?=some e)(h:eY a (eZ e)=some q)(i:fE b e q=0):nJ a b c=(nJ a b (c.drop (d+1))).map (f++[eZ e]++·):=by
 rw[g];obtain⟨e,rfl⟩:=AU.1 hx;rw[List.drop_eq_getElem_cons e,nJ,h];show Option.map _ (if _ then _ else _)=_;rw[if_pos i];cases nJ a b (c.drop (d+1))with
 | none=>rfl
 | some a=>simp
theorem JM{b:List aj}{c:bE}{a d:List aj}{e:Nat}(f:nJ b c a=(nJ b c (a.drop e)).map (d++·))(g:a.length<=e):nJ b c a=some d:=by
 rw[f,List.drop_of_length_le g];simp[nJ]
theorem EP{c:TypeId}{d:Nat}(a:World){b:List Value}(e:b.length=d):ax (a.alloc (.cells ([b].flatten).toArray c)) d (some ⟨a.heap.size,0,none⟩) 1 b:=by
 have d:aL (a.alloc (.cells ([b].flatten).toArray c)) a.heap.size c ([b].flatten).toArray:=aL.new _ _ _;refine⟨by rw[e];simp,λ_=>⟨a.heap.size,0,rfl,by simp,λc u b=>?_⟩⟩;rw[d.cell];simpa using b
theorem R6{e:World}{c f g:Nat}{a:TypeId}{d:Value}{h:List Value}(i:e.ownsRow c a g d f h):∀b,d.ownBlock=some b->c<=b:=λb c=>by
 rcases i.2 with⟨d,-⟩ |⟨e,g,h,f,j,-⟩
 ·rw[d]at c;cases c
 ·rw[f]at c
  have a:some e=some b:=c;(injection a with a);omega
theorem Hl{g b:World}{c d:Nat}{h e:Value}{f:List aj}{a:aj}(i:rC g c 23 32 h d 1 (f.flatMap ak) (ak a) e b):b.ownsRow c 23 32 e (d+1) ((f++[a]).flatMap ak):=by
 have:=i.own;rwa[List.flatMap_append,show[a].flatMap ak=ak a by simp]
theorem DY:(prog.info? 23).map (·.size)=some 32:=by kernel_rfl
theorem Oi:((prog.info? 23).bind (·.zero)).isSome=true:=by kernel_rfl
theorem O5:(prog.info? 23).map (λa=>(a.zero,a.size,a.bytes))=some (some (.agg bF),32,32):=by kernel_rfl
theorem O7(a:World)(b:Option Addr)(c d:Nat):(binOp .eql 27 (.slice b c d) (.slice none 0 0)).run prog a=.ok (.bool b.isNone) a:=by
 simp only[binOp];simp[Op.equal,Op.maxDepth,Lib.run_equalIn_slice_nil a 9999 27 _ b c d 0 0 underlying27]
theorem mQ{d:List aj}{e:bE}{f:List aj}{g:Int}{a b:World}{h:Option (List aj)}{i:Int}{c:Value}(j:iq d e f g=(h,i))(k:av a b)(l:Pm a.heap.size b c h):JB d e f g a (.returned (.tuple #[c,.int .i64 i])) b:=⟨c,by rw[j],k,by rw[j];exact l⟩
theorem L8(h:List aj)(D:List KD)(Å:(D.map (·.q)).Perm h)(Æ:bN jF D)(Ç:D.length<=64)(È:∀a∈D,lT a.q.length=true)(b:bE)(ι:b.Ok)(d:List aj)(e:Nat)(p:Option Addr)(v:Nat)(É:p=none->e=0/\v=0)(f:Int)(κ:Nat)(i:World)(μ:bn i)(Ê:gZ i κ D)(Ë:kD i p e d):
  Calls prog 65 #[.pointer (some ⟨κ,0,none⟩),.agg (aN b (.slice p e v)).toArray,.int .i64 f] i (JB h b d f i):=by
 obtain⟨P,Q⟩:=aS (i.alloc (.cells (aN b (.slice p e v)).toArray 39))
 have w:Hid (fC P i.heap.size b p e v d):=Q.out ▸ fC.new Ë
 have R:Hid (av i P):=Q.out ▸ Below.aJ i _
 have Ì:=Q.out
 have Í:=AA (λE=>jR ι E)
 have Î:=AA<|λν (ξ:av i ν)=>μ.below ξ μ.1
 have Ï:=AA<|λν (ξ:av i ν)=>Ê.below ξ
 have x:=AA ι
 have ø:=AA É
 have Ð:=AA Å
 have Ñ:=AA Æ
 have ù:=AA Ç
 have ú:=AA È
 clear Q μ Ê Ë ι É Å Æ Ç È
 by_cases K:f < 1
 ·have j:Hid (iq h b d f=(none,1)):=by show _=_;unfold iq;rw[if_pos (.inl K)]
  (go_enter Bn,ntmps65);go_wp2_with fail;go_ret2;exact mQ j R rfl
 by_cases ο:16 < f
 ·have j:Hid (iq h b d f=(none,1)):=by show _=_;unfold iq;rw[if_pos (.inr ο)]
  have û:=eq_false K;clear K;(go_enter Bn,ntmps65);go_wp2_with fail;go_ret2;exact mQ j R rfl
 have û:=eq_false K
 have Ģ:=eq_false ο
 have Ò:Hid (¬(f < 1\/16 < f)):=λb=>by rcases b with b | b<;>contradiction
 clear K ο
 obtain⟨ü,q⟩:=aS ((lI b d).2)
 by_cases ρ:¬(ü=0)
 ·have j:Hid (iq h b d f=(none,8)):=by show _=_;unfold iq;rw[if_neg Ò.out,q.out,if_neg ρ]
  go_enter Bn,ntmps65
  go_wp2_with (first
  |((rw[aF 23];refine aM w.blk (Í _) Am ?_))
  |(go_at_call 125;refine(Db b x d e p v P w.rA).mono ?_;rw[q.out];rintro c Ó ⟨ý,rfl,y,-⟩;have S:=aQ R y;have F:=AA (w.below y);have Ô:=F.row x;clear y Ì))
  go_ret2;exact mQ j S rfl
 have þ:=Decidable.not_not.1 ρ
 subst þ
 clear ρ
 obtain⟨Õ,m,Ö⟩:e<=16/\∃m,Hid (bK eZ d=some m):=by
  rcases qM b d e w.rA.len with⟨-,c⟩ |⟨-,-,c⟩ |⟨-,-,c⟩ |⟨-,-,-,-,c⟩ |⟨-,-,ÿ,m,Ā,c⟩
  ·have:=q.out;rw[c]at this;cases this
  ·have:=q.out;rw[c]at this;cases this
  ·have:=q.out;rw[c]at this;cases this
  ·have:=q.out;rw[c]at this;cases this
  ·exact⟨ÿ,m,Ā⟩
 have Ø:=AA Õ
 clear Õ
 have T:Hid (iq h b d f=L9 (nJ h b m) f):=by show _=_;unfold iq;rw[if_neg Ò.out,q.out,if_pos rfl,Ö.out];rfl
 obtain⟨ā,l⟩:=aS (nJ h b m)
 rw[l.out]at T
 obtain⟨ģ,Ă,ă,Ą,ą⟩:=bV O5
 go_enter Bn,ntmps65
 go_upto_region 8 with(first
  |((rw[aF 23];refine aM w.blk (Í _) Am ?_))
  |(go_at_call 125;refine(Db b x d e p v P w.rA).mono ?_;rw[q.out];rintro c Ó ⟨ý,rfl,y,-⟩;have S:=aQ R y;have F:=AA (w.below y);have Ô:=F.row x;clear y Ì)
  |(go_at_call 126;refine(MK d e (aC Ø) p v Ó F.rA ø).mono ?_;rintro c U ⟨Ć,Ĥ,ĥ,rfl,σ,Ù,τ⟩;rw[Ö.out]at σ;obtain⟨ć,rfl⟩:=JY σ;rw[ć];have Ú:=aQ S τ;have Ĉ:=AA (F.below τ);have ĉ:Hid (kD U Ć e m):=(by obtain⟨Û,Ü,υ,-,-,-,a,-⟩:=Ù.reads;injection υ with υ _ Ċ;subst υ Ċ;exact a);clear σ Ù τ S F Ô))
 have Ý:Hid ((prog.info? 36).map (·.size)=some (aI b).length):=by show _=_;rw[bQ x.out];exact iT
 go_wp2_with fail
 go_loopw [12,37] (λċ Č wr=>∃(g k V:Nat) (W:Option Addr) (r:List aj),Č=.int .i64 (g:Int)/\ċ=.slice W k V/\Hid (g<=e)/\Hid (k<=g)/\Hid (r.length=k)/\Hid (∀X∈r,X.length=32)/\Hid (World.ownsRow wr U.heap.size 23 32 (.slice W k V) k (r.flatMap ak))/\Hid (ā=(nJ h b (m.drop g)).map (r++·))/\Hid (av U wr)) (λ_ E _=>e - (intOf E).toNat)
 case atStart=>exact⟨0,0,0,none,[],rfl,rfl,AX _,AJ _,rfl,(λX hd=>by cases hd),Aa _ _ _ _,(by show _=_;rw[<-l.out,List.drop_zero];simp),Below.refl _ _⟩
 case round=>
  obtain⟨g,k,V,W,r,rfl,rfl,č,Y,L,φ,χ,z,s⟩:=hrel;have Ħ:(g:Int)<=16:=dn č Ø;have ħ:(0:Int)<=(g:Int):=ah;have Ď:=AA (Ĉ.below s);have Z:=AA (ĉ.below s);have A:=aQ Ú s;by_cases α:g < e
  ·have ď:(g:Int) < (e:Int):=ah
   have β:=AA α;obtain⟨a,hx⟩:∃a,Hid (m[g]?=some a):=⟨_,AV (by rw[Z.out.len];exact α)⟩;have G:=AA (Z.all a (Ab hx));obtain⟨Ĩ,ĩ,Đ,Ī,Þ⟩:=Z.at_ hx;subst Đ;have đ:=AA Þ;(have Ē:Hid ((prog.info? 57).map (·.size)=some (ak a).length):=by show _=_;rw[aB,G.out];exact kK);have s1:=AA (lm a G);have ē:=AA (jv a G);have Ĕ:=AA (jH a);have M:=AA (mU G);(have ß:Hid ((prog.info? 23).map (·.size)=some (ak (eZ a)).length):=by show _=_;rw[aB,M.out];exact DY);(have ĕ:Hid (∀E∈[ak (eZ a)],E.length=32):=λE z=>by simp only[List.mem_singleton]at z;rw[z,aB,M.out]);clear Þ α
   go_upto_region 12 with(first
  |((rw[aF 40];refine bS đ Ē Af ?_))
  |(rw[iE 57 14];refine zH (o:=⟨none,_,_,_,_,_⟩) rfl 57 (.tmp 14) (.tmp 40) rfl wr.heap.size (ak a).toArray rfl rfl 57 kW (aL.new wr _ _) s1 ē Ĕ ?_;intro à á â;have ψ:=AA<|HY â;have γ:=á;clear â á;obtain⟨ã,Ė⟩:=aS (wr.heap.size);rw[Ė.out]at γ ⊢)
  |((rw[aF 43];refine vC (ã) (0) (ak (eZ a)) (λω u Γ=>(γ.cell (0+ω)).trans (by rw[List.getElem?_toArray];exact uf Γ)) ß AB ?_))
  |(go_at_call 127;refine(Ti D ù Ñ (eZ a) M κ à (Ï à (A.trans (ψ.mono A.size)))).mono ?_;intro c n hF;obtain⟨Δ,ī,rfl,ė⟩:=NI hF;have H:=aQ ψ Δ;have Θ:=aQ A H;have I:=bf Δ γ;have δ:=AA (Ď.below H);clear Δ hF ψ γ))
   rcases ė with⟨ä,rfl⟩ |⟨t,ε,å,rfl⟩
   ·have Ξ:=AA<|l.symm.trans (JL (l.trans z) hx (Qa Ð ä))
    have Ę:=AA (dz χ (H));have æ:=O7 n none 0 0;clear ä;go_wp2_with fail;go_roundw
    case rel=>exact⟨g+1,k,V,W,r,by go_num,rfl,β,Nat.le_succ_of_le Y,L,φ,Ę,Ξ,s.trans (H.mono s.size)⟩
    case measure=>(have:=β.out;simp[intOf];omega)
   ·have ç:=AA (P9 Ð Ñ ε å)
    obtain⟨_,_,-,-,-,è⟩:=Ï.out n Θ;obtain⟨N,Φ,Ψ⟩:=è t ε;have é:=yZ (ú t ε);obtain⟨ę,Ě,ê,-⟩:=N.2 (aC é.1);obtain⟨ζ,Ω⟩:=aS (t.q.length);obtain⟨ë,ì⟩:∃ë,t.A=ë:=⟨_,rfl⟩;rw[Ω.out]at N Φ Ψ ⊢;rw[ì]at N Ψ ê ⊢;subst ê;have í:=AA N;have À:=AA Φ;obtain⟨J,î⟩:∃J,t.c=J:=⟨_,rfl⟩;rw[î]at À ⊢;obtain⟨ě,η⟩:=aS (fE b a t.q);clear ε å è N Φ Ψ é ì î;have æ:(binOp .eql 27 (.slice (some ⟨ę,Ě,none⟩) ζ J) (.slice none 0 0)).run prog n=.ok (.bool false) n:=O7 n _ ζ J;go_upto_region 13 with fail;clear æ;by_cases ï:ě=0
    ·subst ï
     (have Ξ:=AA<|l.symm.trans (JK (l.trans z) hx ç η));(have Ĝ:Hid (k+1<=maxLen):=by show _<=_;have:=Y.out;unfold maxLen;omega);have ĝ:Hid ((k+1)*32<=140737488355328):=by show _<=_;have:=Y.out;omega
     go_wp2_with (first
  |((rw[aF 48];refine bS δ.head Ý AQ ?_))
  |((rw[aF 49];refine aM I s1 Af ?_))
  |(go_at_call 128;refine(tJ b x a G t.q ζ Ω _ J n (Î n Θ) í À (λc=>by cases c)).mono ?_;rw[η.out];rintro c B ⟨rfl,C⟩;have O:=aQ H C;have ð:=aQ A O;have ñ:=bf C I;clear C I δ)
  |((rw[aF 55];refine vC (ã) (0) (ak (eZ a)) (λω u Γ=>(ñ.cell (0+ω)).trans (by rw[List.getElem?_toArray];exact uf Γ)) ß AB ?_))
  |(rw[bY 56];refine dL (o:=⟨some 56,_,_,_,_,_⟩) rfl 44 23 1 _ rfl 32 aR [ak (eZ a)] Ac DY Oi rfl aR aR ĕ rfl ?_;have ò:Hid (ax (B.alloc (.cells ([ak (eZ a)].flatten).toArray 23)) 32 (some ⟨B.heap.size,0,none⟩) 1 (ak (eZ a))):=EP B (by rw[aB,M.out]);have θ:Hid (av wr (B.alloc (.cells ([ak (eZ a)].flatten).toArray 23))):=O.alloc O.size _;have Á:=AA (dz χ θ);have Â:Hid (U.heap.size<=(B.alloc (.cells ([ak (eZ a)].flatten).toArray 23)).heap.size):=(by have Ĭ:=s.size;have ĭ:=θ.size;show _<=_;omega);have ó:=AA<|s.trans (θ.mono s.size);obtain⟨ô,Ğ⟩:∃ô,B.alloc (.cells ([ak (eZ a)].flatten).toArray 23)=ô:=⟨_,rfl⟩;rw[Ğ]at ò θ Á Â ó ⊢)
  |(rw[bY 57];refine iL (.tmp 53) (.tmp 56) Ac Ă ă Ą ą Á ò (λc=>by cases c) (aY _) Ĝ ĝ Â ?_;intro Į į Ã;have Ä:=Hl Ã;have ğ:=AA<|Ã.below ó Â (λĠ c=>R6 Á Ġ c);obtain⟨Û,Ü,rfl,-⟩:=Own.reads Ä;have ġ:=AA Ä;clear Ã Ä))
     go_roundw
     case rel=>exact⟨g+1,k+1,Ü,Û,r++[eZ a],by go_num,rfl,β,Nat.succ_le_succ Y,(by show _=_;rw[List.length_append,L.out];rfl),(λX hd=>by rcases Aj.1 hd with hd | hd;exact φ X hd;simp only[List.mem_singleton]at hd;rw[hd];exact M),ġ,Ξ,ğ⟩
     case measure=>(have:=β.out;simp[intOf];omega)
    ·have j:Hid (iq h b d f=(none,161)):=by show _=_;rw[T.out,<-l.out,Ol (l.out.trans z.out) hx.out ç.out (η.out ▸ ï)];rfl
     go_wp2_with (first
  |((rw[aF 48];refine bS δ.head Ý AQ ?_))
  |((rw[aF 49];refine aM I s1 Af ?_))
  |(go_at_call 128;refine(tJ b x a G t.q ζ Ω _ J n (Î n Θ) í À (λc=>by cases c)).mono ?_;rw[η.out];rintro c B ⟨rfl,C⟩;have O:=aQ H C;have ð:=aQ A O;have ñ:=bf C I;clear C I δ))
     go_ret2
     exact mQ j ð rfl
  ·have ď:¬((g:Int) < (e:Int)):=ah
   (have õ:=AA<|l.symm.trans (JM (l.trans z) (by rw[Z.out.len];omega)));clear α;by_cases ö:(k:Int) < f
   ·have j:Hid (iq h b d f=(none,7)):=by show _=_;rw[T.out,õ.out];show(if _ then _ else _)=_;rw[if_pos (L.out ▸ ö)]
    go_wp2_with fail;go_ret2;exact mQ j A rfl
   ·have j:Hid (iq h b d f=(some r,0)):=by show _=_;rw[T.out,õ.out];show(if _ then _ else _)=_;rw[if_neg (L.out ▸ ö)]
    go_wp2_with fail;go_ret2;exact mQ j A ⟨φ,by rw[L.out];exact cO χ Ú.size⟩
