import Derived.Test.YtgldkfaiofkhbaaGreatDoorZ21
namespace Go.Proofs.YtgldkfaiofkhbaaGreatDoor
open Go Go.RowKit Go.Proofs.Tryz
set_option maxRecDepth 100000
set_option maxHeartbeats 8000000
theorem Ld(c:Array Value)(a:Int)(h0:c[0]?=some (.int .i64 a))(b:World):
  bq 294 #[.agg c] b (.bool (decide (1<=a/\a<=1099511627776))):=by
 have d:=AA<|Below.aJ b (.cells c 50)
 have e:(b.alloc (.cells c 50)).cell? ⟨b.heap.size,0,none⟩=some (.int .i64 a):=by rw[(aL.new b _ _).cell 0];exact h0
 clear h0
 by_cases b:1<=a
 ·by_cases c:a<=1099511627776
  ·rw[decide_eq_true ⟨b,c⟩]
   (go_enter func294,ntmps294);go_wp2_with fail;go_ret;exact⟨rfl,d⟩
  ·rw[decide_eq_false (λa=>c a.2)]
   (go_enter func294,ntmps294);go_wp2_with fail;go_ret;exact⟨rfl,d⟩
 ·rw[decide_eq_false (λa=>b a.1)]
  (go_enter func294,ntmps294);go_wp2_with fail;go_ret;exact⟨rfl,d⟩
theorem rP(c:Array Value)(a:Int)(h0:c[0]?=some (.int .i64 a))(b:World):
  bq 271 #[.agg c] b (.bool (decide (1<=a/\a<=1099511627776))):=by
 have d:=AA<|Below.aJ b (.cells c 50)
 have e:(b.alloc (.cells c 50)).cell? ⟨b.heap.size,0,none⟩=some (.int .i64 a):=by rw[(aL.new b _ _).cell 0];exact h0
 clear h0
 by_cases b:1<=a
 ·by_cases c:a<=1099511627776
  ·rw[decide_eq_true ⟨b,c⟩]
   (go_enter Br,ntmps271);go_wp2_with fail;go_ret;exact⟨rfl,d⟩
  ·rw[decide_eq_false (λa=>c a.2)]
   (go_enter Br,ntmps271);go_wp2_with fail;go_ret;exact⟨rfl,d⟩
 ·rw[decide_eq_false (λa=>b a.1)]
  (go_enter Br,ntmps271);go_wp2_with fail;go_ret;exact⟨rfl,d⟩
theorem HV(a:BitVec 8)(b:Nat)(f:b < 8):∃c d e:Nat,a.toNat / 2 ^ b=c/\c % 2=e/\(b8 a).tdiv (d:Int)=(c:Int)/\(c:Int).tmod 2=(e:Int)/\(2:Int) ^ b=(d:Int)/\IntKind.i64.wrap (d:Int)=(d:Int)/\IntKind.i64.wrap (b8 a)=b8 a/\wrap64 (b8 a)=b8 a/\¬d=0/\wrap64 (d:Int)=(d:Int)/\IntKind.i64.wrap (c:Int)=(c:Int)/\wrap64 (c:Int)=(c:Int)/\IntKind.i64.wrap (e:Int)=(e:Int):=by
 have e:a.toNat / 2 ^ b < 256:=CU (Nat.div_le_self _ _) a.isLt;have e:=Nat.two_pow_pos b;have e:2 ^ b < 256:=Nat.pow_lt_pow_right aR f
 have e:(b8 a).tdiv ((2 ^ b:Nat):Int)=((a.toNat / 2 ^ b:Nat):Int):=by
  rw[Int.tdiv_eq_ediv_of_nonneg (kz a)];unfold b8;simp
 (have f:(2:Int) ^ b=((2 ^ b:Nat):Int):=by simp);have g:=kz a;have g:=j3 a;generalize a.toNat / 2 ^ b=c at*;generalize 2 ^ b=d at*;exact⟨c,d,c % 2,rfl,rfl,e,by rw[Int.tmod_eq_emod_of_nonneg ah];omega,f,AO _ ah,AO _ ah,IntWalk.wrap64_in _ ah,ah,IntWalk.wrap64_in _ ah,AO _ ah,IntWalk.wrap64_in _ ah,AO _ ah⟩
theorem uI:∀a:Fin 256,bits .and .u8 (a.val:Int) 1=((a.val % 2:Nat):Int)/\bits .and .i64 (a.val:Int) 1=((a.val % 2:Nat):Int):=by decide+kernel
theorem TR(a:BitVec 8)(b:Nat):b8 a / 2 ^ b=((a.toNat / 2 ^ b:Nat):Int):=by
 unfold b8;simp
theorem vJ(a:BitVec 8)(b:Nat):a.toNat / 2 ^ b < 256:=CU (Nat.div_le_self _ _) a.isLt
theorem VP(d:aj)(n:d.length=32)(e:Nat)(o:e < 256)(b:World):
  bq 282 #[.agg (ak d).toArray,.int .i64 (e:Int)] b (.int .i64 (Ff d e:Nat)):=by
 obtain⟨a,j⟩:∃a,e / 8=a:=⟨_,rfl⟩
 obtain⟨g,k⟩:∃g,e % 8=g:=⟨_,rfl⟩
 have c:a < 32:=ah
 have c:g < 8:=ah
 obtain⟨f,hx⟩:∃f,d[a]?=some f:=⟨_,AV ah⟩
 have p:=AA<|Below.aJ b (.cells (ak d).toArray 23)
 have c:(b.alloc (.cells (ak d).toArray 23)).cell? ⟨b.heap.size,a,none⟩=some (.int .u8 (b8 f)):=by rw[(aL.new b _ _).cell a,List.getElem?_toArray];show(ak d)[a]?=_;unfold ak;rw[List.getElem?_map,hx];rfl
 obtain⟨c,l⟩:∃c,7 - g=c:=⟨_,rfl⟩
 obtain⟨b,h⟩:∃b,f.toNat / 2 ^ c=b:=⟨_,rfl⟩
 have i:b < 256:=by rw[<-h];exact vJ f c
 have m:(e:Int).tdiv 8=(a:Int):=by rw[Int.tdiv_eq_ediv_of_nonneg ah];omega
 have m:(e:Int).tmod 8=(g:Int):=by rw[Int.tmod_eq_emod_of_nonneg ah];omega
 have m:IntKind.i64.wrap (7 - (g:Int))=(c:Int):=by rw[IntWalk.i64_in _ ah];omega
 have g:b8 f / 2 ^ c=(b:Int):=by rw[TR,h]
 have m:bits .and .i64 (b:Int) 1=((b % 2:Nat):Int):=(uI ⟨b,i⟩).2
 obtain⟨g,i⟩:∃g,b % 2=g:=⟨_,rfl⟩
 rw[i]at m
 have m:Ff d e=g:=by
  unfold Ff;rw[j,k,l,List.getD_eq_getElem?_getD,hx];show f.toNat / 2 ^ c % 2=_;rw[h,i]
 rw[m]
 have d:(0:Int)<=(a:Int):=ah
 have d:(a:Int) < 32:=ah
 have d:(c:Int) < 8:=ah
 have d:(0:Int)<=(c:Int):=ah
 have d:=AO (a:Int) ah
 have d:=IntWalk.wrap64_in (a:Int) ah
 have a:(b:Int) < 256:=ah
 have a:=AO (b:Int) ah
 have a:=IntWalk.wrap64_in (b:Int) ah
 have a:c < 8:=ah
 clear j k l h i m hx n o
 go_enter func282,ntmps282
 go_wp2_with fail
 go_ret
 exact⟨rfl,p⟩
theorem MS(d:aj)(r:d.length=32)(e:Nat)(s:e < 256)(b:World):
  bq 272 #[.agg (ak d).toArray,.int .i64 (e:Int)] b (.int .i64 (Ff d e:Nat)):=by
 obtain⟨a,k⟩:∃a,e / 8=a:=⟨_,rfl⟩
 obtain⟨f,l⟩:∃f,e % 8=f:=⟨_,rfl⟩
 have c:a < 32:=ah
 have c:f < 8:=ah
 obtain⟨g,hx⟩:∃g,d[a]?=some g:=⟨_,AV ah⟩
 obtain⟨h,i⟩:=bG (b.alloc (.cells (ak d).toArray 23))
 have m:Hid (av b h):=i.out ▸ Below.aJ b _
 have t:Hid (b.heap.size < h.heap.size):=by show _ < _;rw[i.out];simp
 have u:Hid (h.cell? ⟨b.heap.size,a,none⟩=some (.int .u8 (b8 g))):=by show _=_;rw[i.out,(aL.new b _ _).cell (a)];exact(by rw[List.getElem?_toArray];show(ak d)[a]?=_;unfold ak;rw[List.getElem?_map,hx];rfl)
 obtain⟨c,n⟩:∃c,7 - f=c:=⟨_,rfl⟩
 have j:IntKind.i64.wrap (7 - (f:Int))=(c:Int):=by rw[IntWalk.i64_in _ ah];omega
 have o:c < 8:=ah
 have j:(0:Int)<=(a:Int):=ah
 have j:(a:Int) < 32:=ah
 have j:(c:Int) < 8:=ah
 have j:(0:Int)<=(c:Int):=ah
 have j:=AO (a:Int) ah
 have j:=IntWalk.wrap64_in (a:Int) ah
 have j:=AO (c:Int) ah
 have j:(e:Int).tdiv 8=(a:Int):=by rw[Int.tdiv_eq_ediv_of_nonneg ah];omega
 have j:(e:Int).tmod 8=(f:Int):=by rw[Int.tmod_eq_emod_of_nonneg ah];omega
 obtain⟨q,p,v,f,j,w,x,y,z,A,B,C,D,E,F,G⟩:=HV g c o
 replace f:=AA f
 replace j:=AA j
 have q:Ff d e=v:=by
  unfold Ff;rw[k,l,n,List.getD_eq_getElem?_getD,hx];show g.toNat / 2 ^ c % 2=_;rw[f.out,j.out]
 rw[q]
 clear q
 clear f j k s hx o l r n
 go_enter func272,ntmps272
 go_upto_region 1 with fail
 change Code.wp _ _ _ _ (b.alloc (.cells (ak d).toArray 23))
 rw[<-i.out]
 have d:=AA (λc (e:av h c)=>(e.cell (p:=⟨b.heap.size,a,none⟩) t).trans u)
 refine cB (aA h) (aA.jD ((Below.refl _ _).drew)) ?_
 iterate 3 refine aG ?_
 refine bC (λc a=>d c a.below) ?_
 iterate 8 refine aG ?_
 refine bR ?_
 intro b a
 have b:=AA<|m.trans (a.below.mono m.size)
 go_wp2_with fail
 go_ret
 exact⟨rfl,b⟩
theorem UD(i:Array Value)(a:Bool)(d:Int)(ch f:aj)(u:f.length=32)(e:Option Addr)(g h:Nat)(hs:Sp i a d ch f e g h)(c:Nat)(w:c < 256)(b:World):
  bq 270 #[.agg i,.int .i64 (c:Int)] b (.bool (dQ f c)):=by
 obtain⟨a,n⟩:∃a,c / 8=a:=⟨_,rfl⟩
 obtain⟨e,o⟩:∃e,c % 8=e:=⟨_,rfl⟩
 have d:a < 32:=ah
 have d:e < 8:=ah
 obtain⟨g,hx⟩:∃g,f[a]?=some g:=⟨_,AV ah⟩
 obtain⟨h,j⟩:=bG (b.alloc (.cells i 292))
 have q:Hid (av b h):=j.out ▸ Below.aJ b _
 have x:Hid (b.heap.size < h.heap.size):=by show _ < _;rw[j.out];simp
 have y:Hid (h.cell? ⟨b.heap.size,34+a,none⟩=some (.int .u8 (b8 g))):=by show _=_;rw[j.out,(aL.new b _ _).cell (34+a)];exact(hs.bits a _ (by unfold ak;rw[List.getElem?_map,hx];rfl))
 obtain⟨d,r⟩:∃d,e=d:=⟨_,rfl⟩
 have s:d < 8:=ah
 have k:(0:Int)<=(a:Int):=ah
 have k:(a:Int) < 32:=ah
 have k:(d:Int) < 8:=ah
 have k:(0:Int)<=(d:Int):=ah
 have k:=AO (a:Int) ah
 have k:=IntWalk.wrap64_in (a:Int) ah
 have k:=AO (d:Int) ah
 have k:(c:Int).tdiv 8=(a:Int):=by rw[Int.tdiv_eq_ediv_of_nonneg ah];omega
 have k:(c:Int).tmod 8=(e:Int):=by rw[Int.tmod_eq_emod_of_nonneg ah];omega
 obtain⟨t,p,k,l,m,z,A,B,C,D,E,F,G,H,I,J⟩:=HV g d s
 replace l:=AA l
 replace m:=AA m
 have t:dQ f c=(k==1):=by
  unfold dQ;rw[n,o,List.getD_eq_getElem?_getD,hx];show(g.toNat / 2 ^ e % 2==1)=_;rw[r,l.out,m.out]
 rw[t]
 clear t
 obtain⟨c,g⟩:∃c,(k==1)=c:=⟨_,rfl⟩
 rw[g]
 have f:((k:Int)==1)=c:=by
  rw[<-g]
  rcases Nat.decEq k 1 with f | f
  ·rw[beq_eq_false_iff_ne.2 ah,beq_eq_false_iff_ne.2 f]
  ·subst f;rfl
 obtain rfl:e=d:=r
 clear l m n w hx s o u hs g
 go_enter func270,ntmps270
 go_upto_region 1 with fail
 change Code.wp _ _ _ _ (b.alloc (.cells i 292))
 rw[<-j.out]
 have e:=AA (λd (f:av h d)=>(f.cell (p:=⟨b.heap.size,34+a,none⟩) x).trans y)
 refine cB (aA h) (aA.jD ((Below.refl _ _).drew)) ?_
 iterate 4 refine aG ?_
 refine bC (λd a=>e d a.below) ?_
 iterate 6 refine aG ?_
 refine aG (v:=.bool c) ?_
 refine aG (v:=.bool c) ?_
 refine bR ?_
 intro b a
 have b:=AA<|q.trans (a.below.mono q.size)
 go_wp2_with fail
 go_ret
 exact⟨rfl,b⟩
theorem Yu(a:Int)(ch:aj)(c:ch.length=32)(b:World):(binOp .eql 50 (.agg (dW a ch).toArray) (.agg Jk)).run prog b=.ok (.bool (decide (a=0/\ch=eB))) b:=by
 have:=QA a 0 ch eB c yA b;rwa[show(dW 0 eB).toArray=Jk by kernel_rfl]at this
theorem IY{f:Bool}{cnt:Int}{ch d:aj}{n:Nat}(a:¬fF d=n):mE f cnt ch d n=false:=by unfold mE;rw[decide_eq_false a];rfl
theorem EY{f:Bool}{cnt:Int}{ch d:aj}{n:Nat}(a:fF d=n):mE f cnt ch d n=xq f cnt ch:=by unfold mE;rw[decide_eq_true a];rfl
theorem NG(l:Array Value)(f:Bool)(cnt:Int)(ch d:aj)(F:ch.length=32)(hd:d.length=32)(W:Option Addr)(n X:Nat)(hs:Sp l f cnt ch d W n X)(g:World):
  bq 279 #[.agg l] g (.bool (mE f cnt ch d n)):=by
 obtain⟨i,G⟩:=bG (g.alloc (.cells l 292))
 have j:Hid (av g i):=G.out ▸ Below.aJ g _
 have H:Hid (aL i g.heap.size 292 l):=G.out ▸ aL.new g _ _
 have k:=AA<|λb (m:av i b) h v (o:l[h]?=some v)=>((show aL b g.heap.size 292 l from(m.block _ H.lt).trans H).cell h).trans o
 have O:=AA<|λh v (o:(ak d)[h]?=some v)=>k i (Below.refl _ _) (34+h) v (hs.bits h v o)
 have ε:=k i (Below.refl _ _) 0 _ hs.found
 have A:=AA hs.sums
 have P:=AA hs.ent
 have Q:Hid ((prog.info? 50).map (·.size)=some (dW cnt ch).length):=by show _=_;rw[dV F];exact DX
 have R:Hid ((prog.info? 22).map (·.size)=some (ak d).length):=by show _=_;rw[aB,hd];exact Uu
 have I:=AA (Yu cnt ch F)
 have B:Hid (∀(a:Nat) (e:BitVec 8),d[a]?=some e->a < 32->∀g,(Instr.index 22 (.agg (ak d).toArray) (.int .i64 (a:Int))).run prog g=.ok (.int .u8 (b8 e)) g):=λa e u J g=>
  oZ (ak d).toArray .i64 (a:Int) (.int .u8 (b8 e)) underlying22 (λ_=>rfl) (lq underlying5) ah ah (by rw[List.getElem?_toArray];show(ak d)[a]?=_;unfold ak;rw[List.getElem?_map,u];rfl) g
 replace hd:=AA hd
 clear H hs F
 obtain⟨ζ,K⟩:=aS ((ak d).toArray)
 rw[K.out]at B
 go_enter func279,ntmps279
 go_upto_region 1 with fail
 change Code.wp _ _ _ _ (g.alloc (.cells l 292))
 rw[<-G.out]
 go_wp2_with ((rw[aF 7];refine bS O R underlying22 ?_);rw[K.out])
 go_loop [3,8] (λn v=>∃a:Nat,v=.int .i64 (a:Int)/\n=.int .i64 (fF (d.take a):Nat)/\a<=32) (λ_ v=>32 - (intOf v).toNat)
 case atStart=>exact⟨0,rfl,rfl,ah⟩
 case round=>
  obtain⟨a,rfl,rfl,J⟩:=hrel;by_cases C:a < 32
  ·obtain⟨e,hx⟩:∃e,Hid (d[a]?=some e):=⟨_,AV (hd.out ▸ C)⟩
   have η:=B a e hx C;have L:=AA (rR d a e hx);have m:=oG (d.take a);have S:=qa e;rw[List.length_take,hd.out]at m;obtain⟨p,q⟩:=aS (fF (d.take a));rw[q.out]at m L;rw[q.out];have θ:(p:Int)<=256:=ah;have Y:=kz e;have ι:=j3 e;(have Z:Hid ((b8 e).toNat=e.toNat):=by show _=_;unfold b8;simp);obtain⟨α,T⟩:=aS (Lib.onesCount e.toNat);rw[T.out]at S L;have κ:(α:Int)<=8:=ah;have μ:(a:Int) < 32:=ah;have ν:(0:Int)<=(a:Int):=ah;(have U:Hid (a+1<=32):=by show _<=_;omega);clear J C B S m;go_wp2_with (go_at_call 243;refine(Tryz.bits_OnesCount8 (b8 e) _ Y ah).mono ?_;rw[Z.out,T.out];rintro β i ⟨rfl,rfl⟩)
   go_round
   case rel=>exact⟨a+1,by go_num,by rw[L.out];go_num,U⟩
   case measure=>(have:=U.out;simp[intOf];omega)
  ·have V:Hid (fF (d.take a)=fF d):=by show _=_;rw[List.take_of_length_le (by rw[hd.out];omega)]
   have ξ:(32:Int)<=(a:Int):=ah;rw[V.out];obtain⟨p,q⟩:=aS (fF d);have M:=AA (λ(u:¬p=n)=>IY (f:=f) (cnt:=cnt) (ch:=ch) (d:=d) (n:=n) (q.out ▸ u));have D:=AA (λ(u:p=n)=>EY (f:=f) (cnt:=cnt) (ch:=ch) (d:=d) (n:=n) (q.out ▸ u));rw[q.out];obtain⟨t,w⟩:∃γ,xq f cnt ch=γ:=⟨_,rfl⟩;rw[w]at D;clear C J V q B O R K;by_cases x:p=n
   ·have y:=AA (D x)
    (have z:Hid (((p:Int)==(n:Int))=true):=by show _=_;subst x;exact beq_self_eq_true _);clear M D x;cases f with
    | true=>
     have E:Hid (decide (1<=cnt/\cnt<=1099511627776)=t):=w;clear w I;go_upto_region 8 with fail;refine p9 (aA i) (aA.jD (Below.refl _ _)) ?_;(iterate 2 refine aG ?_);refine bC (λb c=>k b c.below 66 _ A) ?_;refine aG ?_;refine bC (λb c=>z.out) ?_;(iterate 2 refine aG ?_);refine dh g.heap.size (1) (dW cnt ch) (λb c=>λh v o=>k b c.below (1+h) v (P h v o)) Q Al ?_;refine cZ func294 (λb c=>(Ld (dW cnt ch).toArray cnt rfl b).mono (λβ ο ⟨δ,m⟩=>⟨by rw[δ,E.out],c.next m⟩)) ?_;refine aG (v:=.bool t) ?_;refine aG (v:=.bool t) ?_;refine bR ?_;intro N r;(have s:=AA<|j.trans (r.below.mono j.size));go_wp2_with fail;go_ret;exact⟨by rw[y.out];rfl,s⟩
    | false=>
     have E:decide (cnt=0/\ch=eB)=t:=w;rw[E]at I;clear w E;go_upto_region 9 with fail;refine p9 (aA i) (aA.jD (Below.refl _ _)) ?_;(iterate 2 refine aG ?_);refine bC (λb c=>k b c.below 66 _ A) ?_;refine aG ?_;refine bC (λb c=>z.out) ?_;(iterate 2 refine aG ?_);refine dh g.heap.size (1) (dW cnt ch) (λb c=>λh v o=>k b c.below (1+h) v (P h v o)) Q Al ?_;refine aG ?_;refine jr (λb c=>iN rfl rfl rfl qK (I.out b)) ?_;refine aG (v:=.bool t) ?_;refine aG (v:=.bool t) ?_;refine bR ?_;intro N r;(have s:=AA<|j.trans (r.below.mono j.size));go_wp2_with fail;go_ret;exact⟨by rw[y.out];rfl,s⟩
   ·have y:=AA (M x)
    (have z:Hid (((p:Int)==(n:Int))=false):=by show _=_;exact beq_eq_false_iff_ne.2 ah);clear M D x;cases f with
    | true=>
     go_upto_region 8 with fail;refine p9 (aA i) (aA.jD (Below.refl _ _)) ?_;(iterate 2 refine aG ?_);refine bC (λb c=>k b c.below 66 _ A) ?_;refine aG ?_;refine bC (λb c=>z.out) ?_;(iterate 4 refine aG ?_);refine aG (v:=.bool false) ?_;refine aG (v:=.bool false) ?_;refine bR ?_;intro N r;(have s:=AA<|j.trans (r.below.mono j.size));go_wp2_with fail;go_ret;exact⟨by rw[y.out];rfl,s⟩
    | false=>
     go_upto_region 9 with fail;refine p9 (aA i) (aA.jD (Below.refl _ _)) ?_;(iterate 2 refine aG ?_);refine bC (λb c=>k b c.below 66 _ A) ?_;refine aG ?_;refine bC (λb c=>z.out) ?_;(iterate 5 refine aG ?_);refine aG (v:=.bool false) ?_;refine aG (v:=.bool false) ?_;refine bR ?_;intro N r;(have s:=AA<|j.trans (r.below.mono j.size));go_wp2_with fail;go_ret;exact⟨by rw[y.out];rfl,s⟩
theorem qD:prog.eqGuardType prog.depth 23=false:=by kernel_rfl
theorem F3(a:Int)(h0:0<=a)(b:a < 256):IntKind.u8.wrap a=a:=by
 simp only[IntKind.wrap,IntKind.bits,IntKind.signed];simp;omega
theorem Xj(b:BitVec 8)(c:Nat):∃a g:Nat,b.toNat / 2 ^ c % 2=g/\b8 b / 2 ^ c=(a:Int)/\bits .and .u8 (a:Int) 1=(g:Int)/\IntKind.u8.wrap (a:Int)=(a:Int)/\g < 2:=by
 have g:=vJ b c;have h:=TR b c;generalize b.toNat / 2 ^ c=a at*;exact⟨a,a % 2,rfl,h,(uI ⟨a,g⟩).1,F3 _ ah ah,ah⟩
def ic(w:World)(f:Bool)(cnt:Int)(ch d:aj)(n:Nat)(s:Int)(ds:List aj)(e:Ending)(w':World):Prop:=
 av w w'/\((mE f cnt ch d n=false/\e=.returned (.tuple #[.slice none 0 0,.int .i64 8]))\/(mE f cnt ch d n=true/\mY s d ds 256=none/\e=.returned (.tuple #[.slice none 0 0,.int .i64 170]))\/
  (mE f cnt ch d n=true/\∃l g c,mY s d ds 256=some l/\e=.returned (.tuple #[.slice (some ⟨g,0,none⟩) 256 c,.int .i64 0])/\j6 w' (some ⟨g,0,none⟩) 256 l/\256<=c))
section
variable {w w':World} {f:Bool} {cnt:Int} {ch d:aj} {n:Nat} {s:Int} {ds:List aj} {e:Ending}
theorem ic.form(a:av w w')(b:mE f cnt ch d n=false)(c:e=.returned (.tuple #[.slice none 0 0,.int .i64 8])):ic w f cnt ch d n s ds e w':=⟨a,.inl ⟨b,c⟩⟩
theorem ic.bad(a:av w w')(b:mE f cnt ch d n=true)(c:mY s d ds 256=none)(g:e=.returned (.tuple #[.slice none 0 0,.int .i64 170])):ic w f cnt ch d n s ds e w':=⟨a,.inr (.inl ⟨b,c,g⟩)⟩
theorem ic.good(g:av w w')(h:mE f cnt ch d n=true){a:List aj}{b c:Nat}(i:mY s d ds 256=some a)(j:e=.returned (.tuple #[.slice (some ⟨b,0,none⟩) 256 c,.int .i64 0]))(k:j6 w' (some ⟨b,0,none⟩) 256 a)(l:256<=c):ic w f cnt ch d n s ds e w':=⟨g,.inr (.inr ⟨h,a,b,c,i,j,k,l⟩)⟩
end
theorem D7{s:Int}{d:aj}{ds:List aj}{a:Nat}{b:List aj}{c:aj}(g:mY s d ds a=some b)(hx:Qm s d ds a=some c):mY s d ds (a+1)=some (b++[c]):=by
 show(match mY s d ds a with | none=>none | some b=>_)=_;rw[g];show(match Qm s d ds a with | none=>none | some c=>some (b++[c]))=_;rw[hx]
theorem wC{s:Int}{d:aj}{ds:List aj}{a:Nat}{b:List aj}(c:mY s d ds a=some b)(hx:Qm s d ds a=none)(g:a < 256):mY s d ds 256=none:=by
 have g:mY s d ds (a+1)=none:=by
  show(match mY s d ds a with | none=>none | some b=>_)=_;rw[c];show(match Qm s d ds a with | none=>none | some c=>some (b++[c]))=_;rw[hx]
 have:=G7 g (255 - a);rwa[show a+1+(255 - a)=256 by omega]at this
theorem I6{s:Int}{d:aj}{ds:List aj}{a:Nat}(b:dQ d a=false):Qm s d ds a=some (bU s a):=by unfold Qm;rw[if_neg (by rw[b];decide)]
theorem Ni{s:Int}{d:aj}{ds:List aj}{a:Nat}{x:aj}(b:dQ d a=true)(hx:ds[bg d a]?=some x):Qm s d ds a=if x=bU s a\/dP x (cu s)≠x then none else some x:=by
 unfold Qm;rw[if_pos b,List.getD_eq_getElem?_getD,hx];rfl
theorem yU{d:aj}{a:Nat}(b:dQ d a=true):bg d (a+1)=bg d a+1:=by show bg d a+_=_;rw[b];rfl
theorem wD{d:aj}{a:Nat}(b:dQ d a=false):bg d (a+1)=bg d a:=by show bg d a+_=_;rw[b];rfl
theorem GX{f:Bool}{cnt:Int}{ch d:aj}{n:Nat}(a:mE f cnt ch d n=true):fF d=n:=by
 by_cases b:fF d=n
 ·exact b
 ·rw[IY b]at a;cases a
theorem zO(q:Array Value)(f:Bool)(cnt:Int)(ch d:aj)(κ:ch.length=32)(hd:d.length=32)(A:Option Addr)(n c:Nat)(hs:Sp q f cnt ch d A n c)(s:Int)(ds:List aj)(w:World)(μ:bn w)(L:j6 w A n ds):
  Calls prog 255 #[.agg q,.int .i64 s] w λe w'=>ic w f cnt ch d n s ds e w':=by
 obtain⟨T,U⟩:=bG (w.alloc (.cells q 292))
 have ν:Hid (av w T):=U.out ▸ Below.aJ w _
 have V:Hid (aL T w.heap.size 292 q):=U.out ▸ aL.new w _ _
 have Ä:Hid ((prog.info? 292).map (·.size)=some q.size):=by show _=_;rw[hs.size];exact zM
 have hF:=AA<|λw'=>NG q f cnt ch d κ hd A n c hs w'
 have ξ:=AA<|λw' (B:av w w')=>La s w' (μ.below B μ.1)
 clear μ
 obtain⟨Ý,r⟩:∃ο,mE f cnt ch d n=ο:=⟨_,rfl⟩
 rw[r]at hF
 cases Ý with
 | false=>
  replace r:=AA r;clear ξ L hs κ hd;(go_enter func255,ntmps255);go_upto_region 1 with fail;change Code.wp _ _ _ _ (w.alloc (.cells q 292));rw[<-U.out]
  go_wp2_with (first
   |(rw[aF 10];refine aM V Ä Ak ?_)
   |(go_at_call 279;refine(hF T).mono ?_;rintro e Å ⟨rfl,t⟩;have O:=aQ ν t;clear t hF))
  go_ret2;exact ic.form O r rfl
 | true=>
  (have Þ:=AA<|GX r);replace r:=AA r;have ß:=AA hs.sums;have à:=AA hs.bits;have Æ:=AA hd;replace L:=AA L;clear hs κ hd;(go_enter func255,ntmps255);go_upto_region 1 with fail;change Code.wp _ _ _ _ (w.alloc (.cells q 292));rw[<-U.out]
  go_wp2_with (first
   |(rw[aF 10];refine aM V Ä Ak ?_)
   |(go_at_call 279;refine(hF T).mono ?_;rintro e Å ⟨rfl,t⟩;have O:=aQ ν t;have ρ:=bf t V;clear t hF)
   |(go_at_call 280;refine(ξ Å O).mono ?_;rintro e ò ⟨h,Ç,rfl,È,t⟩;obtain⟨W,á,É⟩:=vS.Nc È (tH s 257) (nX s 257);have Ê:=aQ O t;have Ë:=bf t ρ;have â:=λw=>vY (A:=some ⟨h,0,none⟩) (n:=257) (c:=Ç) (k:=256) ah 256 rfl w;have Ì:=AA<|Ad ρ.lt É;replace W:=AA W;have ã:=AA (show 256<=Ç by omega);clear È t ξ É á))
  clear â
  go_loopw [7,18] (λä C wr=>∃(a:Nat) (l:List aj),C=.int .i64 (a:Int)/\ä=.int .i64 (bg d a:Nat)/\Hid (a<=256)/\Hid (mY s d ds a=some l)/\Hid (vS wr h (l++(kF s 257).drop a))/\Hid (aL wr w.heap.size 292 q)/\Hid (av w wr)) (λ_ C _=>256 - (intOf C).toNat)
  case atStart=>exact⟨0,[],rfl,rfl,AX _,rfl,W,Ë,Ê⟩
  case round=>
   clear W Ë Ê ρ O V ν;obtain⟨a,l,rfl,rfl,å,E,X,Y,Z⟩:=hrel;by_cases Í:a < 256
   ·obtain⟨u,Î⟩:∃u,a / 8=u:=⟨_,rfl⟩
    obtain⟨D,Ï⟩:∃D,a % 8=D:=⟨_,rfl⟩;have ó:(a:Int) < 256:=ah;have ô:(0:Int)<=(a:Int):=ah;have õ:u < 32:=ah;have ö:D < 8:=ah;have ø:(0:Int)<=(u:Int):=ah;have ù:(u:Int) < 32:=ah;have ú:(D:Int) < 8:=ah;have û:(0:Int)<=(D:Int):=ah;have ü:=AO (u:Int) ah;have ý:=AO (D:Int) ah;have þ:=AO ((a:Int)+1) ah;(have ÿ:(a:Int).tdiv 8=(u:Int):=by rw[Int.tdiv_eq_ediv_of_nonneg ah];omega);(have Ā:(a:Int).tmod 8=(D:Int):=by rw[Int.tmod_eq_emod_of_nonneg ah];omega);obtain⟨x,hx⟩:∃x,d[u]?=some x:=⟨_,AV (by rw[Æ.out];omega)⟩;have ā:wr.cell? ⟨w.heap.size,34+u,none⟩=some (.int .u8 (b8 x)):=(Y.cell _).trans (à u _ (by unfold ak;rw[List.getElem?_map,hx];rfl));obtain⟨Ă,σ,Ð,ă,Ą,ą,Ñ⟩:=Xj x D
    have P:dQ d a=(σ==1):=by
     unfold dQ;rw[Î,Ï,List.getD_eq_getElem?_getD,hx];show(x.toNat / 2 ^ D % 2==1)=_;rw[Ð]
    (have M:=AA<|vv E);have α:Hid ((kF s 257)[a]?=some (bU s a)):=wK s ah;have j:=AA Í;clear Í Ð hx Î Ï;by_cases æ:σ=0
    ·subst æ
     (have β:=AA<|wD P);(have τ:=AA<|D7 E (I6 P));(have ç:Hid (vS wr h ((l++[bU s a])++(kF s 257).drop (a+1))):=by have:=X.out;rw[Si l _ a _ α.out]at this;exact this);clear P X α Ñ E;go_wp2_with fail;go_roundw
     case rel=>exact⟨a+1,_,by go_num,by rw[β.out],j,τ,ç,Y,Z⟩
     case measure=>(have:=j.out;simp[intOf];omega)
    ·obtain rfl:σ=1:=ah
     have γ:dQ d a=true:=P
     have υ:bg d a < n:=by
      rw[<-Þ.out,<-sZ d Æ.out];exact yV d γ j
     (have β:=AA<|yU γ);obtain⟨b,δ⟩:∃b,ds[bg d a]?=some b:=⟨_,AV (by rw[L.out.1];exact υ)⟩;have F:=AA (Ni (s:=s) γ δ);have v:=AA (L.2.1.at_ δ);have i:=AA (aP (x:=b) v);obtain⟨ο,o,rfl,Ò,φ⟩:=L.at_ δ;obtain⟨ε,Ó⟩:=aS (bg d a);rw[Ó.out]at υ φ β ⊢;(have è:=AA<|λk C (χ:(ak b)[k]?=some C)=>(Z.cell (p:=⟨ο,o+ε*32+k,none⟩) Ò).trans (φ k C χ));have Ć:=(Y.cell _).trans ß;obtain⟨m,Ô⟩:=aS (bU s a);have ψ:Hid (m.length=32):=Ô.out ▸ jL s a;rw[Ô.out]at α F;have ω:=AA (aP (x:=m) ψ);have Õ:=vw d a;rw[Ó.out]at Õ;have ć:(ε:Int) < (n:Int):=ah;have Ĉ:(0:Int)<=(ε:Int):=ah;have ĉ:=AO ((ε:Int)+1) (aC j);obtain⟨t1,Γ⟩:=aS (dP b (cu s));have Ö:Hid (t1.length=32):=Γ.out ▸ eT _ _ v (fD s).2;rw[Γ.out]at F
     have hcut:=AA<|λw'=>by
      have:=uo b v s w';rwa[Γ.out]at this
     obtain⟨Ċ,é⟩:=bG (wr);clear P γ φ Ò δ Ñ υ Õ é
     go_wp2_with (first
      |(rw[aF 35];refine bS è i.part AB ?_)
      |(rw[bA 23 9];refine dB (aL.new wr _ _) i.size i.zero i.one ?_;intro Q ζ Ø;have Δ:=AA (dx Ø);replace ζ:=AA ζ;clear Ø))
     have Θ:=AA (X.below Δ);(have Ξ:=AA<|λw' (B:av Q w') k C (χ:(ak m)[k]?=some C)=>(B.cell (p:=⟨h,a*32+k,none⟩) Θ.lt).trans (Θ.cell (WU l _ a m M α) k C χ));(have G:Hid (∀w',av Q w'->aL w' wr.heap.size 23 (ak b).toArray):=λw' B=>(B.block _ ζ.lt).trans ζ);have R:=aQ Z Δ;have ê:=bf Δ Y;by_cases K:b=m
     ·have η:Hid (∀w,(binOp .eql 23 (.agg (ak b).toArray) (.agg (ak m).toArray)).run prog w=.ok (.bool true) w):=λw=>by rw[rX b m v.out ψ.out w,decide_eq_true K]
      (have Φ:=AA<|wC E (by rw[F.out,if_pos (.inl K)]) j);clear F K;refine cB (aA Q) (aA.jD ((Below.refl _ _).drew)) ?_;refine gu (λw' g=>G w' g.below) i.size AB ?_;(iterate 3 refine aG ?_);refine dh h (a*32) (ak m) (λw' g=>Ξ w' g.below) ω.part AB ?_;refine jr (λw' g=>iN rfl rfl rfl qD (η w')) ?_;(iterate 7 refine aG ?_);refine bR ?_;intro H I;have J:=AA I.below;clear I;go_wp2_with fail;go_ret2;exact ic.bad (R.trans (J.mono R.size)) r Φ rfl
     ·have η:Hid (∀w,(binOp .eql 23 (.agg (ak b).toArray) (.agg (ak m).toArray)).run prog w=.ok (.bool false) w):=λw=>by rw[rX b m v.out ψ.out w,decide_eq_false K]
      by_cases N:t1=b
      ·have Ψ:Hid (∀w,(binOp .neq 23 (.agg (ak t1).toArray) (.agg (ak b).toArray)).run prog w=.ok (.bool false) w):=λw=>by rw[rT t1 b Ö.out v.out w,decide_eq_true N];rfl
       (have τ:=AA<|D7 E (by rw[F.out,if_neg (λa=>a.elim K (λa=>a N))]));clear F K N;refine cB (aA Q) (aA.jD ((Below.refl _ _).drew)) ?_;refine gu (λw' g=>G w' g.below) i.size AB ?_;(iterate 3 refine aG ?_);refine dh h (a*32) (ak m) (λw' g=>Ξ w' g.below) ω.part AB ?_;refine jr (λw' g=>iN rfl rfl rfl qD (η w')) ?_;refine aG ?_;refine gu (λw' g=>G w' g.below) i.size AB ?_;refine aG ?_;refine cZ BH (λw' g=>(hcut w').mono (λe ë ⟨Ω,B⟩=>⟨Ω,g.next B⟩)) ?_;refine gu (λw' g=>G w' g.below) i.size AB ?_;refine jr (λw' g=>iN rfl rfl rfl qD (Ψ w')) ?_;refine aG ?_;refine bR ?_;intro H I;have J:=AA I.below;clear I;have ì:=Θ.below J;have í:=bf J ê;have î:=aQ R J;have ï:=AA (G H J);obtain⟨À,y,θ,Á⟩:=ì;replace θ:=AA θ;(have Â:(l++(kF s 257).drop a).length=257:=by rw[Vd l _ a M.out (by rw[nX];have:=j.out;omega),nX]);have S:=Á.lD À a (by rw[Â];have:=j.out;omega) b v;rw[OB l _ a b M.out (by rw[nX];have:=j.out;omega)]at S
       have Ù:Hid (jk ((l++[b])++(kF s 257).drop (a+1))):=by
        show jk _;rw[<-OB l _ a b M.out (by rw[nX];have:=j.out;omega)];intro z Ã
        rcases List.mem_or_eq_of_mem_set Ã with Ã | rfl
        ·exact À z Ã
        ·exact v
       have ð:Hid (a*32+(ak b).toArray.size<=y.size):=by
        have ñ:=Á.1;rw[Â]at ñ;have ċ:=j.out;show _<=_;rw[List.size_toArray,aB,v.out];omega
       replace S:=AA S;have Ú:Hid (av w (H.setRow h (y.toList.take (a*32)++(ak b).toArray.toList++y.toList.drop (a*32+(ak b).toArray.size)).toArray)):=below_setRow î (BB Ì) _;have Û:Hid (aL (H.setRow h (y.toList.take (a*32)++(ak b).toArray.toList++y.toList.drop (a*32+(ak b).toArray.size)).toArray) w.heap.size 292 q):=(setRow_other H h _ _ (aC Ì)).trans í;have Ü:Hid (vS (H.setRow h (y.toList.take (a*32)++(ak b).toArray.toList++y.toList.drop (a*32+(ak b).toArray.size)).toArray) h ((l++[b])++(kF s 257).drop (a+1))):=⟨Ù,_,setRow_heap _ _ _ _ _ _ θ,S⟩;clear Â Á À S Ù
       go_wp2_with (first
        |(rw[aF 53];refine aM ï i.size AB ?_)
        |(rw[iE 23 _];refine dO (o:=⟨none,_,_,_,_,_⟩) rfl 23 (.tmp 54) (.tmp 53) rfl h (a*32) ((ak b).toArray) rfl rfl 23 y θ i.size ð i.one ?_;generalize H.setRow h (y.toList.take (a*32)++(ak b).toArray.toList++y.toList.drop (a*32+(ak b).toArray.size)).toArray=Č at Ú Û Ü ⊢))
       go_roundw
       case rel=>exact⟨a+1,_,by go_num,by rw[β.out];go_num,j,τ,Ü,Û,Ú⟩
       case measure=>(have:=j.out;simp[intOf];omega)
      ·have Ψ:Hid (∀w,(binOp .neq 23 (.agg (ak t1).toArray) (.agg (ak b).toArray)).run prog w=.ok (.bool true) w):=λw=>by rw[rT t1 b Ö.out v.out w,decide_eq_false N];rfl
       (have Φ:=AA<|wC E (by rw[F.out,if_pos (.inr N)]) j);clear F K N;refine cB (aA Q) (aA.jD ((Below.refl _ _).drew)) ?_;refine gu (λw' g=>G w' g.below) i.size AB ?_;(iterate 3 refine aG ?_);refine dh h (a*32) (ak m) (λw' g=>Ξ w' g.below) ω.part AB ?_;refine jr (λw' g=>iN rfl rfl rfl qD (η w')) ?_;refine aG ?_;refine gu (λw' g=>G w' g.below) i.size AB ?_;refine aG ?_;refine cZ BH (λw' g=>(hcut w').mono (λe ë ⟨Ω,B⟩=>⟨Ω,g.next B⟩)) ?_;refine gu (λw' g=>G w' g.below) i.size AB ?_;refine jr (λw' g=>iN rfl rfl rfl qD (Ψ w')) ?_;refine aG ?_;refine bR ?_;intro H I;have J:=AA I.below;clear I;go_wp2_with fail;go_ret2;exact ic.bad (R.trans (J.mono R.size)) r Φ rfl
   ·obtain rfl:a=256:=aC å
    have M:=vv E;have ι:=X.UX 256 (by rw[List.length_append];omega);rw[List.take_append_of_le_length ah,List.take_of_length_le ah]at ι;replace ι:=AA ι;clear M;go_wp2_with fail;go_ret2;exact ic.good Z r E rfl ι ã
theorem MN{f:Program}{i:Func}{g u:Tmp}{a:TypeId}(l:i.results=#[.tmp u,.cell g a])(b:Array Value)(c:World)(d:Nat)(j:TypeId)(e:Array Value)(k:Nat×Nat)(h:TypeDesc)
  (m:b.getD g undef=.pointer (some ⟨d,0,none⟩))(n:c.heap[d]?=some (.cells e j k))
  (o:f.underlying a=some h)(hd:(match h with | .struct _ | .array _ _=>true | _=>false)=true)(p:(f.info? a).map (·.size)=some e.size):
  (results i b).run f c=.ok (.tuple #[b.getD u undef,.agg e]) c:=by
 have f:b[g]?.getD undef=.pointer (some ⟨d,0,none⟩):=by simpa using m
 simp[results,l,f,asAddr,run_loadVar_row c d j a e k h n o hd p,Result.andThen]
theorem pu{d:World}{e b:Nat}{f:Value}{g:aj}(h:d.ownsRow e 5 1 f b (ak g))(i:0 < b):∃a c,f=.slice (some ⟨a,0,none⟩) b c/\b<=c/\ax d 1 (some ⟨a,0,none⟩) b (ak g)/\e<=a/\a < d.heap.size:=by
 obtain⟨a,c,rfl,b,d⟩:=h.form i;obtain⟨i,j,e,f,-,g,-⟩:=iH h;(injection e with h _ i);subst h i;exact⟨a,c,rfl,f,g,b,d⟩
theorem Sz(Z:Array Value)(f:Bool)(cnt:Int)(ch Ś:aj)(ă:ch.length=32)(ś:Option Addr)(n c:Nat)(hs:Sp Z f cnt ch Ś ś n c)(ò:f=true->0<=cnt/\cnt<=1099511627776)(y:Int)(k:aj)(m:k.length=32)(L:List aj)(P:Nat)(ī:P<=256)(Ĭ:Option Addr)(c2:Nat)(h:World)(Ą:bn h)(Δ:j6 h Ĭ P L):
  Calls prog 256 #[.agg Z,.int .i64 y,.agg (ak k).toArray,.slice Ĭ P c2] h λd l=>∃v Θ,d=.returned (.tuple #[v,.agg (ak (dG y k (wU k f cnt ch) L P).2).toArray])/\l.ownsRow h.heap.size 27 1 v (P+1) Θ/\Ty l Θ (dG y k (wU k f cnt ch) L P).1/\av h l:=by
 obtain⟨i0,ĭ,Į,į,İ⟩:=bV Hg
 obtain⟨A,É⟩:=bG ((((h.alloc (.cells Z 292)).alloc (.cells (ak k).toArray 23)).alloc (.cells bF 23)))
 have Ô:Hid (av h A):=É.out ▸ (((Below.refl _ h).alloc (AJ _) _).alloc aZ _).alloc (by simp;omega) _
 have Õ:Hid (A.heap.size=h.heap.size+3):=by show _=_;rw[É.out];simp
 have Ŝ:Hid (aL A h.heap.size 292 Z):=É.out ▸ ((aL.new h _ _).alloc _).alloc _
 have ı:Hid (aL A (h.heap.size+1) 23 (ak k).toArray):=by
  show aL _ _ _ _;rw[É.out];have:=aL.new (h.alloc (.cells Z 292)) 23 (ak k).toArray;rw[show(h.alloc (.cells Z 292)).heap.size=h.heap.size+1 by simp]at this;exact this.alloc _
 have ŝ:Hid (aL A (h.heap.size+2) 23 bF):=by
  show aL _ _ _ _;rw[É.out];have:=aL.new ((h.alloc (.cells Z 292)).alloc (.cells (ak k).toArray 23)) 23 bF;rwa[show((h.alloc (.cells Z 292)).alloc (.cells (ak k).toArray 23)).heap.size=h.heap.size+2 by simp]at this
 obtain⟨r,ó⟩:=aS (wU k f cnt ch)
 have ą:=JP (k:=k) (f:=f) (cnt:=cnt) m ă
 rw[ó.out]at ą ⊢
 obtain⟨Q,α⟩:=aS (r.length)
 have Ĵ:Hid (1<=Q/\Q<=73):=by
  show _/\_;rw[<-α.out,ą];cases f<;>decide
 have Ş:Hid (∀e,∀q∈(dG y k r L e).1,0 < q.length):=Fe (α.out ▸ Ĵ.1)
 obtain⟨Ö,Ć⟩:=aS (dA y r)
 have ş:Hid (Ö.length=32):=Ć.out ▸ lg _ _
 have ć:=AA (aP (x:=Ö) ş)
 have ĵ:Hid (dG y k r L 0=([r],Ö)):=by show([r],dA y r)=_;rw[Ć.out]
 have Ķ:Hid (Calls prog 281 #[.int .i64 5,.slice none 0 0] A λd l=>∃v,d=.returned v/\av A l/\l.ownsRow A.heap.size 5 1 v 1 (ak [kb 5])):=
  uR 5 [] 0 rfl none 0 A aR 0 rfl ah (λe=>absurd e (BJ 0)) ⟨(λa d=>by cases d),(λi q T=>by simp at T)⟩
 have Š:=AA hs.found
 have š:=AA hs.count
 have Ţ:=AA hs.chain
 have Ĉ:=AA<|λ(q:aj) (Ø:Nat) (T:q.length=Ø) (h73:Ø<=73) ţ s l (Ť:Ø<=s) (U:av h l) (Δ:ax l 1 (some ⟨ţ,0,none⟩) Ø (ak q))=>zK q Ø T _ s l (Ą.below U Ą.1) ah Δ Ť
 have ĉ:Hid (∀(q:aj) l,bq 113 #[.agg (ak (bB q)).toArray,.int .i64 y] l (.agg (ak (dA y q)).toArray)):=λq l=>uo (bB q) (eU _) y l
 have ķ:=AA (aP (x:=k) m)
 have Ù:=AA m
 have ô:=AA ă
 have ť:=AA ī
 replace Δ:=AA Δ
 clear hs m ă ī ą Ą
 go_enter func256,ntmps256
 go_upto_region 1 with fail
 change Code.wp _ _ _ _ (((h.alloc (.cells Z 292)).alloc (.cells (ak k).toArray 23)).alloc (.cells bF 23))
 rw[<-É.out]
 go_upto_region 2 with(go_at_call 281;refine Ķ.mono ?_;rintro d I ⟨v1,rfl,Ĺ,ĺ⟩;obtain⟨Ċ,c1,rfl,Ú,Û,Ļ,ļ⟩:=pu ĺ aR;have ν:=AA Ĺ;have ċ:Hid (1<=c1/\A.heap.size<=Ċ/\Ċ < I.heap.size):=⟨Ú,Ļ,ļ⟩;replace Û:=AA Û;clear Ĺ ĺ Ú Ļ ļ Ķ)
 have Ê:=bf ν Ŝ
 have Č:=bf ν ı
 have Ŧ:=(Ê.cell 0).trans Š
 go_upto_if 22 with fail
 go_cut [10]from 21 to 43 (λv wr=>∃gt ct,v=.slice (some ⟨gt,0,none⟩) Q ct/\Hid (Q<=ct/\A.heap.size<=gt/\gt < wr.heap.size)/\Hid (ax wr 1 (some ⟨gt,0,none⟩) Q (ak r))/\Hid (av A wr))
 case first=>
  cases f with
  | false=>
   obtain rfl:[kb 5]=r:=ó;obtain rfl:1=Q:=α;go_wp2_with fail;go_meet
   case rel=>exact⟨Ċ,c1,rfl,ċ,Û,ν⟩
  | true=>
   obtain⟨B,rfl⟩:=Int.eq_ofNat_of_zero_le (ò rfl).1;have ŧ:B<=1099511627776:=aC ((ò rfl).2);(have Ľ:Hid (kb 3 :: (k++(jM B++ch))=r):=by show _=_;rw[<-ó.out];rfl);(have Ũ:Q=73:=by rw[<-α.out,<-Ľ.out];simp[Ù.out,ô.out,iO]);subst Ũ;have hN1:(0:Int)<=(B:Int):=ah
   have ľ:Hid (iX (I.alloc (.cells #[.int .u8 0,.int .u8 0,.int .u8 0,.int .u8 0,.int .u8 0,.int .u8 0,.int .u8 0,.int .u8 0] 391)) I.heap.size 391 8 (lY B 0)):=iX.new I _ _ 8 _ rfl (λj M=>by
    match j,M with
    | 0,_=>rfl
    | 1,_=>rfl
    | 2,_=>rfl
    | 3,_=>rfl
    | 4,_=>rfl
    | 5,_=>rfl
    | 6,_=>rfl
    | 7,_=>rfl
    | j+8,e=>omega)
   clear ò ŧ ó α Û ċ;go_wp2_with fail
   go_loopw [23] (λv wr=>∃i:Nat,v=.int .i64 (i:Int)/\i<=8/\Hid (iX wr I.heap.size 391 8 (lY B i))/\Hid (av I wr)) (λv _=>8 - (intOf v).toNat)
   case atStart=>exact⟨0,rfl,ah,ľ,Below.aJ I _⟩
   case round=>
    clear ľ;obtain⟨i,rfl,ũ,Ë,ξ⟩:=hrel;by_cases β:i < 8
    ·have hz:(i:Int) < 8:=ah
     have hzi:(0:Int)<=(i:Int):=ah;obtain⟨x,hx⟩:=bG (vP B (56 - 8*i));have Ŀ:=AO (7 - (i:Int)) ah;have Ū:=AO (8*(7 - (i:Int))) ah;have y4:(8*(7 - (i:Int))).toNat=56 - 8*i:=ah
     have y3:IntKind.u8.wrap ((B:Int) / 2 ^ (56 - 8*i))=b8 x:=by
      rw[hx.out,<-Ph];simp[IntKind.wrap,IntKind.bits,IntKind.signed]
     have y5:(8*(7 - (i:Int))) < 64:=ah;have y6:0<=(8*(7 - (i:Int))):=ah;have y7:(0:Int)<=(B:Int) / 2 ^ (56 - 8*i):=Int.ediv_nonneg ah (by exact Int.le_of_lt (Int.pow_pos aR));(have ū:Hid ((jM B).getD i 0=x):=by show _=_;rw[List.getD,Ju B i β,hx.out];rfl);have f0:wr.frozen? ⟨I.heap.size,i,none⟩=false:=Ë.frozen _;have e0:=Ë.cell β;have õ:=(ξ.cell (p:=⟨h.heap.size,1,none⟩) Ê.lt).trans ((Ê.cell 1).trans š);have ŀ:=AA β;clear β;go_wp2_with fail;go_roundw
     case rel=>exact⟨i+1,by go_num,ŀ,Ë.lD i _ (λj _=>by rw[xB,ū.out];rfl),ξ.trans (au.aW ((au.refl (·=I.heap.size) wr).setCell (.inl rfl) _) (AJ _) ξ.size)⟩
     case measure=>(have:=ŀ.out;simp[intOf];omega)
    ·obtain rfl:i=8:=ah
     have Ł:Hid (ax wr 1 (some ⟨h.heap.size+1,0,none⟩) 32 (ak k)):=by
      have e:=aL.reads (size:=1) (n:=32) (((ξ.block _ Č.lt).trans Č:aL wr (h.heap.size+1) 23 (ak k).toArray)) 0 (ak k) (by rw[aB,Ù.out]) (λj u Ξ=>by rw[Nat.zero_add,List.getElem?_toArray];exact Ξ);exact(e:ax wr 1 (some ⟨h.heap.size+1,0,none⟩) 32 (ak k))
     have ł:Hid (ax wr 1 (some ⟨h.heap.size,2,none⟩) 32 (ak ch)):=by
      have e:=aL.reads (size:=1) (n:=32) (((ξ.block _ Ê.lt).trans Ê:aL wr h.heap.size 292 Z)) 2 (ak ch) (by rw[aB,ô.out]) (λj u Ξ=>Ţ j u Ξ);exact(e:ax wr 1 (some ⟨h.heap.size,2,none⟩) 32 (ak ch))
     have Ń:Hid (ax wr 1 (some ⟨I.heap.size,0,none⟩) 8 (ak (jM B))):=by
      have e:=Ë.reads 0 8 1 ah
      have d:((List.range (8*1)).map λj=>lY B 8 (0+j))=ak (jM B):=by
       apply List.ext_getElem?;intro j;rw[List.getElem?_map];by_cases M:j < 8
       ·rw[List.getElem?_range ah,eu _ _ (by rw[iO];exact M)]
        show some (lY B 8 (0+j))=_;unfold lY;rw[Nat.zero_add,if_pos M]
       ·rw[List.getElem?_eq_none (by simp;omega),List.getElem?_eq_none (by rw[aB,iO];omega)]
        rfl
      rw[d]at e;exact e
     have č:Hid (h.heap.size < wr.heap.size/\h.heap.size+1 < wr.heap.size/\I.heap.size < wr.heap.size):=by
      have Ì:=Ë.lt;have Í:=ν.size;have h3:=Õ.out;exact⟨ah,ah,ah⟩
     obtain⟨o,J⟩:=aS (Ue wr ⟨h.heap.size+1,0,none⟩ ⟨I.heap.size,0,none⟩ ⟨h.heap.size,2,none⟩);have Ü:Hid (av wr o):=J.out ▸ Gw _ _ _ _;have ο:Hid (o.heap.size=wr.heap.size+1):=J.out ▸ JR _ _ _ _
     have Ŭ:Hid (Calls prog 281 #[.int .i64 3,.slice (some ⟨wr.heap.size,0,none⟩) 3 3] o λd l=>∃v,d=.returned v/\av o l/\l.ownsRow o.heap.size 5 1 v 73 (ak r)):=by
      have ρ:=Mc Ł Ń ł Ù (iO B) ô;have σ:=WA wr (a:=⟨h.heap.size+1,0,none⟩) (b:=⟨I.heap.size,0,none⟩) (c:=⟨h.heap.size,2,none⟩) č.2.1 č.2.2 č.1 k (jM B) ch;rw[J.out]at ρ σ;have:=uR 3 [k,jM B,ch] 3 rfl (some ⟨wr.heap.size,0,none⟩) 3 o aR 72 (by simp[Ù.out,ô.out,iO]) aR ρ σ;rw[show kb 3 :: [k,jM B,ch].flatten=r by rw[<-Ľ.out];simp]at this;exact this
     clear Ë Ł ł Ń ũ β;go_wp2_with fail;refine dI (λ_=>True) 8 ?_;refine aH 0 trivial ?_;refine aH 1 trivial ?_;refine aH 2 trivial ?_;refine aH 3 trivial ?_;refine aH 4 trivial ?_;refine jJ 5 trivial ?_;change wpAnyH _ _ _ _ _ _ _ _ (Ue wr ⟨h.heap.size+1,0,none⟩ ⟨I.heap.size,0,none⟩ ⟨h.heap.size,2,none⟩);rw[J.out];refine aU 6 ?_;refine cK (R:=λv V=>av o V/\V.ownsRow o.heap.size 5 1 v 73 (ak r)) BZ (Ŭ.mono λd V ⟨v,Ý,U,Þ⟩=>⟨_,Ý,U,Þ⟩) ?_;rintro v9 ö ⟨ŭ,Ů⟩;obtain⟨ů,Ű,rfl,ű,Ų,hg9,ų⟩:=pu Ů aR;refine aV trivial ?_;refine aH 7 trivial ?_;refine bT ?_;go_wp2_with fail;(have Ŵ:=AA<|ν.trans ((ξ.trans ((Ü.trans (ŭ.mono (aC ο))).mono ξ.size)).mono ν.size));go_meet
     case rel=>exact⟨ů,Ű,rfl,⟨ű,by have:=ο.out;have:=ξ.size;have:=ν.size;omega,ų⟩,Ų,Ŵ⟩
 case rest=>
  obtain⟨gt,ct,rfl,ß,Ď,ď⟩:=hcut;obtain⟨ø,rfl⟩:=fB wc;clear Û ċ Ê Č ν Ŧ ò;have ń:=aQ Ô ď;obtain⟨Ņ,ù⟩:=bG (ø.alloc (.cells #[.slice (some ⟨gt,0,none⟩) Q ct] 27));have Đ:Hid (av ø Ņ):=ù.out ▸ Below.aJ _ _;have ņ:=aQ ń Đ;(have Ň:=AA<|Ď.below Đ);go_upto_region 11 with fail;change Code.wp _ _ _ _ (ø.alloc (.cells #[.slice (some ⟨gt,0,none⟩) Q ct] 27));rw[<-ù.out]
  go_wp2_with (first
   |(go_at_call 114;refine(Ĉ r Q α Ĵ.2 gt ct Ņ ß.1 ņ Ň).mono ?_;rintro d ŵ ⟨rfl,m⟩;have ň:=AA m;clear m)
   |(go_at_call 113;refine(ĉ r ŵ).mono ?_;rw[Ć.out];rintro d g ⟨rfl,m⟩;have Φ:=aQ ň m;clear m ň)
   |(rw[bA 23 14];refine dB (aL.new g _ _) ć.size ć.zero ć.one ?_;intro ú û γ;replace û:=AA û;replace γ:=AA γ))
  have đ:Hid (QV A ú g.heap.size (Ö,[r]) (.slice (some ⟨ø.heap.size,0,none⟩) 1 1) [.slice (some ⟨gt,0,none⟩) Q ct]):=by
   have Ŋ:=Φ.out;rw[ù.out]at Ŋ;have:=QV.start (q:=r) (z:=Ö) (gt:=gt) (ct:=ct) ď (α.out ▸ Ď) ⟨ß.2.1,ß.2.2⟩ (α.out ▸ ß.1) (α.out ▸ Ŋ) û γ;rwa[α.out]at this
  obtain⟨à,ŋ⟩:∃à,g.heap.size=à:=⟨_,rfl⟩;rw[ŋ]at đ ⊢;clear ŋ û γ Φ Ň Đ ņ ù ß Ď ď ń
  go_loopw [13,52] (λv u wr=>∃(e j:Nat) (Ψ:List aj) (x:aj) (Î:Option Addr) (Ï:Nat) (Θ:List Value),v=.slice Î j Ï/\u=.int .i64 (e:Int)/\Hid (j=e+1)/\Hid (e<=P)/\Hid (dG y k r L e=(Ψ,x))/\Hid (QV A wr à (x,Ψ) (.slice Î j Ï) Θ)) (λ_ v _=>P - (intOf v).toNat)
  case atStart=>exact⟨0,1,_,_,_,_,_,rfl,rfl,rfl,AX _,ĵ,đ⟩
  case round=>
   clear đ ĵ;obtain⟨e,j,Ψ,x,Î,Ï,Θ,rfl,rfl,M,á,τ,C⟩:=hrel;(have Ē:=AA<|Ô.trans (C.low.mono Ô.size));have Ŷ:Hid (aL wr (h.heap.size+1) 23 (ak k).toArray):=(C.low.block _ (aC Õ)).trans ı
   have δ:Hid (x.length=32):=by
    show _=_;have:=yY y k r L e;rwa[τ.out]at this
   have G:=AA (aP (x:=x) δ);have Ð:=AA C.Xt;by_cases β:e < P
   ·obtain⟨t,ü⟩:∃t,L[e]?=some t:=⟨_,AV (by rw[Δ.out.1];exact β)⟩
    have υ:=AA (Δ.2.1.at_ ü);have H:=AA (aP (x:=t) υ);obtain⟨b,ē,rfl,Ō,ō⟩:=Δ.at_ ü;have ŷ:=AA<|λi v (Ÿ:(ak t)[i]?=some v)=>(Ē.cell (p:=⟨b,ē+e*32+i,none⟩) Ō).trans (ō i v Ÿ)
    have Ñ:Hid (Ψ.length=j):=by
     show _=_;have:=yX y k r L e;rw[τ.out]at this;rw[this,M.out]
    obtain⟨Ĕ,ĕ⟩:∃Ź,255 - e=Ź:=⟨_,rfl⟩;have ź:=ť.out;have Ŀ:(e:Int) < (P:Int):=ah;have Ū:(0:Int)<=(e:Int):=ah;(have z3:IntKind.i64.wrap (255 - (e:Int))=(Ĕ:Int):=by rw[IntWalk.i64_in _ ah];omega);have z4:=AO ((e:Int)+1) ah;have z5:=AO (e:Int) ah;(have â:=AA<|λl=>VP k Ù Ĕ ah l);obtain⟨Ω,ã⟩:∃Ω,Ff k Ĕ=Ω:=⟨_,rfl⟩;(have Ŏ:Ω < 2:=by rw[<-ã];unfold Ff;omega);(have Ú:Hid (j+1<=maxLen):=by have:=M.out;show _<=_;unfold maxLen;omega);(have ŏ:Hid ((j+1)*24<=140737488355328):=by have:=M.out;show _<=_;omega);rw[ã]at â;(have Ė:Hid (Ω=0->Ma k e x t=kb 4 :: (x++t)):=λd=>by unfold Ma;rw[ĕ,ã,if_pos d]);(have ė:Hid (Ω=1->Ma k e x t=kb 4 :: (t++x)):=λd=>by unfold Ma;rw[ĕ,ã,if_neg ah]);have ý:=AA β;have Ő:=AA ü;clear ō Ō ü β ĕ ã ź
    go_wp2_with (first
     |(rw[aF 56];refine bS ŷ H.part AB ?_)
     |(rw[bA 23 16];refine lF (aL.new wr _ _) H.size H.zero H.one ?_;intro g À ő;have Φ:=AA (dx ő);replace À:=AA À;clear ő))
    have þ:=bf Φ Ð
    go_cut [17,18]from 57 to 58 (λv u Á=>∃N O:Nat,v=.pointer (some ⟨N,0,none⟩)/\u=.pointer (some ⟨O,0,none⟩)/\Hid (N≠O)/\Hid (g.heap.size<=N)/\Hid (g.heap.size<=O)/\Hid (aL Á N 23 (ak x).toArray)/\Hid (aL Á O 23 (ak t).toArray)/\Hid (av g Á))
    case first=>
     have aD:Hid (av g g.drew):=(Below.refl _ _).drew;refine dI (λl=>av g l) 6 ?_;refine eO 0 rfl aD (λl ε=>gM 23 (.tmp 14) rfl (à) rfl 23 ((ak x).toArray) (0,0) _ ((ε.block _ þ.lt).trans þ) AB rfl G.size) ?_;refine eO 1 rfl aD (λl ε=>gM 23 (.tmp 16) rfl (wr.heap.size) rfl 23 ((ak t).toArray) (0,0) _ ((ε.block _ À.lt).trans À) AB rfl H.size) ?_;refine iP (i:=2) (j:=3) rfl rfl bH (by rfl) (by rfl) (λK φ=>?_) (λK φ=>?_)
     ·have Â:Hid (av g (g.drew.alloc (.cells bF 23))):=aD.alloc aD.size _
      have Ã:Hid (aL (g.drew.alloc (.cells bF 23)) g.drew.heap.size 23 bF):=aL.new _ _ _;go_simp;refine φ _ _ Â ?_;clear φ K;refine aU 3 ?_;have ζ:Hid (av g ((g.drew.alloc (.cells bF 23)).alloc (.cells bF 23))):=Â.alloc Â.size _;have Ä:Hid (aL ((g.drew.alloc (.cells bF 23)).alloc (.cells bF 23)) (g.drew.alloc (.cells bF 23)).heap.size 23 bF):=aL.new _ _ _;refine aV ζ ?_;(have Ę:Hid ((g.drew.alloc (.cells bF 23)).heap.size=g.heap.size+1):=by show _=_;simp);replace Ã:Hid (aL ((g.drew.alloc (.cells bF 23)).alloc (.cells bF 23)) g.heap.size 23 bF):=Ã.alloc _;(replace Ä:Hid (aL ((g.drew.alloc (.cells bF 23)).alloc (.cells bF 23)) (g.heap.size+1) 23 bF):=by have:=Ä.out;rw[Ę.out]at this;exact this);refine aU 4 ?_;refine fM Ã G.size G.zero G.one ?_;intro D ä χ;(have W:=AA<|ζ.trans (au.aW χ ah ζ.size));(have å:=AA<|Ä.kept χ ah);refine aV W ?_;refine aU 5 ?_;refine fM å H.size H.zero H.one ?_;intro Ò æ ψ;(have ω:=AA<|W.trans (au.aW ψ ah W.size));(have ç:=AA<|ä.kept ψ ah);refine aV ω ?_;refine bT ?_;go_wp2_with fail;go_meet
      case rel=>exact⟨g.heap.size,g.heap.size+1,rfl,rfl,(by show _≠_;omega),(by show _<=_;omega),(by show _<=_;omega),ç,æ,ω⟩
     ·have Â:Hid (av g (g.drew.alloc (.cells bF 23))):=aD.alloc aD.size _
      have Ã:Hid (aL (g.drew.alloc (.cells bF 23)) g.drew.heap.size 23 bF):=aL.new _ _ _;go_simp;refine φ _ _ Â ?_;clear φ K;refine aU 2 ?_;have ζ:Hid (av g ((g.drew.alloc (.cells bF 23)).alloc (.cells bF 23))):=Â.alloc Â.size _;have Ä:Hid (aL ((g.drew.alloc (.cells bF 23)).alloc (.cells bF 23)) (g.drew.alloc (.cells bF 23)).heap.size 23 bF):=aL.new _ _ _;refine aV ζ ?_;(have Ę:Hid ((g.drew.alloc (.cells bF 23)).heap.size=g.heap.size+1):=by show _=_;simp);replace Ã:Hid (aL ((g.drew.alloc (.cells bF 23)).alloc (.cells bF 23)) g.heap.size 23 bF):=Ã.alloc _;(replace Ä:Hid (aL ((g.drew.alloc (.cells bF 23)).alloc (.cells bF 23)) (g.heap.size+1) 23 bF):=by have:=Ä.out;rw[Ę.out]at this;exact this);refine aU 4 ?_;refine fM Ä G.size G.zero G.one ?_;intro D ä χ;(have W:=AA<|ζ.trans (au.aW χ ah ζ.size));(have å:=AA<|Ã.kept χ ah);refine aV W ?_;refine aU 5 ?_;refine fM å H.size H.zero H.one ?_;intro Ò æ ψ;(have ω:=AA<|W.trans (au.aW ψ ah W.size));(have ç:=AA<|ä.kept ψ ah);refine aV ω ?_;refine bT ?_;go_wp2_with fail;go_meet
      case rel=>exact⟨g.heap.size+1,g.heap.size,rfl,rfl,(by show _≠_;omega),(by show _<=_;omega),(by show _<=_;omega),ç,æ,ω⟩
    case rest=>
     obtain⟨N,O,rfl,rfl,Œ,Ż,ż,ÿ,Ā,γ⟩:=hcut;obtain⟨ú,rfl⟩:=fB wc;have ā:=aQ Φ γ;have Ă:=bf ā Ŷ;have œ:=bf ā Ð;have Ŕ:=bf γ À;have hl4:=AA γ.size;by_cases ŕ:Ω=0
     ·subst ŕ
      have T:=Ė rfl;clear ė Ė Ŏ
      go_wp2_with (first
       |(rw[aF 59];refine aM Ă ķ.size AB ?_)
       |(go_at_call 282;refine(â ú).mono ?_;rintro d Ó ⟨rfl,m⟩;have η:=AA m;clear m â))
      have ę:=aQ γ η;have Ě:=bf η ÿ;have ě:=bf η Ā;clear η ÿ Ā œ Ŕ ā Ă;obtain⟨E,rfl⟩:=fB Ó;have è:=Ě;have é:=ě;have X:=aQ Φ ę;have Ĝ:=bf X Ð;obtain⟨q,Å⟩:∃q:aj,Hid (kb 4 :: (x++t)=q):=⟨_,AA rfl⟩;(have θ:Hid (q.length=65):=by show _=_;rw[<-Å.out];simp[δ.out,υ.out]);rw[Å.out]at T;(have ê:=AA<|wF y k r L e τ Ő T);obtain⟨o,J⟩:=aS (tW E N O);have Ü:Hid (av E o):=J.out ▸ kT _ _ _;have ο:Hid (o.heap.size=E.heap.size+1):=J.out ▸ ja _ _ _
      have ë:Hid (Calls prog 281 #[.int .i64 4,.slice (some ⟨E.heap.size,0,none⟩) 2 2] o λd l=>∃v,d=.returned v/\av o l/\l.ownsRow o.heap.size 5 1 v 65 (ak q)):=by
       have ρ:=jQ è é δ υ;have σ:=V5 E è.lt é.lt x t;rw[J.out]at ρ σ;have:=uR 4 [x,t] 2 rfl (some ⟨E.heap.size,0,none⟩) 2 o aR 64 (by simp[δ.out,υ.out]) aR ρ σ;rw[show kb 4 :: [x,t].flatten=q by rw[<-Å.out];simp]at this;exact this
      obtain⟨ι,Æ⟩:=aS (dA y q);have ĝ:Hid (ι.length=32):=Æ.out ▸ lg _ _;have Ç:=AA (aP (x:=ι) ĝ);(have Ğ:=AA<|Ç.same _ δ);rw[Æ.out]at ê;clear T;refine dI (λ_=>True) 5 ?_;refine aH 0 trivial ?_;refine aH 1 trivial ?_;refine jJ 2 trivial ?_;change wpAnyH _ _ _ _ _ _ _ _ (tW E N O);rw[J.out];refine aU 3 ?_;refine cK (R:=λv V=>av o V/\V.ownsRow o.heap.size 5 1 v 65 (ak q)) BZ (ë.mono λd V ⟨v,Ý,U,Þ⟩=>⟨_,Ý,U,Þ⟩) ?_;rintro Ž D ⟨Γ,ì⟩;obtain⟨w,s,rfl,í,κ,ğ,î⟩:=pu ì aR;refine aV trivial ?_;refine aH 4 trivial ?_;refine bT ?_;(have μ:=AA<|Ü.trans (Γ.mono (aC ο)));have Y:Hid (E.heap.size<=w/\w < D.heap.size/\65<=s):=⟨by have:=ο.out;omega,î,í⟩;replace κ:=AA κ
      have ï:Hid ((D.alloc (.cells #[.slice (some ⟨w,0,none⟩) 65 s] 27)).ownsRow A.heap.size 27 1 (.slice Î j Ï) j Θ):=by
       have:=C.own;rw[Ñ.out]at this;exact aK (aK (aK this X) μ) (Below.aJ D _)
      have Ġ:Hid (ax (D.alloc (.cells #[.slice (some ⟨w,0,none⟩) 65 s] 27)) 1 (some ⟨D.heap.size,0,none⟩) 1 [.slice (some ⟨w,0,none⟩) 65 s]):=aL.reads (aL.new D 27 #[.slice (some ⟨w,0,none⟩) 65 s]) 0 _ rfl (λj u Ξ=>by rw[Nat.zero_add];simpa using Ξ)
      have È:Hid (av A (D.alloc (.cells #[.slice (some ⟨w,0,none⟩) 65 s] 27))):=by
       have Ì:=C.low.trans (X.mono C.low.size);have Í:=Ì.trans (μ.mono Ì.size);exact Í.alloc Í.size _
      clear Γ ì í ğ î ë;go_upto_region 20 with(rw[bY 73];refine iL (.tmp 70) (.tmp 72) Ao ĭ Į į İ ï Ġ (λd=>by cases d) (gm rfl) Ú ŏ È.size ?_;intro ž Ò F;obtain⟨ġ,Ģ,rfl,-⟩:=Own.reads F.own;have ģ:=AA<|F.below È È.size (λk d=>(ï.lt k d).1);replace F:=AA F)
      have Ĥ:=AA<|(κ.alloc (.cells #[.slice (some ⟨w,0,none⟩) 65 s] 27)).keep F.grow.size (λb ē d U=>by
       (injection d with d);(injection d with õ e2);subst õ
       exact F.grow.block _ U (λd=>by have:=(C.own.lt _ d.symm).2;have:=Y.out;have:=X.size;omega))
      have ĥ:=bf μ Ĝ;(have Ħ:=AA<|aL.grown (ĥ.alloc _) F.grow (λd=>C.ne d.symm));have ħ:=aQ Ô ģ
      go_wp2_with (first
       |(go_at_call 114;refine(Ĉ q 65 θ ah w s Ò Y.2.2 ħ Ĥ).mono ?_;rintro d ö ⟨rfl,m⟩;have ð:=AA m;clear m)
       |(go_at_call 113;refine(ĉ q ö).mono ?_;rw[Æ.out];rintro d w10 ⟨rfl,m⟩;have ñ:=aQ ð m;have Ĩ:=bf ñ Ħ;clear m ð)
       |(rw[bA 23 14];refine lF Ĩ Ç.size Ğ Ç.one ?_;intro w11 ĩ Ī))
      go_roundw
      case rel=>exact⟨e+1,j+1,_,ι,ġ,Ģ,_,rfl,by go_num,(show j+1=e+1+1 by have:=M.out;omega),ý,ê,by
       have á:=C.step (q:=q) (gt:=w) (ct:=s) (st':=(ι,Ψ++[q])) Ñ X μ (θ.out ▸ κ) ⟨Y.1,Y.2.1⟩ (θ.out ▸ Y.2.2) (θ.out ▸ F) ñ ĩ Ī rfl
       exact á⟩
      case measure=>(have:=ý.out;simp[intOf];omega)
     ·obtain rfl:Ω=1:=ah
      have T:=ė rfl;clear ė Ė Ŏ ŕ
      go_wp2_with (first
       |(rw[aF 59];refine aM Ă ķ.size AB ?_)
       |(go_at_call 282;refine(â ú).mono ?_;rintro d Ó ⟨rfl,m⟩;have η:=AA m;clear m â))
      have ę:=aQ γ η;have Ě:=bf η ÿ;have ě:=bf η Ā;clear η ÿ Ā œ Ŕ ā Ă
      go_cut [17,18]from 64 to 65 (λv u Á=>v=.pointer (some ⟨N,0,none⟩)/\u=.pointer (some ⟨O,0,none⟩)/\Hid (aL Á N 23 (ak t).toArray)/\Hid (aL Á O 23 (ak x).toArray)/\Hid (av g Á))
      case first=>
       have aD:=AA ę.drew;refine dI (λl=>av g l) 4 ?_;refine eO 0 rfl aD (λl ε=>gM 23 (.tmp 16) rfl (wr.heap.size) rfl 23 ((ak t).toArray) (0,0) _ ((ε.block _ À.lt).trans À) AB rfl H.size) ?_;refine eO 1 rfl aD (λl ε=>gM 23 (.tmp 14) rfl (à) rfl 23 ((ak x).toArray) (0,0) _ ((ε.block _ þ.lt).trans þ) AB rfl G.size) ?_;have hM17d:aL Ó.drew N 23 (ak x).toArray:=Ě;have hM18d:aL Ó.drew O 23 (ak t).toArray:=ě;refine aU 2 ?_;refine fM hM17d H.size (H.same _ δ) H.one ?_;intro D ä χ;(have W:=AA<|aD.trans (au.aW χ Ż aD.size));(have å:=AA<|aL.kept hM18d χ (λe=>Œ e.symm));refine aV W ?_;refine aU 3 ?_;refine fM å G.size (G.same _ υ) G.one ?_;intro Ò æ ψ;(have ω:=AA<|W.trans (au.aW ψ ż W.size));(have ç:=AA<|aL.kept ä ψ (λe=>Œ e));refine aV ω ?_;refine bT ?_;go_wp2_with fail;go_meet
       case rel=>exact⟨rfl,rfl,ç,æ,ω⟩
      case rest=>
       obtain⟨rfl,rfl,è,é,hkx⟩:=hcut;obtain⟨E,rfl⟩:=fB wc;have X:=aQ Φ hkx;have Ĝ:=bf X Ð;go_wp2_with fail;obtain⟨q,Å⟩:∃q:aj,Hid (kb 4 :: (t++x)=q):=⟨_,AA rfl⟩;(have θ:Hid (q.length=65):=by show _=_;rw[<-Å.out];simp[δ.out,υ.out]);rw[Å.out]at T;(have ê:=AA<|wF y k r L e τ Ő T);obtain⟨o,J⟩:=aS (tW E N O);have Ü:Hid (av E o):=J.out ▸ kT _ _ _;have ο:Hid (o.heap.size=E.heap.size+1):=J.out ▸ ja _ _ _
       have ë:Hid (Calls prog 281 #[.int .i64 4,.slice (some ⟨E.heap.size,0,none⟩) 2 2] o λd l=>∃v,d=.returned v/\av o l/\l.ownsRow o.heap.size 5 1 v 65 (ak q)):=by
        have ρ:=jQ è é υ δ;have σ:=V5 E è.lt é.lt t x;rw[J.out]at ρ σ;have:=uR 4 [t,x] 2 rfl (some ⟨E.heap.size,0,none⟩) 2 o aR 64 (by simp[δ.out,υ.out]) aR ρ σ;rw[show kb 4 :: [t,x].flatten=q by rw[<-Å.out];simp]at this;exact this
       obtain⟨ι,Æ⟩:=aS (dA y q);have ĝ:Hid (ι.length=32):=Æ.out ▸ lg _ _;have Ç:=AA (aP (x:=ι) ĝ);(have Ğ:=AA<|Ç.same _ δ);rw[Æ.out]at ê;clear T;refine dI (λ_=>True) 5 ?_;refine aH 0 trivial ?_;refine aH 1 trivial ?_;refine jJ 2 trivial ?_;change wpAnyH _ _ _ _ _ _ _ _ (tW E N O);rw[J.out];refine aU 3 ?_;refine cK (R:=λv V=>av o V/\V.ownsRow o.heap.size 5 1 v 65 (ak q)) BZ (ë.mono λd V ⟨v,Ý,U,Þ⟩=>⟨_,Ý,U,Þ⟩) ?_;rintro Ž D ⟨Γ,ì⟩;obtain⟨w,s,rfl,í,κ,ğ,î⟩:=pu ì aR;refine aV trivial ?_;refine aH 4 trivial ?_;refine bT ?_;(have μ:=AA<|Ü.trans (Γ.mono (aC ο)));have Y:Hid (E.heap.size<=w/\w < D.heap.size/\65<=s):=⟨by have:=ο.out;omega,î,í⟩;replace κ:=AA κ
       have ï:Hid ((D.alloc (.cells #[.slice (some ⟨w,0,none⟩) 65 s] 27)).ownsRow A.heap.size 27 1 (.slice Î j Ï) j Θ):=by
        have:=C.own;rw[Ñ.out]at this;exact aK (aK (aK this X) μ) (Below.aJ D _)
       have Ġ:Hid (ax (D.alloc (.cells #[.slice (some ⟨w,0,none⟩) 65 s] 27)) 1 (some ⟨D.heap.size,0,none⟩) 1 [.slice (some ⟨w,0,none⟩) 65 s]):=aL.reads (aL.new D 27 #[.slice (some ⟨w,0,none⟩) 65 s]) 0 _ rfl (λj u Ξ=>by rw[Nat.zero_add];simpa using Ξ)
       have È:Hid (av A (D.alloc (.cells #[.slice (some ⟨w,0,none⟩) 65 s] 27))):=by
        have Ì:=C.low.trans (X.mono C.low.size);have Í:=Ì.trans (μ.mono Ì.size);exact Í.alloc Í.size _
       clear Γ ì í ğ î ë;go_upto_region 20 with(rw[bY 73];refine iL (.tmp 70) (.tmp 72) Ao ĭ Į į İ ï Ġ (λd=>by cases d) (gm rfl) Ú ŏ È.size ?_;intro ž Ò F;obtain⟨ġ,Ģ,rfl,-⟩:=Own.reads F.own;have ģ:=AA<|F.below È È.size (λk d=>(ï.lt k d).1);replace F:=AA F)
       have Ĥ:=AA<|(κ.alloc (.cells #[.slice (some ⟨w,0,none⟩) 65 s] 27)).keep F.grow.size (λb ē d U=>by
        (injection d with d);(injection d with õ e2);subst õ
        exact F.grow.block _ U (λd=>by have:=(C.own.lt _ d.symm).2;have:=Y.out;have:=X.size;omega))
       have ĥ:=bf μ Ĝ;(have Ħ:=AA<|aL.grown (ĥ.alloc _) F.grow (λd=>C.ne d.symm));have ħ:=aQ Ô ģ
       go_wp2_with (first
        |(go_at_call 114;refine(Ĉ q 65 θ ah w s Ò Y.2.2 ħ Ĥ).mono ?_;rintro d ö ⟨rfl,m⟩;have ð:=AA m;clear m)
        |(go_at_call 113;refine(ĉ q ö).mono ?_;rw[Æ.out];rintro d w10 ⟨rfl,m⟩;have ñ:=aQ ð m;have Ĩ:=bf ñ Ħ;clear m ð)
        |(rw[bA 23 14];refine lF Ĩ Ç.size Ğ Ç.one ?_;intro w11 ĩ Ī))
       go_roundw
       case rel=>exact⟨e+1,j+1,_,ι,ġ,Ģ,_,rfl,by go_num,(show j+1=e+1+1 by have:=M.out;omega),ý,ê,by
        have á:=C.step (q:=q) (gt:=w) (ct:=s) (st':=(ι,Ψ++[q])) Ñ X μ (θ.out ▸ κ) ⟨Y.1,Y.2.1⟩ (θ.out ▸ Y.2.2) (θ.out ▸ F) ñ ĩ Ī rfl
        exact á⟩
       case measure=>(have:=ý.out;simp[intOf];omega)
   ·obtain rfl:e=P:=aC á
    have Ŀ:(e:Int)<=(e:Int):=ah
    have Ñ:Hid (Ψ.length=j):=by
     show _=_;have:=yX y k r L e;rw[τ.out]at this;rw[this,M.out]
    have hRr:Hid (aL wr (h.heap.size+2) 23 bF):=(C.low.block _ (aC Õ)).trans ŝ;clear β;go_wp2_with fail;refine xP 3 (aA wr) (aA.jD ((Below.refl _ _).drew)) ?_;refine aG ?_;refine gu (λl ε=>(ε.below.block _ Ð.lt).trans Ð) G.size AB ?_;refine bD (v:=.slice Î j Ï) rfl (λl ε=>by first| go_simp | rfl) ?_;(intro K φ;go_simp;refine φ _ ?_;clear φ K);refine bR ?_;intro Ó Ŗ;have ζ:=AA Ŗ.below;clear Ŗ;simp only[List.drop];have ŗ:=bf ζ hRr;have hC6:=C.out;go_wp2_with (rw[bA 23 _];refine fw ŗ G.size G.zero G.one ?_);refine bodyPost_ret (MN rfl _ _ (h.heap.size+2) 23 (ak x).toArray (0,0) _ rfl (setRow_heap _ _ _ _ _ _ ŗ) AB rfl G.size) rfl ?_;have Γ:au (·=h.heap.size+2) wr (Ó.setRow (h.heap.size+2) (ak x).toArray):=au.setRow (S:=λi=>i=h.heap.size+2) (au.of_below ζ) rfl _;obtain⟨Ř,a2⟩:=C.end_ (aC Õ) Γ (by have:=Ş e;rw[τ.out]at this;exact this);have ř:=M.out;rw[Ñ.out,ř]at Ř;subst ř;exact⟨_,_,by rw[τ.out];rfl,IW Ř (aC Õ),by rw[τ.out];exact a2,Ē.trans (au.aW Γ ah Ē.size)⟩
def mO(s:Int)(root k:aj)(f:Bool)(cnt:Int)(ch d:aj)(n:Nat)(ds:List aj):Int:=if mE f cnt ch d n=true then Ee s root k f cnt ch d ds else 8
theorem Ew{e:Int}{f g:aj}{a:Bool}{b:Int}{ch c:aj}{d:Nat}{h:List aj}(i:mE a b ch c d=false):mO e f g a b ch c d h=8:=by unfold mO;rw[if_neg (by rw[i];decide)]
theorem Cv{b:Int}{g h:aj}{c:Bool}{d:Int}{ch a:aj}{e:Nat}{f:List aj}(i:mE c d ch a e=true)(j:mY b a f 256=none):mO b g h c d ch a e f=170:=by unfold mO Ee;rw[if_pos i,j]
theorem Cu{a:Int}{f b:aj}{c:Bool}{d:Int}{ch e:aj}{g:Nat}{h i:List aj}(j:mE c d ch e g=true)(k:mY a e h 256=some i):mO a f b c d ch e g h=if(dG a b (wU b c d ch) i 256).2=f then 0 else 171:=by unfold mO Ee;rw[if_pos j,k]
theorem R9{b:Bool}{a:Int}{ch d:aj}{e:Nat}(c:mE b a ch d e=true):b=true->0<=a/\a<=1099511627776:=λb=>by
 subst b;unfold mE at c;have b:=(Bool.and_eq_true _ _ ▸ c).2;have:=BQ (show decide (1<=a/\a<=1099511627776)=true from b);omega
theorem Co(d c:aj)(D:d.length=32)(E:c.length=32)(f:Array Value)(p:Bool)(q:Int)(ch t:aj)(F:ch.length=32)(hd:t.length=32)(I:Option Addr)(w y:Nat)(hs:Sp f p q ch t I w y)(i:Int)(g:List aj)(a:World)(u:bn a)(z:j6 a I w g):
  bq 193 #[.int .i64 i,.agg (ak d).toArray,.agg (ak c).toArray,.agg f] a (.int .i64 (mO i d c p q ch t w g)):=by
 obtain⟨k,r⟩:∃k,Hid (k=(((a.alloc (.cells (ak d).toArray 23)).alloc (.cells (ak c).toArray 23)).alloc (.cells f 292))):=⟨_,rfl⟩
 have A:Hid (av a k):=r.out ▸ (((Below.refl _ a).alloc (AJ _) _).alloc aZ _).alloc (by simp;omega) _
 have s:Hid (aL k (a.heap.size+2) 292 f):=by
  show aL _ _ _ _;rw[r.out];have:=aL.new ((a.alloc (.cells (ak d).toArray 23)).alloc (.cells (ak c).toArray 23)) 292 f;rwa[show((a.alloc (.cells (ak d).toArray 23)).alloc (.cells (ak c).toArray 23)).heap.size=(a.heap.size+2) by simp]at this
 have J:Hid (aL k a.heap.size 23 (ak d).toArray):=r.out ▸ ((aL.new a _ _).alloc _).alloc _
 have K:Hid (aL k (a.heap.size+1) 23 (ak c).toArray):=by
  show aL _ _ _ _;rw[r.out];have:=aL.new (a.alloc (.cells (ak d).toArray 23)) 23 (ak c).toArray;rw[show(a.alloc (.cells (ak d).toArray 23)).heap.size=a.heap.size+1 by simp]at this;exact this.alloc _
 have B:Hid ((prog.info? 292).map (·.size)=some f.size):=by show _=_;rw[hs.size];exact zM
 have M:=AA (aP (x:=c) E)
 have N:=AA (aP (x:=d) D)
 have L:=zO f p q ch t F hd I w y hs i g k (u.below A u.1) (z.below A)
 have C:=L
 cases hok:mE p q ch t w with
 | false=>
  rw[Ew hok]
  have l:Hid (bq 255 #[.agg f,.int .i64 i] k (.tuple #[.slice none 0 0,.int .i64 8])):=C.mono λh j b=>by
   rcases b with⟨m,b | b | b⟩
   ·exact⟨b.2,m⟩
   ·rw[hok]at b;cases b.1
   ·rw[hok]at b;cases b.1
  clear C L u z hs F hd D E hok;(go_enter Bt,ntmps193);go_upto_region 1 with fail;change Code.wp _ _ _ _ (((a.alloc (.cells (ak d).toArray 23)).alloc (.cells (ak c).toArray 23)).alloc (.cells f 292));rw[<-r.out]
  go_wp2_with (first
   |(rw[aF 14];refine aM s B Ak ?_)
   |(go_at_call 255;refine l.mono ?_;rintro h G ⟨rfl,e⟩;have n:=aQ A e;clear e l))
  go_ret;exact⟨rfl,n⟩
 | true=>
  cases hnb:mY i t g 256 with
  | none=>
   rw[Cv hok hnb]
   have l:Hid (bq 255 #[.agg f,.int .i64 i] k (.tuple #[.slice none 0 0,.int .i64 170])):=C.mono λh j b=>by
    rcases b with⟨m,b | b | b⟩
    ·rw[hok]at b;cases b.1
    ·exact⟨b.2.2,m⟩
    ·obtain⟨-,v,g,y,b,-⟩:=b
     rw[hnb]at b;cases b
   clear C L u z hs F hd D E hok hnb;(go_enter Bt,ntmps193);go_upto_region 1 with fail;change Code.wp _ _ _ _ (((a.alloc (.cells (ak d).toArray 23)).alloc (.cells (ak c).toArray 23)).alloc (.cells f 292));rw[<-r.out]
   go_wp2_with (first
    |(rw[aF 14];refine aM s B Ak ?_)
    |(go_at_call 255;refine l.mono ?_;rintro h G ⟨rfl,e⟩;have n:=aQ A e;clear e l))
   go_ret;exact⟨rfl,n⟩
  | some v=>
   rw[Cu hok hnb]
   have l:Hid (Calls prog 255 #[.agg f,.int .i64 i] k λh j=>∃g o,h=.returned (.tuple #[.slice (some ⟨g,0,none⟩) 256 o,.int .i64 0])/\j6 j (some ⟨g,0,none⟩) 256 v/\av k j):=C.mono λh j b=>by
    rcases b with⟨m,b | b | b⟩
    ·rw[hok]at b;cases b.1
    ·rw[hnb]at b;cases b.2.1
    ·obtain⟨-,P,g,y,k,H,O,-⟩:=b
     rw[hnb]at k;obtain rfl:=AL k;exact⟨g,y,H,O,m⟩
   (have H:Hid (∀g o j,av a j->j6 j (some ⟨g,0,none⟩) 256 v->Calls prog 256 #[.agg f,.int .i64 i,.agg (ak c).toArray,.slice (some ⟨g,0,none⟩) 256 o] j λh O=>∃b,h=.returned (.tuple #[b,.agg (ak (dG i c (wU c p q ch) v 256).2).toArray])/\av j O):=λg o j m z=>(Sz f p q ch t F I w y hs (R9 hok) i c E v 256 (AJ _) (some ⟨g,0,none⟩) o j (u.below m u.1) z).mono λh O ⟨b,P,k,_,_,m⟩=>⟨b,k,m⟩);have b:=yY i c (wU c p q ch) v 256;obtain⟨j,m⟩:∃j,(dG i c (wU c p q ch) v 256).2=j:=⟨_,rfl⟩;rw[m]at b H ⊢;have i:=AA (aP (x:=j) b);have v:=AA (rT j d b D);clear C L u z hs F hd D E hok hnb m b;by_cases k:j=d
   ·have I:∀a,(binOp .neq 23 (.agg (ak j).toArray) (.agg (ak d).toArray)).run prog a=.ok (.bool false) a:=λa=>by rw[v.out a,decide_eq_true k];rfl
    rw[if_pos k];clear v k;(go_enter Bt,ntmps193);go_upto_region 1 with fail;change Code.wp _ _ _ _ (((a.alloc (.cells (ak d).toArray 23)).alloc (.cells (ak c).toArray 23)).alloc (.cells f 292));rw[<-r.out]
    go_wp2_with (first
     |(rw[aF 14];refine aM s B Ak ?_)
     |(go_at_call 255;refine l.mono ?_;rintro h G ⟨g,o,rfl,b,e⟩;have n:=aQ A e;have u:=bf e s;have w:=bf e J;have y:=bf e K;replace b:=AA b;clear e l s J K)
     |(rw[aF 23];refine aM u B Ak ?_)
     |(rw[aF 25];refine aM y M.size AB ?_)
     |(go_at_call 256;refine(H g o G n b).mono ?_;rintro h z ⟨L,rfl,m⟩;have C:=aQ n m;have D:=bf m w;clear m H b)
     |(rw[bA 23 12];refine dB (aL.new z _ _) i.size i.zero i.one ?_;intro O p t;have q:=dx t;have E:=bf q D;have F:=aQ C q;replace p:=AA p;clear t q)
     |(rw[aF 30];refine aM p i.size AB ?_)
     |(rw[aF 31];refine aM E N.size AB ?_))
    go_ret;exact⟨rfl,F⟩
   ·have I:∀a,(binOp .neq 23 (.agg (ak j).toArray) (.agg (ak d).toArray)).run prog a=.ok (.bool true) a:=λa=>by rw[v.out a,decide_eq_false k];rfl
    rw[if_neg k];clear v k;(go_enter Bt,ntmps193);go_upto_region 1 with fail;change Code.wp _ _ _ _ (((a.alloc (.cells (ak d).toArray 23)).alloc (.cells (ak c).toArray 23)).alloc (.cells f 292));rw[<-r.out]
    go_wp2_with (first
     |(rw[aF 14];refine aM s B Ak ?_)
     |(go_at_call 255;refine l.mono ?_;rintro h G ⟨g,o,rfl,b,e⟩;have n:=aQ A e;have u:=bf e s;have w:=bf e J;have y:=bf e K;replace b:=AA b;clear e l s J K)
     |(rw[aF 23];refine aM u B Ak ?_)
     |(rw[aF 25];refine aM y M.size AB ?_)
     |(go_at_call 256;refine(H g o G n b).mono ?_;rintro h z ⟨L,rfl,m⟩;have C:=aQ n m;have D:=bf m w;clear m H b)
     |(rw[bA 23 12];refine dB (aL.new z _ _) i.size i.zero i.one ?_;intro O p t;have q:=dx t;have E:=bf q D;have F:=aQ C q;replace p:=AA p;clear t q)
     |(rw[aF 30];refine aM p i.size AB ?_)
     |(rw[aF 31];refine aM E N.size AB ?_))
    go_ret;exact⟨rfl,F⟩
theorem Jh{a:aj}{b:Nat}(c:b < a.length):a[b]?=some (a.getD b 0):=by
 rw[List.getD_eq_getElem?_getD,List.getElem?_eq_getElem c];rfl
theorem TD{b:aj}(hx:b.length=32){c:Nat}(e:c<=32)(d:∀a,c<=a->a < 32->b.getD a 0=0):dP b c=b:=by
 apply List.ext_getElem?;intro a;unfold dP;rw[qC _ _ _ (by rw[List.length_replicate];omega),List.length_replicate];by_cases b:a < c
 ·rw[if_pos b]
 ·rw[if_neg b]
  by_cases b:a < 32
  ·rw[if_pos ah,List.getElem?_replicate,if_pos ah,Jh ah,d a ah b]
  ·rw[if_neg ah]
theorem QE{a:aj}(hx:a.length=32){c:Nat}(d:c<=32){b:Nat}(f:c<=b)(g:b < 32)(e:¬a.getD b 0=0):dP a c≠a:=λf=>by
 (have d:(dP a c)[b]?=a[b]?:=by rw[f]);unfold dP at d;rw[qC _ _ _ (by rw[List.length_replicate];omega),List.length_replicate,if_neg ah,if_pos ah,List.getElem?_replicate,if_pos ah,Jh ah]at d;exact e (AL d).symm
theorem OW{f:Int}{g:aj}{h:List aj}:∀{c:Nat} {e:List aj},mY f g h c=some e->∀a,a < c->∃d,e[a]?=some d/\Qm f g h a=some d
 | 0,_,_,a,k=>by omega
 | c+1,e,b,a,k=>by
  unfold mY at b
  split at b
  ·cases b
  ·rename_i q i
   split at b
   ·cases b
   ·rename_i d l
    cases b;have m:=vv i
    rcases Nat.lt_or_ge a c with j | j
    ·obtain⟨n,o,p⟩:=OW i a j
     exact⟨n,by rw[List.getElem?_append_left ah];exact o,p⟩
    ·obtain rfl:a=c:=ah
     exact⟨d,by rw[List.getElem?_append_right ah,m,Nat.sub_self];rfl,l⟩
theorem WT{g:Int}{b:aj}{d:List aj}{c:Nat}{e f:aj}(h:dQ b c=true)(hx:d[bg b c]?=some e)(a:Qm g b d c=some f):e=f:=by
 rw[Ni h hx]at a
 split at a
 ·cases a
 ·exact AL a
theorem U0{a:World}{b c d:Addr}{e f z:aj}(k:ax a 1 (some b) 32 (ak e))(l:ax a 1 (some c) 8 (ak f))(m:ax a 1 (some d) 32 (ak z))(hx:e.length=32)(h:f.length=8)(i:z.length=32):gq (a.alloc (.cells #[.slice (some b) 32 32,.slice (some c) 8 8,.slice (some d) 32 32] 27)) (some ⟨a.heap.size,0,none⟩) [e,f,z]:=λ_=>by
 have e:aL (a.alloc (.cells #[.slice (some b) 32 32,.slice (some c) 8 8,.slice (some d) 32 32] 27)) a.heap.size 27 #[.slice (some b) 32 32,.slice (some c) 8 8,.slice (some d) 32 32]:=aL.new a 27 _;have g:=Below.aJ a (.cells #[.slice (some b) 32 32,.slice (some c) 8 8,.slice (some d) 32 32] 27);refine⟨a.heap.size,0,rfl,e.lt,λj n f=>?_⟩
 match j with
 | 0=>
  obtain rfl:=AL f;exact⟨some b,32,by rw[e.cell,hx];rfl,ah,by rw[hx];exact k.below g,λa=>by cases a⟩
 | 1=>
  obtain rfl:=AL f;exact⟨some c,8,by rw[e.cell,h];rfl,ah,by rw[h];exact l.below g,λa=>by cases a⟩
 | 2=>
  obtain rfl:=AL f;exact⟨some d,32,by rw[e.cell,i];rfl,ah,by rw[i];exact m.below g,λa=>by cases a⟩
 | j+3=>simp at f
theorem rQ{f:Program}{i:Func}{g u j:Tmp}{b:TypeId}(m:i.results=#[.tmp u,.cell g b,.tmp j])(a:Array Value)(c:World)(d:Nat)(k:TypeId)(e:Array Value)(l:Nat×Nat)(h:TypeDesc)
  (n:a.getD g undef=.pointer (some ⟨d,0,none⟩))(o:c.heap[d]?=some (.cells e k l))
  (p:f.underlying b=some h)(hd:(match h with | .struct _ | .array _ _=>true | _=>false)=true)(q:(f.info? b).map (·.size)=some e.size):
  (results i a).run f c=.ok (.tuple #[a.getD u undef,.agg e,a.getD j undef]) c:=by
 have f:a[g]?.getD undef=.pointer (some ⟨d,0,none⟩):=by simpa using n
 simp[results,m,f,asAddr,run_loadVar_row c d k b e l h o p hd q,Result.andThen]
theorem VQ(a:BitVec 8):b8 a=0↔a=0:=by
 unfold b8;constructor
 ·intro a
  apply BitVec.eq_of_toNat_eq;simp;omega
 ·rintro rfl
  rfl
theorem XQ(cnt:Int)(ch:aj)(a:ch.length=32)(w:World):(binOp .neq 50 (.agg (dW cnt ch).toArray) (.agg #[.int .i64 0,.int .u8 0,.int .u8 0,.int .u8 0,.int .u8 0,.int .u8 0,.int .u8 0,.int .u8 0,.int .u8 0,.int .u8 0,.int .u8 0,.int .u8 0,.int .u8 0,.int .u8 0,.int .u8 0,.int .u8 0,.int .u8 0,.int .u8 0,.int .u8 0,.int .u8 0,.int .u8 0,.int .u8 0,.int .u8 0,.int .u8 0,.int .u8 0,.int .u8 0,.int .u8 0,.int .u8 0,.int .u8 0,.int .u8 0,.int .u8 0,.int .u8 0,.int .u8 0])).run prog w=.ok (.bool (!decide (cnt=0/\ch=eB))) w:=XR cnt ch a w
theorem zb:(prog.info? 23).map (·.size)=some (bF:Array Value).size:=by kernel_rfl
theorem Qh:(bF:Array Value).all (·.oneCell')=true:=by kernel_rfl
def Dq(w:World)(k:aj)(f:Bool)(cnt:Int)(ch d:aj)(n:Nat)(s:Int)(ds:List aj)(e:Ending)(w':World):Prop:=
 av w w'/\((mE f cnt ch d n=false/\e=.returned (.tuple #[.slice none 0 0,.agg bF,.int .i64 8]))\/(mE f cnt ch d n=true/\mY s d ds 256=none/\e=.returned (.tuple #[.slice none 0 0,.agg bF,.int .i64 170]))\/
  (mE f cnt ch d n=true/\∃l v xs,mY s d ds 256=some l/\e=.returned (.tuple #[v,.agg (ak (dG s k (wU k f cnt ch) l 256).2).toArray,.int .i64 0])/\w'.ownsRow w.heap.size 27 1 v 257 xs/\Ty w' xs (dG s k (wU k f cnt ch) l 256).1))
section
variable {w w':World} {k:aj} {f:Bool} {cnt:Int} {ch d:aj} {n:Nat} {s:Int} {ds:List aj} {e:Ending}
theorem Dq.form(a:av w w')(b:mE f cnt ch d n=false)(c:e=.returned (.tuple #[.slice none 0 0,.agg bF,.int .i64 8])):Dq w k f cnt ch d n s ds e w':=⟨a,.inl ⟨b,c⟩⟩
theorem Dq.bad(a:av w w')(b:mE f cnt ch d n=true)(c:mY s d ds 256=none)(g:e=.returned (.tuple #[.slice none 0 0,.agg bF,.int .i64 170])):Dq w k f cnt ch d n s ds e w':=⟨a,.inr (.inl ⟨b,c,g⟩)⟩
end
theorem WQ{cnt:Int}{ch d:aj}{n a:Nat}(b:fF d=a)(c:a=n):mE false cnt ch d n=decide (cnt=0/\ch=eB):=EY ah
theorem WO{cnt:Int}{ch d:aj}{n a:Nat}(b:fF d=a)(c:a=n):mE true cnt ch d n=decide (1<=cnt/\cnt<=1099511627776):=EY ah
theorem Qi{f:Bool}{cnt:Int}{ch d:aj}{n:Nat}(a:mE f cnt ch d n=true):f=true->0<=cnt/\cnt<=1099511627776:=λb=>by
 subst b;unfold mE at a;have b:=(Bool.and_eq_true _ _ ▸ a).2;have:=BQ (show decide (1<=cnt/\cnt<=1099511627776)=true from b);omega
theorem QH(s:Int):(cu s:Int)=if 32 < (if s < 1 then 1 else s)then 32 else(if s < 1 then 1 else s):=by
 unfold cu;by_cases a:s < 1
 ·rw[if_pos a,if_pos a,if_neg ah];rfl
 ·rw[if_neg a,if_neg a]
  by_cases a:32 < s
  ·rw[if_pos a,if_pos a];rfl
  ·rw[if_neg a,if_neg a];omega
theorem Iu(k:aj)(c:k.length=32)(W:Array Value)(f:Bool)(cnt:Int)(ch d:aj)(Ě:ch.length=32)(hd:d.length=32)(Ķ:Option Addr)(n Ŧ:Nat)(hs:Sp W f cnt ch d Ķ n Ŧ)(s:Int)(ķ:s < 9223372036854775808)(ds:List aj)(w:World)(ι:j6 w Ķ n ds):
  Calls prog 229 #[.int .i64 s,.agg (ak k).toArray,.agg W] w λe w'=>Dq w k f cnt ch d n s ds e w':=by
 obtain⟨i0,ŧ,Ũ,ũ,Ū⟩:=bV Hg
 obtain⟨ψ,Ó⟩:∃ψ,Hid (ψ=(((w.alloc (.cells (ak k).toArray 23)).alloc (.cells W 292)).alloc (.cells bF 23))):=⟨_,rfl⟩
 have ū:Hid (av w ψ):=Ó.out ▸ (((Below.refl _ w).alloc (AJ _) _).alloc aZ _).alloc (by simp;omega) _
 have Ŭ:Hid (ψ.heap.size=w.heap.size+3):=by show _=_;rw[Ó.out];simp
 have ŭ:Hid (aL ψ w.heap.size 23 (ak k).toArray):=Ó.out ▸ ((aL.new w _ _).alloc _).alloc _
 have Ů:Hid (aL ψ (w.heap.size+1) 292 W):=by
  show aL _ _ _ _;rw[Ó.out];have:=aL.new (w.alloc (.cells (ak k).toArray 23)) 292 W;rw[show(w.alloc (.cells (ak k).toArray 23)).heap.size=w.heap.size+1 by simp]at this;exact this.alloc _
 have ů:Hid (aL ψ (w.heap.size+2) 23 bF):=by
  show aL _ _ _ _;rw[Ó.out];have:=aL.new ((w.alloc (.cells (ak k).toArray 23)).alloc (.cells W 292)) 23 bF;rwa[show((w.alloc (.cells (ak k).toArray 23)).alloc (.cells W 292)).heap.size=w.heap.size+2 by simp]at this
 have ý:Hid ((prog.info? 292).map (·.size)=some W.size):=by show _=_;rw[hs.size];exact zM
 have Ĺ:=AA<|λ(E:Nat) (ĺ:E < 256) w'=>UD W f cnt ch d hd Ķ n Ŧ hs E ĺ w'
 have Ű:=AA<|λw'=>u6 s w' ķ
 have Ļ:=AA<|λ(q:aj) (ě:Nat) (ω:q.length=ě) (h73:ě<=73) Ê y w' (ι:ax w' 1 (some ⟨Ê,0,none⟩) ě (ak q))=>oF q ě ω _ y w' ah ι
 have ļ:Hid (∀(q:aj) w',bq 142 #[.agg (ak (bB q)).toArray,.int .i64 s] w' (.agg (ak (dA s q)).toArray)):=λq w'=>qJ (bB q) (eU _) s ķ w'
 have hBit:=AA<|λ(E:Nat) (ĺ:E < 256) w'=>MS k c E ĺ w'
 have Ë:=AA hs.found
 have ic1:=AA hs.count
 have ich:=AA hs.chain
 have Ĝ:=AA hs.ent
 have Ô:=AA hs.sums
 have þ:Hid ((prog.info? 50).map (·.size)=some (dW cnt ch).length):=by show _=_;rw[dV Ě];exact DX
 have ĝ:=AA (XQ cnt ch Ě)
 have ű:=AA (aP (x:=k) c)
 have è:=AA c
 have é:=AA Ě
 have Ğ:=AA hd
 replace ι:=AA ι
 have ÿ:=AA (fD s)
 clear hs c Ě hd ķ
 go_enter func229,ntmps229
 go_upto_region 1 with fail
 change Code.wp _ _ _ _ (((w.alloc (.cells (ak k).toArray 23)).alloc (.cells W 292)).alloc (.cells bF 23))
 rw[<-Ó.out]
 go_wp2_with (rw[bA 23 9];refine lF (aL.new ψ _ _) zb rfl Qh ?_;intro Ų Õ c;have Ā:=AA (dx c);replace Õ:=AA Õ;clear c)
 obtain⟨γ,Ľ⟩:∃γ,ψ.heap.size=γ:=⟨_,rfl⟩
 have ğ:Hid (γ=w.heap.size+3):=Ľ ▸ Ŭ
 have Ġ:=aQ ū Ā
 have hK1:=bf Ā ŭ
 have ų:=bf Ā Ů
 have ġ:=bf Ā ů
 rw[Ľ]at Õ ⊢
 clear Ā ŭ Ů ů ū Ŭ Ľ Ó
 have hsz1:Hid (w.heap.size+4<=Ų.heap.size):=by have:=Õ.lt;have:=ğ.out;show _<=_;omega
 go_loopw [10,11] (λu v wr=>∃a:Nat,u=.int .i64 (bg d a:Nat)/\v=.int .i64 (a:Int)/\Hid (a<=256)/\Hid (av Ų wr)) (λ_ v _=>256 - (intOf v).toNat)
 case atStart=>exact⟨0,rfl,rfl,AX _,Below.refl _ _⟩
 case round=>
  obtain⟨a,rfl,rfl,κ,μ⟩:=hrel;have α:=bf μ ų;by_cases H:a < 256
  ·have Ŵ:(a:Int) < 256:=ah
   have ŵ:=AO ((a:Int)+1) ah;have I:=AA (Ĺ a H);have τ:=vw d a;have C:=AA H;cases g:dQ d a with
   | true=>
    rw[g]at I;(have Γ:=AA<|yU g);obtain⟨Ö,Δ⟩:=aS (bg d a);rw[Δ.out]at Γ τ ⊢;have z3:=AO ((Ö:Int)+1) ah;clear g H τ
    go_wp2_with (first
     |(rw[aF 28];refine aM α ý Ak ?_)
     |(go_at_call 270;refine(I wr).mono ?_;rintro e υ ⟨rfl,c⟩;have Θ:=aQ μ c;clear c I))
    go_roundw
    case rel=>exact⟨a+1,by rw[Γ.out];go_num,by go_num,C,Θ⟩
    case measure=>(have:=C.out;simp[intOf];omega)
   | false=>
    rw[g]at I;(have Γ:=AA<|wD g);clear g H τ
    go_wp2_with (first
     |(rw[aF 28];refine aM α ý Ak ?_)
     |(go_at_call 270;refine(I wr).mono ?_;rintro e υ ⟨rfl,c⟩;have Θ:=aQ μ c;clear c I))
    go_roundw
    case rel=>exact⟨a+1,by rw[Γ.out],by go_num,C,Θ⟩
    case measure=>(have:=C.out;simp[intOf];omega)
  ·obtain rfl:a=256:=aC κ
   obtain⟨Ö,Δ⟩:∃Ö,fF d=Ö:=⟨_,rfl⟩;rw[sZ d Ğ.out,Δ];obtain⟨ā,N⟩:∃Ξ,mE f cnt ch d n=Ξ:=⟨_,rfl⟩;(have h:=AA<|λw' (g:av wr w') i v (J:W[i]?=some v)=>((show aL w' (w.heap.size+1) 292 W from(g.block _ α.lt).trans α).cell i).trans J);clear H κ;go_upto_region 8 with fail
   go_cut [58]from 33 to 58 (λv δ=>v=.bool (!ā)/\Hid (av wr δ))
   case first=>
    by_cases Ă:Ö=n
    ·have ê:Hid ((Ö:Int)=(n:Int)):=by show _=_;omega
     cases f with
     | true=>
      rw[WO Δ Ă]at N;clear Δ Ă;cases ā with
      | true=>
       refine p9 (aA wr) (aA.jD (Below.refl _ _)) ?_;(iterate 2 refine aG ?_);refine bC (λw' b=>h w' b.below 66 _ Ô) ?_;refine aG ?_;refine bC (λw' b=>ê.out) ?_;(iterate 2 refine aG ?_);refine bC (λw' b=>h.out w' b.below 0 _ Ë.out) ?_;(iterate 2 refine aG ?_);refine dh (w.heap.size+1) (1) (dW cnt ch) (λw' b=>λi v J=>h w' b.below (1+i) v (Ĝ i v J)) þ Al ?_;refine cZ Br (λw' b=>(rP (dW cnt ch).toArray cnt rfl w').mono (λe L ⟨ν,g⟩=>⟨by rw[ν,N],b.next g⟩)) ?_;refine aG (v:=.bool false) ?_;refine aG (v:=.bool false) ?_;refine aG (v:=.bool false) ?_;(iterate 2 refine aG ?_);refine bC (λw' b=>h.out w' b.below 0 _ Ë.out) ?_;refine aG (v:=.bool false) ?_;(iterate 5 refine aG ?_);refine aG (v:=.bool false) ?_;refine aG (v:=.bool false) ?_;refine bR ?_;intro l Q;have Φ:=AA Q.below;go_wp2_with fail;go_meet
       case rel=>exact⟨rfl,Φ⟩
      | false=>
       refine p9 (aA wr) (aA.jD (Below.refl _ _)) ?_;(iterate 2 refine aG ?_);refine bC (λw' b=>h w' b.below 66 _ Ô) ?_;refine aG ?_;refine bC (λw' b=>ê.out) ?_;(iterate 2 refine aG ?_);refine bC (λw' b=>h.out w' b.below 0 _ Ë.out) ?_;(iterate 2 refine aG ?_);refine dh (w.heap.size+1) (1) (dW cnt ch) (λw' b=>λi v J=>h w' b.below (1+i) v (Ĝ i v J)) þ Al ?_;refine cZ Br (λw' b=>(rP (dW cnt ch).toArray cnt rfl w').mono (λe L ⟨ν,g⟩=>⟨by rw[ν,N],b.next g⟩)) ?_;refine aG (v:=.bool true) ?_;refine aG (v:=.bool true) ?_;refine aG (v:=.bool true) ?_;(iterate 10 refine aG ?_);refine aG (v:=.bool true) ?_;refine bR ?_;intro l Q;have Φ:=AA Q.below;go_wp2_with fail;go_meet
       case rel=>exact⟨rfl,Φ⟩
     | false=>
      rw[WQ Δ Ă]at N;rw[N]at ĝ;clear Δ Ă;cases ā with
      | true=>
       refine p9 (aA wr) (aA.jD (Below.refl _ _)) ?_;(iterate 2 refine aG ?_);refine bC (λw' b=>h w' b.below 66 _ Ô) ?_;refine aG ?_;refine bC (λw' b=>ê.out) ?_;(iterate 2 refine aG ?_);refine bC (λw' b=>h.out w' b.below 0 _ Ë.out) ?_;(iterate 5 refine aG ?_);refine aG (v:=.bool false) ?_;refine aG (v:=.bool false) ?_;(iterate 2 refine aG ?_);refine bC (λw' b=>h.out w' b.below 0 _ Ë.out) ?_;refine aG (v:=.bool true) ?_;(iterate 2 refine aG ?_);refine dh (w.heap.size+1) (1) (dW cnt ch) (λw' b=>λi v J=>h w' b.below (1+i) v (Ĝ i v J)) þ Al ?_;refine aG ?_;refine jr (λw' b=>iN rfl rfl rfl qK (ĝ.out w')) ?_;refine aG (v:=.bool false) ?_;refine aG (v:=.bool false) ?_;refine bR ?_;intro l Q;have Φ:=AA Q.below;go_wp2_with fail;go_meet
       case rel=>exact⟨rfl,Φ⟩
      | false=>
       refine p9 (aA wr) (aA.jD (Below.refl _ _)) ?_;(iterate 2 refine aG ?_);refine bC (λw' b=>h w' b.below 66 _ Ô) ?_;refine aG ?_;refine bC (λw' b=>ê.out) ?_;(iterate 2 refine aG ?_);refine bC (λw' b=>h.out w' b.below 0 _ Ë.out) ?_;(iterate 5 refine aG ?_);refine aG (v:=.bool false) ?_;refine aG (v:=.bool false) ?_;(iterate 2 refine aG ?_);refine bC (λw' b=>h.out w' b.below 0 _ Ë.out) ?_;refine aG (v:=.bool true) ?_;(iterate 2 refine aG ?_);refine dh (w.heap.size+1) (1) (dW cnt ch) (λw' b=>λi v J=>h w' b.below (1+i) v (Ĝ i v J)) þ Al ?_;refine aG ?_;refine jr (λw' b=>iN rfl rfl rfl qK (ĝ.out w')) ?_;refine aG (v:=.bool true) ?_;refine aG (v:=.bool true) ?_;refine bR ?_;intro l Q;have Φ:=AA Q.below;go_wp2_with fail;go_meet
       case rel=>exact⟨rfl,Φ⟩
    ·have ê:Hid (¬(Ö:Int)=(n:Int)):=by show ¬_;omega
     obtain rfl:false=ā:=N ▸ (IY ah).symm;clear Δ Ă;refine p9 (aA wr) (aA.jD (Below.refl _ _)) ?_;refine xU rfl (.tmp 10) rfl ?_;(intro K X;go_simp;refine X _ ?_;clear X K);refine aG (v:=.pointer (some ⟨w.heap.size+1,66,none⟩)) ?_;refine bC (λw' b=>h.out w' b.below 66 _ Ô.out) ?_;refine aG (v:=.int .i64 (n:Int)) ?_;refine bD (v:=.bool true) rfl (λw' b=>by have a:=ê.out;go_simp) ?_;(intro K X;go_simp;refine X _ ?_;clear X K);refine xU rfl (.tmp 37) rfl ?_;(intro K X;go_simp;refine X _ ?_;clear X K);refine eX rfl ?_;(intro K X;go_simp;refine X _ ?_;clear X K);(iterate 7 refine aG ?_);refine aG (v:=.bool true) ?_;(iterate 10 refine aG ?_);refine aG (v:=.bool true) ?_;refine bR ?_;intro l Q;have Φ:=AA Q.below;go_wp2_with fail;go_meet
     case rel=>exact⟨rfl,Φ⟩
   case rest=>
    obtain⟨rfl,Ŷ⟩:=hcut;obtain⟨υ,rfl⟩:=fB wc;have Θ:=aQ μ Ŷ;have ë:=bf Θ ġ;have ì:=bf Θ Õ;have Ψ:=aQ Ġ Θ;clear h α μ Ŷ ĝ þ;cases ā with
    | false=>
     replace N:=AA N;go_wp2_with fail;have aD:Hid (aL υ.drew γ 23 bF):=ì;refine dI (λw'=>aL w' γ 23 bF) 4 ?_;refine eO 0 rfl aD (λw' b=>gM 23 (.tmp 9) rfl (γ) rfl 23 (bF) (0,0) _ (b) AB rfl zb) ?_;refine aH 1 aD ?_;refine aU 2 ?_;refine fM (show aL υ.drew (w.heap.size+2) 23 bF from ë) zb rfl Qh ?_;intro Ω Ø S;(have ξ:=AA<|Ψ.drew.trans (au.aW S ah Ψ.size));(have Ì:=AA<|aL.kept aD S (aC ğ));refine aV Ì ?_;refine aH 3 Ì ?_;refine bT ?_;go_wp2_with fail;refine bodyPost_ret (rQ rfl _ _ (w.heap.size+2) 23 bF (0,0) _ rfl Ø AB rfl zb) rfl ?_;exact Dq.form ξ N rfl
    | true=>
     (have ľ:=AA<|GX N);have Ģ:=AA (Qi N);replace N:=AA N;clear Δ;go_upto_if 64 with(go_at_call 183;refine(Ű υ).mono ?_;rintro e Ŀ ⟨Ê,cg,rfl,ŷ,c⟩;have Ÿ:=aQ Θ c;have Ź:=AA<|EU ŷ (tH s 257) (nX s 257) _ _ rfl;clear c ŷ Ű);obtain⟨Ù,ģ⟩:=aS (cu s);rw[ģ.out]at ÿ;obtain⟨s1,Ĥ⟩:=aS ((if s < 1 then 1 else s));have í:=QH s;rw[Ĥ.out,ģ.out]at í
     go_cut [13]from 63 to 64 (λv δ=>v=.int .i64 s1/\Hid (av Ŀ δ))
     case first=>
      by_cases ź:s < 1
      ·have o:(1:Int)=s1:=by rw[<-Ĥ.out,if_pos ź]
       replace o:=AA o;go_wp2_with fail;go_meet
       case rel=>exact⟨by rw[o.out],Below.refl _ _⟩
      ·have o:s=s1:=by rw[<-Ĥ.out,if_neg ź]
       replace o:=AA o;go_wp2_with fail;go_meet
       case rel=>exact⟨by rw[o.out],Below.refl _ _⟩
     case rest=>
      obtain⟨rfl,Ż⟩:=hcut;obtain⟨w3b,rfl⟩:=fB wc;go_upto_if 66 with fail
      go_cut [13]from 65 to 66 (λv δ=>v=.int .i64 (Ù:Int)/\Hid (av w3b δ))
      case first=>
       by_cases ż:32 < s1
       ·have o:(32:Int)=(Ù:Int):=by rw[í,if_pos ż]
        replace o:=AA o;clear í;go_wp2_with fail;go_meet
        case rel=>exact⟨by rw[<-o.out],Below.refl _ _⟩
       ·have o:s1=(Ù:Int):=by rw[í,if_neg ż]
        replace o:=AA o;clear í;go_wp2_with fail;go_meet
        case rel=>exact⟨by rw[o.out],Below.refl _ _⟩
      case rest=>
       obtain⟨rfl,Ž⟩:=hcut;obtain⟨Ú,rfl⟩:=fB wc;have ŀ:=aQ Ż Ž;clear Ż Ž í;have ĥ:=aQ Ÿ ŀ;(have Ł:=AA<|Ź.below ŀ);clear ŀ Ź Ÿ Θ ë ì Ψ;go_wp2_with fail
       go_loopw [14,15] (λu v wr=>∃(a:Nat) (φ:List aj),u=.int .i64 (bg d a:Nat)/\v=.int .i64 (a:Int)/\Hid (a<=256)/\Hid (mY s d ds a=some φ)/\Hid (av Ú wr)) (λ_ v _=>256 - (intOf v).toNat)
       case atStart=>exact⟨0,[],rfl,rfl,AX _,rfl,Below.refl _ _⟩
       case round=>
        obtain⟨a,φ,rfl,rfl,κ,Í,μ⟩:=hrel;have ă:=aQ ĥ μ;have α:=bf ă ų;have î:=aQ Ġ ă;by_cases H:a < 256
        ·have Ŵ:(a:Int) < 256:=ah
         have ï:(0:Int)<=(a:Int):=ah;have ŵ:=AO ((a:Int)+1) ah;have I:=AA (Ĺ a H);have C:=AA H;(have hll:=AA<|vv Í);have Û:(kF s 257)[a]?=some (bU s a):=wK s ah;cases g:dQ d a with
         | false=>
          rw[g]at I;(have Γ:=AA<|wD g);(have ł:=AA<|D7 Í (I6 g));clear g H Û
          go_wp2_with (first
           |(rw[aF 71];refine aM α ý Ak ?_)
           |(go_at_call 270;refine(I wr).mono ?_;rintro e r ⟨rfl,c⟩;have hW5:=aQ μ c;clear c I))
          go_roundw
          case rel=>exact⟨a+1,_,by rw[Γ.out],by go_num,C,ł,hW5⟩
          case measure=>(have:=C.out;simp[intOf];omega)
         | true=>
          rw[g]at I
          have Ü:bg d a < n:=by
           rw[<-ľ.out,<-sZ d Ğ.out];exact yV d g C
          (have Γ:=AA<|yU g);obtain⟨D,Î⟩:∃D,ds[bg d a]?=some D:=⟨_,AV (by rw[ι.out.1];exact Ü)⟩;have Ï:=AA (Ni (s:=s) g Î);have F:=AA (ι.2.1.at_ Î);have ε:=AA (aP (x:=D) F);obtain⟨Ξ,Ą,rfl,Ð,Ý⟩:=ι.at_ Î;obtain⟨À,Ħ⟩:=aS (bg d a);rw[Ħ.out]at Ü Ý Γ ⊢;(have ž:=AA<|λw' (g:av wr w') k v (J:(ak D)[k]?=some v)=>((î.trans (g.mono î.size)).cell (p:=⟨Ξ,Ą+À*32+k,none⟩) Ð).trans (Ý k v J));(have hc66:=AA<|λw' (g:av wr w')=>((show aL w' (w.heap.size+1) 292 W from(g.block _ α.lt).trans α).cell _).trans Ô);obtain⟨G,Á⟩:=aS (bU s a);have ð:Hid (G.length=32):=Á.out ▸ jL s a;rw[Á.out]at Û Ï;have Þ:=AA (aP (x:=G) ð)
          have ħ:Hid (∀w',av Ú w'->∀k v,(ak G)[k]?=some v->w'.cell? ⟨Ê,a*32+k,none⟩=some v):=λw' g k v J=>by
           obtain⟨b',o',e,Ń,ń⟩:=Ł.at_ Û;(injection e with e);(injection e with o ζ);subst o ζ;have:=(g.cell (p:=⟨Ê,0+a*32+k,none⟩) Ń).trans (ń k v J);rwa[Nat.zero_add]at this
          have τ:=vw d a;rw[Ħ.out]at τ;have z11:(À:Int) < (n:Int):=ah;have z12:(0:Int)<=(À:Int):=ah;have z13:=AO ((À:Int)+1) (aC C);have z14:(a:Int) < 257:=ah;rw[ģ.out]at Ï;clear g H Û Ý Ð Î Ü τ
          go_upto_region 23 with(first
           |(rw[aF 71];refine aM α ý Ak ?_)
           |(go_at_call 270;refine(I wr).mono ?_;rintro e r ⟨rfl,c⟩;have Ñ:=AA c;have c66:=hc66 r Ñ;have hdc5:=AA (ž r Ñ);clear c I ž hc66)
           |(rw[aF 79];refine bS hdc5 ε.part AB ?_)
           |(rw[bA 23 16];refine lF (aL.new r _ _) ε.size ε.zero ε.one ?_;intro Ĩ β c;have ñ:=AA (dx c);replace β:=AA β;clear c))
          have hk6:=aQ Ñ ñ;have ò:=aQ μ hk6;have hWr6:=aQ ĥ ò;clear c66 hdc5;by_cases ó:D=G
          ·have Ņ:Hid (∀w,(binOp .eql 23 (.agg (ak D).toArray) (.agg (ak G).toArray)).run prog w=.ok (.bool true) w):=λw=>by rw[rX D G F.out ð.out w,decide_eq_true ó]
           (have ņ:=AA<|wC Í (by rw[Ï.out,if_pos (.inl ó)]) C);clear Ï ó;refine cB (aA Ĩ) (aA.jD ((Below.refl _ _).drew)) ?_;refine gu (λw' b=>(b.below.block _ β.lt).trans β) ε.size AB ?_;(iterate 3 refine aG ?_);refine dh Ê (a*32) (ak G) (λw' b=>ħ w' (ò.trans (b.below.mono ò.size))) Þ.part AB ?_;refine jr (λw' b=>iN rfl rfl rfl qD (Ņ.out w')) ?_;refine bR ?_;intro l Q;have ô:=AA Q.below;have Â:=aQ hWr6 ô;clear Q;have ë:=bf Â ġ;have ì:=bf Â Õ;have Ψ:=aQ Ġ Â;go_wp2_with fail;have aD:Hid (aL l.drew γ 23 bF):=ì;refine dI (λw'=>aL w' γ 23 bF) 4 ?_;refine eO 0 rfl aD (λw' b=>gM 23 (.tmp 9) rfl (γ) rfl 23 (bF) (0,0) _ (b) AB rfl zb) ?_;refine aH 1 aD ?_;refine aU 2 ?_;refine fM (show aL l.drew (w.heap.size+2) 23 bF from ë) zb rfl Qh ?_;intro Ω Ø S;(have ξ:=AA<|Ψ.drew.trans (au.aW S ah Ψ.size));(have Ì:=AA<|aL.kept aD S (aC ğ));refine aV Ì ?_;refine aH 3 Ì ?_;refine bT ?_;go_wp2_with fail;refine bodyPost_ret (rQ rfl _ _ (w.heap.size+2) 23 bF (0,0) _ rfl Ø AB rfl zb) rfl ?_;exact Dq.bad ξ N ņ rfl
          ·have Ņ:Hid (∀w,(binOp .eql 23 (.agg (ak D).toArray) (.agg (ak G).toArray)).run prog w=.ok (.bool false) w):=λw=>by rw[rX D G F.out ð.out w,decide_eq_false ó]
           have hne:=AA ó;clear ó;refine cB (aA Ĩ) (aA.jD ((Below.refl _ _).drew)) ?_;refine gu (λw' b=>(b.below.block _ β.lt).trans β) ε.size AB ?_;(iterate 3 refine aG ?_);refine dh Ê (a*32) (ak G) (λw' b=>ħ w' (ò.trans (b.below.mono ò.size))) Þ.part AB ?_;refine jr (λw' b=>iN rfl rfl rfl qD (Ņ.out w')) ?_;refine bR ?_;intro l Q;have ô:=AA Q.below;have Â:=aQ hWr6 ô;clear Q;have õ:=bf ô β;have hW47:=aQ ò ô;clear ô β ñ;go_wp2_with fail
           go_loopw [17] (λv j=>∃A:Nat,v=.int .i64 (A:Int)/\Hid (Ù<=A/\A<=32)/\Hid (∀E,Ù<=E->E < A->D.getD E 0=0)/\Hid (aL j r.heap.size 23 (ak D).toArray)/\Hid (av Ú j)) (λv _=>32 - (intOf v).toNat)
           case atStart=>exact⟨Ù,rfl,⟨AJ _,ÿ.2⟩,(λE η ß=>absurd η ah),õ,hW47⟩
           case round=>
            clear õ hW47 Â;obtain⟨A,rfl,Ň,hzero,hXq,ň⟩:=hrel;by_cases ö:A < 32
            ·have y1:(A:Int) < 32:=ah
             have y0:(0:Int)<=(A:Int):=ah;have y2:=AO ((A:Int)+1) ah
             have ĩ:wr.cell? ⟨r.heap.size,A,none⟩=some (.int .u8 (b8 (D.getD A 0))):=by
              rw[hXq.out.cell A,List.getElem?_toArray];unfold ak;rw[List.getElem?_map,Jh (F.out ▸ ö)];rfl
             by_cases ø:D.getD A 0=0
             ·rw[ø]at ĩ
              have hcell0:wr.cell? ⟨r.heap.size,A,none⟩=some (.int .u8 0):=ĩ
              have hz1:Hid (∀E,Ù<=E->E < A+1->D.getD E 0=0):=λE η ß=>by
               rcases Nat.lt_or_ge E A with h3 | h3
               ·exact hzero E η h3
               ·obtain rfl:E=A:=ah
                exact ø
              have hb32h:=AA ö;clear ĩ ø ö;go_wp2_with fail;go_roundw
              case rel=>exact⟨A+1,by go_num,⟨by have:=Ň.out;omega,hb32h⟩,hz1,hXq,ň⟩
              case measure=>(have:=hb32h.out;simp[intOf];omega)
             ·have Ī:¬b8 (D.getD A 0)=0:=λe=>ø ((VQ _).1 e)
              (have ņ:=AA<|wC Í (by rw[Ï.out,if_pos (.inr (QE F.out ÿ.out.2 Ň.out.1 ö ø))]) C);obtain⟨xv,hxv⟩:∃xv,b8 (D.getD A 0)=xv:=⟨_,rfl⟩;rw[hxv]at ĩ Ī;have hb9':=beq_eq_false_iff_ne.2 Ī;have Â:=aQ ĥ ň;have ë:=bf Â ġ;have ì:=bf Â Õ;have Ψ:=aQ Ġ Â;clear hxv ø ö Ï;go_wp2_with fail;have aD:Hid (aL wr.drew γ 23 bF):=ì;refine dI (λw'=>aL w' γ 23 bF) 4 ?_;refine eO 0 rfl aD (λw' b=>gM 23 (.tmp 9) rfl (γ) rfl 23 (bF) (0,0) _ (b) AB rfl zb) ?_;refine aH 1 aD ?_;refine aU 2 ?_;refine fM (show aL wr.drew (w.heap.size+2) 23 bF from ë) zb rfl Qh ?_;intro Ω Ø S;(have ξ:=AA<|Ψ.drew.trans (au.aW S ah Ψ.size));(have Ì:=AA<|aL.kept aD S (aC ğ));refine aV Ì ?_;refine aH 3 Ì ?_;refine bT ?_;go_wp2_with fail;refine bodyPost_ret (rQ rfl _ _ (w.heap.size+2) 23 bF (0,0) _ rfl Ø AB rfl zb) rfl ?_;exact Dq.bad ξ N ņ rfl
            ·obtain rfl:A=32:=aC Ň
             (have ł:=AA<|D7 Í (by rw[Ï.out,if_neg (λa=>a.elim hne.out (λa=>a (TD F.out ÿ.out.2 hzero.out)))]));clear ö Ï;go_wp2_with fail;go_roundw
             case rel=>exact⟨a+1,_,by rw[Γ.out];go_num,by go_num,C,ł,ň⟩
             case measure=>(have:=C.out;simp[intOf];omega)
        ·obtain rfl:a=256:=aC κ
         obtain⟨Y,rfl⟩:=fB wr;have ī:=bf ă hK1;have hRB:=bf ă ġ;(have hEB:=AA<|Ł.below μ);(have hsB:Hid (w.heap.size+4<=Y.heap.size):=by have:=hsz1.out;have:=ă.size;show _<=_;omega);(have hDl:=AA<|G8 ι.2.1 (m:=256) (by rw[sZ d Ğ.out,ľ.out,ι.out.1];exact AJ _) (AJ _) Í);obtain⟨t,ù⟩:=aS (wU k f cnt ch);have Ŋ:=JP (k:=k) (f:=f) (cnt:=cnt) è é;rw[ù.out]at Ŋ;obtain⟨ο,χ⟩:=aS (t.length)
         have hn0b:Hid (1<=ο/\ο<=73):=by
          show _/\_;rw[<-χ.out,Ŋ];cases f<;>decide
         have hpos:Hid (∀a,∀q∈(dG s k t φ a).1,0 < q.length):=Fe (χ.out ▸ hn0b.1);obtain⟨ï,ŋ⟩:=aS (dA s t);have hz0l:Hid (ï.length=32):=ŋ.out ▸ lg _ _;have Ō:=AA (aP (x:=ï) hz0l);(have hlead0:Hid (dG s k t φ 0=([t],ï)):=by show([t],dA s t)=_;rw[ŋ.out]);have hT5:Hid (Calls prog 224 #[.int .i64 5,.slice none 0 0] Y λe w'=>∃v,e=.returned v/\w'.ownsRow Y.heap.size 5 1 v 1 (ak [kb 5])/\av Y w'):=iB [] 0 rfl none 0 5 Y aZ ah (λa=>absurd a (BJ 0));clear H κ μ Ł ĥ Ŋ ÿ ģ Ĥ;go_upto_if 101 with(go_at_call 224;refine hT5.mono ?_;rintro e r ⟨v5,rfl,ho5,c⟩;obtain⟨ō,c5,rfl,hc5,ą,hg5,hg5'⟩:=pu ho5 aR;have ú:=AA c;have Ŏ:Hid (1<=c5/\Y.heap.size<=ō/\ō < r.heap.size):=⟨hc5,hg5,hg5'⟩;replace ą:=AA ą;have Ć:=bf c α;have d0:=(Ć.cell 0).trans Ë;clear c ho5 hc5 hg5 hg5' hT5)
         go_cut [18]from 100 to 111 (λv δ=>∃gt ct,v=.slice (some ⟨gt,0,none⟩) ο ct/\Hid (ο<=ct/\Y.heap.size<=gt/\gt < δ.heap.size)/\Hid (ax δ 1 (some ⟨gt,0,none⟩) ο (ak t))/\Hid (av Y δ))
         case first=>
          cases f with
          | false=>
           obtain rfl:[kb 5]=t:=ù;obtain rfl:1=ο:=χ;go_wp2_with fail;go_meet
           case rel=>exact⟨ō,c5,rfl,Ŏ,ą,ú⟩
          | true=>
           obtain⟨ρ,rfl⟩:=Int.eq_ofNat_of_zero_le (Ģ rfl).1;have hM40:ρ<=1099511627776:=aC ((Ģ rfl).2);(have ht3:Hid (kb 3 :: (k++(jM ρ++ch))=t):=by show _=_;rw[<-ù.out];rfl);(have hn73:ο=73:=by rw[<-χ.out,<-ht3.out];simp[è.out,é.out,iO]);subst hn73;(have ć:=AA<|(Ć.cell 1).trans ic1);have ŏ:=AA Ć.lt
           have hRk:Hid (ax r 1 (some ⟨w.heap.size,0,none⟩) 32 (ak k)):=by
            have a:=aL.reads (size:=1) (n:=32) ((ú.block _ ī.lt).trans ī:aL r w.heap.size 23 (ak k).toArray) 0 (ak k) (by rw[aB,è.out]) (λi u à=>by rw[Nat.zero_add,List.getElem?_toArray];exact à);exact(a:ax r 1 (some ⟨w.heap.size,0,none⟩) 32 (ak k))
           have hRc:Hid (ax r 1 (some ⟨w.heap.size+1,2,none⟩) 32 (ak ch)):=by
            have a:=aL.reads (size:=1) (n:=32) Ć 2 (ak ch) (by rw[aB,é.out]) (λi u à=>ich i u à);exact(a:ax r 1 (some ⟨w.heap.size+1,2,none⟩) 32 (ak ch))
           (have hE8:=AA<|wL ρ ah r.drew);clear Ģ hM40 ù χ ą Ŏ;go_wp2_with fail;have aD:Hid (r.drew.cell? ⟨w.heap.size+1,1,none⟩=some (.int .i64 (ρ:Int))):=ć;refine dI (λw'=>w'.cell? ⟨w.heap.size+1,1,none⟩=some (.int .i64 (ρ:Int))) 11 ?_;refine aH 0 aD ?_;refine aH 1 aD ?_;refine aH 2 aD ?_;refine eO 3 rfl aD (λw' b=>by have a:=b;go_simp;rfl) ?_;refine aH 5 aD ?_;refine aH 6 aD ?_;refine aH 7 aD ?_;refine aU 4 ?_;refine cK (R:=λv L=>v=.slice (some ⟨r.heap.size,0,none⟩) 8 8/\av r L/\L.ownsRow r.heap.size 5 1 (.slice (some ⟨r.heap.size,0,none⟩) 8 8) 8 (ak (jM ρ))) Bd (hE8.mono λe L ⟨ν,g,á⟩=>⟨_,ν,rfl,(((Below.refl _ r).drew).trans g),á⟩) ?_;rintro v8 O ⟨rfl,Z,ho8⟩;have Ő:=AA Z;(have s8:=AA<|(Z.cell (p:=⟨w.heap.size+1,1,none⟩) ŏ).trans ć);refine aV s8 ?_;obtain⟨j,T⟩:=aS (O.alloc (.cells #[.slice (some ⟨w.heap.size,0,none⟩) 32 32,.slice (some ⟨r.heap.size,0,none⟩) 8 8,.slice (some ⟨w.heap.size+1,2,none⟩) 32 32] 27))
           have hT3:Hid (Calls prog 224 #[.int .i64 3,.slice (some ⟨O.heap.size,0,none⟩) 3 3] j λe w'=>∃v,e=.returned v/\w'.ownsRow j.heap.size 5 1 v 73 (ak t)/\av j w'):=by
            obtain⟨Ĭ,ĭ,ő,-,-,hr8,-⟩:=iH ho8;(injection ő with ő _ _);subst ő;have Ò:=U0 (hRk.below Z) hr8 (hRc.below Z) è (iO ρ) é;rw[T.out]at Ò;have:=iB [k,jM ρ,ch] 3 rfl (some ⟨O.heap.size,0,none⟩) 3 3 j (by simp[è.out,é.out,iO]) aR Ò;rw[show 1+[k,jM ρ,ch].flatten.length=73 by simp[è.out,é.out,iO],show kb 3 :: [k,jM ρ,ch].flatten=t by rw[<-ht3.out];simp]at this;exact this
           have Ã:Hid (j.heap.size=O.heap.size+1):=by show _=_;rw[<-T.out];simp
           have s9:Hid (j.cell? ⟨w.heap.size+1,1,none⟩=some (.int .i64 (ρ:Int))):=by
            show _=_;rw[<-T.out];exact((Below.aJ O _).cell (p:=⟨w.heap.size+1,1,none⟩) (Ad ŏ Z.size)).trans s8
           clear ho8 hRk hRc;refine fP 8 (λK X=>?_);go_simp;change K _ (O.alloc (.cells #[.slice (some ⟨w.heap.size,0,none⟩) 32 32,.slice (some ⟨r.heap.size,0,none⟩) 8 8,.slice (some ⟨w.heap.size+1,2,none⟩) 32 32] 27));rw[T.out];refine X _ _ s9 ?_;clear X K;refine aU 9 ?_;refine cK (R:=λv L=>av j L/\L.ownsRow j.heap.size 5 1 v 73 (ak t)) Aw (hT3.mono λe L ⟨v,ν,á,g⟩=>⟨_,ν,g,á⟩) ?_;rintro v9 Ω ⟨Ĉ,ho9⟩;obtain⟨g9,c9,rfl,hc9,hr9,hg9,hg9'⟩:=pu ho9 aR;(have s10:=AA<|(Ĉ.cell (p:=⟨w.heap.size+1,1,none⟩) (by have:=Ã.out;have:=ŏ.out;have:=Z.size;show w.heap.size+1 < _;omega)).trans s9);refine aV s10 ?_;refine aH 10 s10 ?_;refine bT ?_;go_wp2_with fail;have hbq8:av O j:=T.out ▸ Below.aJ _ _;(have hbx:=AA<|ú.trans ((Ő.trans ((hbq8.trans (Ĉ.mono (aC Ã))).mono Ő.size)).mono ú.size));go_meet
           case rel=>exact⟨g9,c9,rfl,⟨hc9,by have:=Ã.out;have:=Ő.size;have:=ú.size;omega,hg9'⟩,hr9,hbx⟩
         case rest=>
          obtain⟨gt,ct,rfl,Į,Œ,hb2⟩:=hcut;obtain⟨υ,rfl⟩:=fB wc;clear ą Ŏ Ć ú d0 Ģ;obtain⟨wa,į⟩:=bG (υ.alloc (.cells #[.slice (some ⟨gt,0,none⟩) ο ct] 27));have hba:Hid (av υ wa):=į.out ▸ Below.aJ _ _;(have hqa:=AA<|Œ.below hba);go_upto_region 34 with fail;change Code.wp _ _ _ _ (υ.alloc (.cells #[.slice (some ⟨gt,0,none⟩) ο ct] 27));rw[<-į.out]
          go_wp2_with (first
           |(go_at_call 143;refine(Ļ t ο χ hn0b.2 gt ct wa hqa).mono ?_;rintro e Ŀ ⟨rfl,c⟩;have hb3:=AA c;clear c)
           |(go_at_call 142;refine(ļ t Ŀ).mono ?_;rw[ŋ.out];rintro e Ú ⟨rfl,c⟩;have hb4:=aQ hb3 c;clear c hb3)
           |(rw[bA 23 20];refine lF (aL.new Ú _ _) Ō.size Ō.zero Ō.one ?_;intro r İ Ñ;replace İ:=AA İ;replace Ñ:=AA Ñ))
          have œ:Hid (QV Y r Ú.heap.size (ï,[t]) (.slice (some ⟨υ.heap.size,0,none⟩) 1 1) [.slice (some ⟨gt,0,none⟩) ο ct]):=by
           have h4:=hb4.out;rw[į.out]at h4;have:=QV.start (q:=t) (z:=ï) (gt:=gt) (ct:=ct) hb2 (χ.out ▸ Œ) ⟨Į.2.1,Į.2.2⟩ (χ.out ▸ Į.1) (χ.out ▸ h4) İ Ñ;rwa[χ.out]at this
          obtain⟨θ,hbr⟩:∃θ,Ú.heap.size=θ:=⟨_,rfl⟩;rw[hbr]at œ ⊢;clear hbr İ Ñ hb4 hqa hba į Į Œ hb2
          go_loopw [14,19,21] (λnx v u wr=>∃(a i:Nat) (û:List aj) (x:aj) (ĉ:Option Addr) (Ċ:Nat) (ċ:List Value),nx=.int .i64 (bg d a:Nat)/\v=.slice ĉ i Ċ/\u=.int .i64 (a:Int)/\Hid (i=a+1)/\Hid (a<=256)/\Hid (dG s k t φ a=(û,x))/\Hid (QV Y wr θ (x,û) (.slice ĉ i Ċ) ċ)) (λ_ _ v _=>256 - (intOf v).toNat)
          case atStart=>exact⟨0,1,_,_,_,_,_,rfl,rfl,rfl,rfl,AX _,hlead0,œ⟩
          case round=>
           clear œ hlead0;obtain⟨a,i,û,x,ĉ,Ċ,ċ,rfl,rfl,rfl,ü,κ,â,h⟩:=hrel;have hKr:Hid (aL wr w.heap.size 23 (ak k).toArray):=(h.low.block _ ī.lt).trans ī;have hPrr:Hid (aL wr (w.heap.size+1) 292 W):=(h.low.block _ α.lt).trans α
           have F:Hid (x.length=32):=by
            show _=_;have:=yY s k t φ a;rwa[â.out]at this
           have ε:=AA (aP (x:=x) F);have Ŕ:Hid (aL wr θ 23 (ak x).toArray):=h.Xt
           have Č:Hid (û.length=i):=by
            show _=_;have:=yX s k t φ a;rw[â.out]at this;rw[this,ü.out]
           by_cases H:a < 256
           ·obtain⟨U,ŕ,č⟩:=OW Í a H
            have Ä:=AA (hDl.at_ ŕ);have ı:=AA (aP (x:=U) Ä);obtain⟨G,Á⟩:∃G,bU s a=G:=⟨_,rfl⟩;have Û:(kF s 257)[a]?=some G:=Á ▸ wK s ah;have ð:G.length=32:=Á ▸ jL s a;have Þ:=AA (aP (x:=G) ð);have hsame':=AA<|ı.same _ ð
            have ħ:Hid (∀k v,(ak G)[k]?=some v->wr.cell? ⟨Ê,a*32+k,none⟩=some v):=λk v J=>by
             obtain⟨b',o',e,Ń,ń⟩:=hEB.at_ Û;(injection e with e);(injection e with o ζ);subst o ζ;have:=(h.low.cell (p:=⟨Ê,0+a*32+k,none⟩) Ń).trans (ń k v J);rwa[Nat.zero_add]at this
            obtain⟨Ŗ,ŗ⟩:∃r,255 - a=r:=⟨_,rfl⟩;have Ŵ:(a:Int) < 256:=ah;have ŵ:(0:Int)<=(a:Int):=ah;(have z3:IntKind.i64.wrap (255 - (a:Int))=(Ŗ:Int):=by rw[IntWalk.i64_in _ ah];omega);have z4:=AO ((a:Int)+1) ah;have z5:(a:Int) < 257:=ah;(have Ď:=AA<|hBit Ŗ ah);obtain⟨ã,ď⟩:∃ã,Ff k Ŗ=ã:=⟨_,rfl⟩;(have hkv2:ã < 2:=by rw[<-ď];unfold Ff;omega);(have ć:Hid (i+1<=maxLen):=by have:=ü.out;show _<=_;unfold maxLen;omega);(have hc3:Hid ((i+1)*24<=140737488355328):=by have:=ü.out;show _<=_;omega);rw[ď]at Ď;(have Ř:Hid (ã=0->Ma k a x U=kb 4 :: (x++U)):=λe=>by unfold Ma;rw[ŗ,ď,if_pos e]);(have ř:Hid (ã=1->Ma k a x U=kb 4 :: (U++x)):=λe=>by unfold Ma;rw[ŗ,ď,if_neg ah]);have C:=AA H;have hndh:=AA ŕ;have I:=AA (Ĺ a H);obtain⟨bt,Å⟩:∃Ξ,dQ d a=Ξ:=⟨_,rfl⟩;rw[Å]at I;have τ:=vw d a;clear Û ŕ H ŗ ď
            go_upto_if 128 with(first
             |(rw[aF 125];refine bS ħ Þ.part AB ?_)
             |(rw[bA 23 22];refine lF (aL.new wr _ _) Þ.size Þ.zero Þ.one ?_;intro Ĩ β c;have ñ:=AA (dx c);replace β:=AA β;have hP6:=bf ñ hPrr;clear c)
             |(rw[aF 126];refine aM hP6 ý Ak ?_)
             |(go_at_call 270;refine(I Ĩ).mono ?_;rintro e l ⟨rfl,c⟩;have P:=aQ ñ c;have Ś:=bf c β;have hP7:=bf P hPrr;clear c I β ñ hP6)
             )
            have hnb0:=AA<|h.low.trans (P.mono h.low.size)
            go_cut [14]from 126 to 135 (λv δ=>v=.int .i64 (bg d (a+1):Nat)/\Hid (aL δ wr.heap.size 23 (ak U).toArray)/\Hid (av wr δ))
            case first=>
             cases bt with
             | false=>
              have o:G=U:=by
               have η:=I6 (s:=s) (ds:=ds) Å;rw[č]at η;rw[<-Á];exact(AL η).symm
              have ζ:=wD Å;subst o;clear Å č Á;go_wp2_with fail;go_meet
              case rel=>exact⟨by rw[ζ],Ś,P⟩
             | true=>
              have Ü:bg d a < n:=by
               rw[<-ľ.out,<-sZ d Ğ.out];exact yV d Å C
              obtain⟨D,Î⟩:∃D,ds[bg d a]?=some D:=⟨_,AV (by rw[ι.out.1];exact Ü)⟩;obtain rfl:=WT Å Î č;obtain⟨Ξ,Ą,rfl,Ð,Ý⟩:=ι.at_ Î;have ζ:=yU Å;obtain⟨À,Ħ⟩:=aS (bg d a);rw[Ħ.out]at Ü Ý τ ζ ⊢;have hwB7:=aQ î hnb0;(have hdc7:=AA<|λk v (J:(ak D)[k]?=some v)=>(hwB7.cell (p:=⟨Ξ,Ą+À*32+k,none⟩) Ð).trans (Ý k v J));have c66:=(hP7.cell _).trans Ô;have z11:(À:Int) < (n:Int):=ah;have z12:(0:Int)<=(À:Int):=ah;have z13:=AO ((À:Int)+1) (aC C);replace ζ:=AA ζ;clear Å č Á Ü Ý Ð Î τ
              go_wp2_with (first
               |(rw[aF 133];refine bS hdc7 ı.part AB ?_)
               |(rw[bA 23 22];refine lF Ś ı.size hsame' ı.one ?_;intro O q8 k8))
              go_meet
              case rel=>exact⟨by rw[ζ.out];go_num,q8,P.trans (au.aW k8 (AJ _) P.size)⟩
            case rest=>
             obtain⟨rfl,Ĵ,Đ⟩:=hcut;obtain⟨wx,rfl⟩:=fB wc;have ĵ:=bf Đ hKr;clear hnb0 P Ś hP7 Å č Á τ;by_cases hkv0:ã=0
             ·subst hkv0
              have ω:=Ř rfl;clear ř Ř hkv2
              go_wp2_with (first
               |(rw[aF 136];refine aM ĵ ű.size AB ?_)
               |(go_at_call 272;refine(Ď wx).mono ?_;rintro e O ⟨rfl,c⟩;have Z:=AA c;clear c Ď))
              obtain⟨V,rfl⟩:=fB O;have σ:=aQ Đ Z;have ś:=bf Z Ĵ;have đ:=bf σ Ŕ;clear Z Đ Ĵ ĵ;obtain⟨q,ä⟩:∃q:aj,Hid (kb 4 :: (x++U)=q):=⟨_,AA rfl⟩;(have Æ:Hid (q.length=65):=by show _=_;rw[<-ä.out];simp[F.out,Ä.out]);rw[ä.out]at ω;(have Ē:=AA<|wF s k t φ a â hndh ω);obtain⟨j,T⟩:=aS (tW V θ wr.heap.size);have Ŝ:Hid (av V j):=T.out ▸ kT _ _ _;have Ã:Hid (j.heap.size=V.heap.size+1):=T.out ▸ ja _ _ _
              have ē:Hid (Calls prog 224 #[.int .i64 4,.slice (some ⟨V.heap.size,0,none⟩) 2 2] j λe w'=>∃v,e=.returned v/\w'.ownsRow j.heap.size 5 1 v 65 (ak q)/\av j w'):=by
               have Ò:=jQ đ ś F Ä;rw[T.out]at Ò;have:=iB [x,U] 2 rfl (some ⟨V.heap.size,0,none⟩) 2 4 j (by simp[F.out,Ä.out]) aR Ò;rw[show 1+[x,U].flatten.length=65 by simp[F.out,Ä.out],show kb 4 :: [x,U].flatten=q by rw[<-ä.out];simp]at this;exact this
              obtain⟨Ç,å⟩:=aS (dA s q);have ŝ:Hid (Ç.length=32):=å.out ▸ lg _ _;have æ:=AA (aP (x:=Ç) ŝ);(have Ş:=AA<|æ.same _ F);rw[å.out]at Ē;clear ω;refine dI (λ_=>True) 5 ?_;refine aH 0 trivial ?_;refine aH 1 trivial ?_;refine jJ 2 trivial ?_;change wpAnyH _ _ _ _ _ _ _ _ (tW V θ wr.heap.size);rw[T.out];refine aU 3 ?_;refine cK (R:=λv L=>av j L/\L.ownsRow j.heap.size 5 1 v 65 (ak q)) Aw (ē.mono λe L ⟨v,ν,á,g⟩=>⟨_,ν,g,á⟩) ?_;rintro v7 l ⟨Ĕ,ĕ⟩;obtain⟨B,y,rfl,Ė,È,ş,ė⟩:=pu ĕ aR;refine aV trivial ?_;refine aH 4 trivial ?_;refine bT ?_;(have P:=AA<|Ŝ.trans (Ĕ.mono (aC Ã)));have É:Hid (V.heap.size<=B/\B < l.heap.size/\65<=y):=⟨by have:=Ã.out;omega,ė,Ė⟩;replace È:=AA È
              have Ę:Hid ((l.alloc (.cells #[.slice (some ⟨B,0,none⟩) 65 y] 27)).ownsRow Y.heap.size 27 1 (.slice ĉ i Ċ) i ċ):=by
               have:=h.own;rw[Č.out]at this;exact aK (aK (aK this σ) P) (Below.aJ l _)
              have Š:Hid (ax (l.alloc (.cells #[.slice (some ⟨B,0,none⟩) 65 y] 27)) 1 (some ⟨l.heap.size,0,none⟩) 1 [.slice (some ⟨B,0,none⟩) 65 y]):=aL.reads (aL.new l 27 #[.slice (some ⟨B,0,none⟩) 65 y]) 0 _ rfl (λi u à=>by rw[Nat.zero_add];simpa using à)
              have ç:Hid (av Y (l.alloc (.cells #[.slice (some ⟨B,0,none⟩) 65 y] 27))):=by
               have η:=h.low.trans (σ.mono h.low.size);have ß:=η.trans (P.mono η.size);exact ß.alloc ß.size _
              clear Ĕ ĕ Ė ş ė ē;go_upto_region 47 with(rw[bY 152];refine iL (.tmp 149) (.tmp 151) Ao ŧ Ũ ũ Ū Ę Š (λe=>by cases e) (gm rfl) ć hc3 ç.size ?_;intro v8 O M;obtain⟨Ĭ,ĭ,rfl,-⟩:=Own.reads M.own;have Ī:=AA<|M.below ç ç.size (λk e=>(Ę.lt k e).1);replace M:=AA M)
              have š:=AA<|(È.alloc (.cells #[.slice (some ⟨B,0,none⟩) 65 y] 27)).keep M.grow.size (λΞ Ą e g=>by
               (injection e with e);(injection e with o ζ);subst o
               exact M.grow.block _ g (λe=>by have:=(h.own.lt _ e.symm).2;have:=É.out;have:=σ.size;omega))
              have õ:=bf P đ;have Ţ:=AA<|aL.grown (õ.alloc _) M.grow (λe=>h.ne e.symm)
              go_wp2_with (first
               |(go_at_call 143;refine(Ļ q 65 Æ ah B y O š).mono ?_;rintro e Ω ⟨rfl,c⟩;have ξ:=AA c;clear c)
               |(go_at_call 142;refine(ļ q Ω).mono ?_;rw[å.out];rintro e w10 ⟨rfl,c⟩;have ę:=aQ ξ c;have ţ:=bf ę Ţ;clear c ξ)
               |(rw[bA 23 20];refine lF ţ æ.size Ş æ.one ?_;intro w11 Ť ť))
              go_roundw
              case rel=>exact⟨a+1,i+1,_,Ç,Ĭ,ĭ,_,rfl,rfl,by go_num,(show i+1=a+1+1 by have:=ü.out;omega),C,Ē,by
               have κ:=h.step (q:=q) (gt:=B) (ct:=y) (st':=(Ç,û++[q])) Č σ P (Æ.out ▸ È) ⟨É.1,É.2.1⟩ (Æ.out ▸ É.2.2) (Æ.out ▸ M) ę Ť ť rfl
               exact κ⟩
              case measure=>(have:=C.out;simp[intOf];omega)
             ·obtain rfl:ã=1:=ah
              have ω:=ř rfl;clear ř Ř hkv2 hkv0
              go_wp2_with (first
               |(rw[aF 136];refine aM ĵ ű.size AB ?_)
               |(go_at_call 272;refine(Ď wx).mono ?_;rintro e O ⟨rfl,c⟩;have Z:=AA c;clear c Ď))
              obtain⟨V,rfl⟩:=fB O;have σ:=aQ Đ Z;have ś:=bf Z Ĵ;have đ:=bf σ Ŕ;clear Z Đ Ĵ ĵ;obtain⟨q,ä⟩:∃q:aj,Hid (kb 4 :: (U++x)=q):=⟨_,AA rfl⟩;(have Æ:Hid (q.length=65):=by show _=_;rw[<-ä.out];simp[F.out,Ä.out]);rw[ä.out]at ω;(have Ē:=AA<|wF s k t φ a â hndh ω);obtain⟨j,T⟩:=aS (tW V wr.heap.size θ);have Ŝ:Hid (av V j):=T.out ▸ kT _ _ _;have Ã:Hid (j.heap.size=V.heap.size+1):=T.out ▸ ja _ _ _
              have ē:Hid (Calls prog 224 #[.int .i64 4,.slice (some ⟨V.heap.size,0,none⟩) 2 2] j λe w'=>∃v,e=.returned v/\w'.ownsRow j.heap.size 5 1 v 65 (ak q)/\av j w'):=by
               have Ò:=jQ ś đ Ä F;rw[T.out]at Ò;have:=iB [U,x] 2 rfl (some ⟨V.heap.size,0,none⟩) 2 4 j (by simp[F.out,Ä.out]) aR Ò;rw[show 1+[U,x].flatten.length=65 by simp[F.out,Ä.out],show kb 4 :: [U,x].flatten=q by rw[<-ä.out];simp]at this;exact this
              obtain⟨Ç,å⟩:=aS (dA s q);have ŝ:Hid (Ç.length=32):=å.out ▸ lg _ _;have æ:=AA (aP (x:=Ç) ŝ);(have Ş:=AA<|æ.same _ F);rw[å.out]at Ē;clear ω;refine dI (λ_=>True) 5 ?_;refine aH 0 trivial ?_;refine aH 1 trivial ?_;refine jJ 2 trivial ?_;change wpAnyH _ _ _ _ _ _ _ _ (tW V wr.heap.size θ);rw[T.out];refine aU 3 ?_;refine cK (R:=λv L=>av j L/\L.ownsRow j.heap.size 5 1 v 65 (ak q)) Aw (ē.mono λe L ⟨v,ν,á,g⟩=>⟨_,ν,g,á⟩) ?_;rintro v7 l ⟨Ĕ,ĕ⟩;obtain⟨B,y,rfl,Ė,È,ş,ė⟩:=pu ĕ aR;refine aV trivial ?_;refine aH 4 trivial ?_;refine bT ?_;(have P:=AA<|Ŝ.trans (Ĕ.mono (aC Ã)));have É:Hid (V.heap.size<=B/\B < l.heap.size/\65<=y):=⟨by have:=Ã.out;omega,ė,Ė⟩;replace È:=AA È
              have Ę:Hid ((l.alloc (.cells #[.slice (some ⟨B,0,none⟩) 65 y] 27)).ownsRow Y.heap.size 27 1 (.slice ĉ i Ċ) i ċ):=by
               have:=h.own;rw[Č.out]at this;exact aK (aK (aK this σ) P) (Below.aJ l _)
              have Š:Hid (ax (l.alloc (.cells #[.slice (some ⟨B,0,none⟩) 65 y] 27)) 1 (some ⟨l.heap.size,0,none⟩) 1 [.slice (some ⟨B,0,none⟩) 65 y]):=aL.reads (aL.new l 27 #[.slice (some ⟨B,0,none⟩) 65 y]) 0 _ rfl (λi u à=>by rw[Nat.zero_add];simpa using à)
              have ç:Hid (av Y (l.alloc (.cells #[.slice (some ⟨B,0,none⟩) 65 y] 27))):=by
               have η:=h.low.trans (σ.mono h.low.size);have ß:=η.trans (P.mono η.size);exact ß.alloc ß.size _
              clear Ĕ ĕ Ė ş ė ē;go_upto_region 47 with(rw[bY 152];refine iL (.tmp 149) (.tmp 151) Ao ŧ Ũ ũ Ū Ę Š (λe=>by cases e) (gm rfl) ć hc3 ç.size ?_;intro v8 O M;obtain⟨Ĭ,ĭ,rfl,-⟩:=Own.reads M.own;have Ī:=AA<|M.below ç ç.size (λk e=>(Ę.lt k e).1);replace M:=AA M)
              have š:=AA<|(È.alloc (.cells #[.slice (some ⟨B,0,none⟩) 65 y] 27)).keep M.grow.size (λΞ Ą e g=>by
               (injection e with e);(injection e with o ζ);subst o
               exact M.grow.block _ g (λe=>by have:=(h.own.lt _ e.symm).2;have:=É.out;have:=σ.size;omega))
              have õ:=bf P đ;have Ţ:=AA<|aL.grown (õ.alloc _) M.grow (λe=>h.ne e.symm)
              go_wp2_with (first
               |(go_at_call 143;refine(Ļ q 65 Æ ah B y O š).mono ?_;rintro e Ω ⟨rfl,c⟩;have ξ:=AA c;clear c)
               |(go_at_call 142;refine(ļ q Ω).mono ?_;rw[å.out];rintro e w10 ⟨rfl,c⟩;have ę:=aQ ξ c;have ţ:=bf ę Ţ;clear c ξ)
               |(rw[bA 23 20];refine lF ţ æ.size Ş æ.one ?_;intro w11 Ť ť))
              go_roundw
              case rel=>exact⟨a+1,i+1,_,Ç,Ĭ,ĭ,_,rfl,rfl,by go_num,(show i+1=a+1+1 by have:=ü.out;omega),C,Ē,by
               have κ:=h.step (q:=q) (gt:=B) (ct:=y) (st':=(Ç,û++[q])) Č σ P (Æ.out ▸ È) ⟨É.1,É.2.1⟩ (Æ.out ▸ É.2.2) (Æ.out ▸ M) ę Ť ť rfl
               exact κ⟩
              case measure=>(have:=C.out;simp[intOf];omega)
           ·obtain rfl:a=256:=aC κ
            have hRr:Hid (aL wr (w.heap.size+2) 23 bF):=(h.low.block _ hRB.lt).trans hRB;(have hbrR:Hid (θ≠w.heap.size+2):=by have:=h.le;have:=hsB.out;show _≠_;omega);clear H;go_wp2_with fail;have aD:Hid (aL wr.drew θ 23 (ak x).toArray):=Ŕ;refine dI (λw'=>aL w' θ 23 (ak x).toArray) 5 ?_;refine aH 0 aD ?_;refine eO 1 rfl aD (λw' b=>gM 23 (.tmp 20) rfl (θ) rfl 23 ((ak x).toArray) (0,0) _ (b) AB rfl ε.size) ?_;refine aH 2 aD ?_;refine aU 3 ?_;refine fM (show aL wr.drew (w.heap.size+2) 23 bF from hRr) ε.size ε.zero ε.one ?_;intro Ω Ø S;(have hX9:=AA<|aL.kept aD S hbrR);refine aV hX9 ?_;refine aH 4 hX9 ?_;refine bT ?_;go_wp2_with fail;refine bodyPost_ret (rQ rfl _ _ (w.heap.size+2) 23 (ak x).toArray (0,0) _ rfl Ø AB rfl ε.size) rfl ?_;have Ĉ:au (·=w.heap.size+2) wr Ω:=⟨S.os,S.tape,S.output,S.size,S.block⟩;obtain⟨a1,a2⟩:=h.end_ (aC hsB) Ĉ (by have:=hpos 256;rw[â.out]at this;exact this);have Ð:=î.trans (h.low.mono î.size);obtain rfl:i=257:=ü;rw[Č.out]at a1;refine⟨Ð.trans (au.aW Ĉ ah Ð.size),.inr (.inr ⟨N,φ,_,ċ,Í,?_,IW a1 î.size,?_⟩)⟩
            ·rw[ù.out,â.out];rfl
            ·rw[ù.out,â.out];exact a2
def QZ:Array Value:=#[Value.bool false,Value.int .i64 0,Value.int .u8 0,Value.int .u8 0,Value.int .u8 0,Value.int .u8 0,Value.int .u8 0,Value.int .u8 0,Value.int .u8 0,Value.int .u8 0,Value.int .u8 0,Value.int .u8 0,Value.int .u8 0,Value.int .u8 0,Value.int .u8 0,Value.int .u8 0,Value.int .u8 0,Value.int .u8 0,Value.int .u8 0,Value.int .u8 0,Value.int .u8 0,Value.int .u8 0,Value.int .u8 0,Value.int .u8 0,Value.int .u8 0,Value.int .u8 0,Value.int .u8 0,Value.int .u8 0,Value.int .u8 0,Value.int .u8 0,Value.int .u8 0,Value.int .u8 0,Value.int .u8 0,Value.int .u8 0,Value.int .u8 0,Value.int .u8 0,Value.int .u8 0,Value.int .u8 0,Value.int .u8 0,Value.int .u8 0,Value.int .u8 0,Value.int .u8 0,Value.int .u8 0,Value.int .u8 0,Value.int .u8 0,Value.int .u8 0,Value.int .u8 0,Value.int .u8 0,Value.int .u8 0,Value.int .u8 0,Value.int .u8 0,Value.int .u8 0,Value.int .u8 0,Value.int .u8 0,Value.int .u8 0,Value.int .u8 0,Value.int .u8 0,Value.int .u8 0,Value.int .u8 0,Value.int .u8 0,Value.int .u8 0,Value.int .u8 0,Value.int .u8 0,Value.int .u8 0,Value.int .u8 0,Value.int .u8 0,Value.slice none 0 0]
theorem JF:QZ.size=67:=rfl
theorem Cq(a:List (Nat×Value)):prog.built 292 a=Instr.fill (#[((0:Nat),(1:Nat)),(1,33),(34,32),(66,1)][·]?) QZ a:=by kernel_rfl
theorem Lj(a:Bool)(b:List Value)(g:b.length=33)(c:aj)(hd:c.length=32)(d:Option Addr)(e f:Nat):prog.built 292 [(0,.bool a),(1,.agg b.toArray),(2,.agg (ak c).toArray),(3,.slice d e f)]=some (gP a b c d e f).toArray:=by
 (have h:(ak c).length=32:=by rw[aB,hd]);rw[Cq];refine(gT (place:=(#[((0:Nat),(1:Nat)),(1,33),(34,32),(66,1)][·]?)) (i:=0) (v:=.bool a) (xs:=[.bool a]) (old:=[.bool false]) (pre:=[]) (post:=Value.int .i64 0 :: (List.replicate 64 (Value.int .u8 0)++[Value.slice none 0 0])) (off:=0) (size:=1) rfl rfl rfl rfl rfl).trans ?_;refine(gT (place:=(#[((0:Nat),(1:Nat)),(1,33),(34,32),(66,1)][·]?)) (i:=1) (v:=.agg b.toArray) (xs:=b) (old:=Value.int .i64 0 :: List.replicate 32 (Value.int .u8 0)) (pre:=[.bool a]) (post:=List.replicate 32 (Value.int .u8 0)++[Value.slice none 0 0]) (off:=1) (size:=33) rfl rfl g rfl rfl).trans ?_;(have j:([Value.bool a]++b++(List.replicate 32 (Value.int .u8 0)++[Value.slice none 0 0]))=([Value.bool a]++b)++List.replicate 32 (Value.int .u8 0)++[Value.slice none 0 0]:=by simp);rw[j];refine(gT (place:=(#[((0:Nat),(1:Nat)),(1,33),(34,32),(66,1)][·]?)) (i:=2) (v:=.agg (ak c).toArray) (xs:=ak c) (old:=List.replicate 32 (Value.int .u8 0)) (pre:=[.bool a]++b) (post:=[Value.slice none 0 0]) (off:=34) (size:=32) rfl rfl h (by simp[g]) rfl).trans ?_;(have j:([Value.bool a]++b++ak c++[Value.slice none 0 0])=([Value.bool a]++b++ak c)++[Value.slice none 0 0]++[]:=by simp);rw[j];refine(gT (place:=(#[((0:Nat),(1:Nat)),(1,33),(34,32),(66,1)][·]?)) (i:=3) (v:=.slice d e f) (xs:=[Value.slice d e f]) (old:=[Value.slice none 0 0]) (pre:=[.bool a]++b++ak c) (post:=[]) (off:=66) (size:=1) rfl rfl rfl (by simp[g,h]) rfl).trans ?_;rw[pK,List.append_nil];rfl
theorem Ro{d:Bool}{a:List Value}(e:∀b∈a,b.oneCell'=true){c:aj}{f:Option Addr}{g h:Nat}:(gP d a c f g h).toArray.all (·.oneCell')=true:=by
 rw[List.all_toArray];(refine List.all_eq_true.2 λb a=>?_);unfold gP at a;simp only[List.mem_append,List.mem_singleton]at a
 rcases a with((rfl | a) | a) | rfl
 ·rfl
 ·exact e b a
 ·exact aY c b a
 ·rfl
theorem O8(b:Int)(ch:aj):∀a∈dW b ch,a.oneCell'=true:=λa b=>by
 rcases Ag.1 b with rfl | b
 ·rfl
 ·exact aY ch a b
theorem Ey:(prog.info? 52).map (·.size)=some 68:=by kernel_rfl
def kN(s:Int)(root:aj)(QY:ByteArray)(f:Bool)(cnt:Int)(ch d:aj)(n:Nat)(ds:List aj):Int:=if og QY f cnt ch d n=true then Ee s root (qU (aX QY)) f cnt ch d ds else 170
theorem U2{f:ByteArray}{b:Bool}{c:Int}{ch d:aj}{e:Nat}(a:og f b c ch d e=true):mE b c ch d e=true:=by
 have d:=wz a
 have e:xq b c ch=true:=by
  unfold og at a;simp only[Bool.and_eq_true]at a;exact a.1
 unfold mE;rw[e,decide_eq_true d];rfl
theorem Gz{f:Int}{g:aj}{a:ByteArray}{b:Bool}{c:Int}{ch d:aj}{e:Nat}{h:List aj}(i:og a b c ch d e=true):kN f g a b c ch d e h=mO f g (qU (aX a)) b c ch d e h:=by unfold kN mO;rw[if_pos i,if_pos (U2 i)]
theorem J5{f:Int}{g:aj}{a:ByteArray}{b:Bool}{c:Int}{ch d:aj}{e:Nat}{h:List aj}(i:og a b c ch d e=false):kN f g a b c ch d e h=170:=by unfold kN;rw[if_neg (by rw[i];decide)]
theorem Rx(a:ByteArray)(f:Bool)(c:Int)(ch:aj)(l:ch.length=32)(d:aj)(hd:d.length=32)(g:Option Addr)(h i:Nat)(e:World):
  bq 195 #[.agg (dH a f (dW c ch) d g h i).toArray] e (.agg (gP f (dW c ch) d g h i).toArray):=by
 obtain⟨j,m⟩:∃j:Array Value,(dH a f (dW c ch) d g h i).toArray=j:=⟨_,rfl⟩
 have q:j[1]?=some (.bool f):=by rw[<-m,List.getElem?_toArray];exact nC
 have r:∀a b,(dW c ch)[a]?=some b->j[2+a]?=some b:=λa b k=>by rw[<-m,List.getElem?_toArray];exact rU a b k
 have s:∀a b,(ak d)[a]?=some b->j[35+a]?=some b:=λa b k=>by rw[<-m,List.getElem?_toArray];exact lU (dV l) a b k
 have t:j[67]?=some (.slice g h i):=by rw[<-m,List.getElem?_toArray];exact qc (dV l) hd
 rw[m]
 clear m
 obtain⟨m,n⟩:=bG ((e.alloc (.cells j 52)).alloc (.cells QZ 292))
 have p:Hid (aL m e.heap.size 52 j):=n.out ▸ (aL.new e _ _).alloc _
 have u:Hid (aL m (e.heap.size+1) 292 QZ):=by
  show aL _ _ _ _;rw[n.out];have:=aL.new (e.alloc (.cells j 52)) 292 QZ;rwa[show(e.alloc (.cells j 52)).heap.size=e.heap.size+1 by simp]at this
 have w:Hid (av e m):=n.out ▸ ((Below.refl _ e).alloc (AJ _) _).alloc aZ _
 have v:=(p.cell 1).trans q
 have v:=(p.cell 67).trans t
 have x:=AA<|λa b (k:(dW c ch)[a]?=some b)=>(p.cell (2+a)).trans (r a b k)
 have y:=AA<|λa b (k:(ak d)[a]?=some b)=>(p.cell (35+a)).trans (s a b k)
 have z:Hid ((prog.info? 50).map (·.size)=some (dW c ch).length):=by show _=_;rw[dV l];exact DX
 have A:Hid ((prog.info? 23).map (·.size)=some (ak d).length):=by show _=_;rw[aB,hd];exact jN
 have k:=AA<|λe=>run_build e _ _ _ (Lj f (dW c ch) (dV l) d hd g h i)
 have a:(gP f (dW c ch) d g h i).length=67:=Mi (dV l) hd
 have b:Hid ((prog.info? 292).map (·.size)=some (gP f (dW c ch) d g h i).toArray.size):=by show _=_;rw[List.size_toArray,a];exact zM
 have p:Hid (QZ.size=(gP f (dW c ch) d g h i).toArray.size):=by show _=_;rw[JF,List.size_toArray,a]
 have v:Hid ((gP f (dW c ch) d g h i).toArray.all (·.oneCell')=true):=Ro (O8 c ch)
 obtain⟨B,C⟩:=aS ((gP f (dW c ch) d g h i).toArray)
 rw[C.out]at k b p v ⊢
 clear a q r s t l hd
 go_enter func195,ntmps195
 go_upto_region 1 with fail
 change Code.wp _ _ _ _ ((e.alloc (.cells j 52)).alloc (.cells QZ 292))
 rw[<-n.out]
 go_wp2_with (first
  |(rw[aF 6];refine bS x z Al ?_)
  |(rw[aF 8];refine bS y A AB ?_)
  |(rw[bY 11];refine iY (o:=⟨some 11,_,_,_,_,_⟩) rfl 292 #[(0,.tmp 4),(1,.tmp 6),(2,.tmp 8),(3,.tmp 10)] rfl #[(0,.bool f),(1,.agg (dW c ch).toArray),(2,.agg (ak d).toArray),(3,.slice g h i)] (by simp;exact⟨rfl,rfl,rfl,rfl⟩) (.agg B) (k m) ?_)
  |(rw[bA 292 _];refine fw u b p v ?_))
 refine gI (setRow_heap _ _ _ _ _ _ u) b Ak ?_
 exact⟨rfl,below_setRow w ah _⟩
theorem Kh(a:ByteArray)(f:Bool)(c:Int)(ch:aj)(l:ch.length=32)(d:aj)(hd:d.length=32)(g:Option Addr)(h i:Nat)(e:World):
  bq 198 #[.agg (dH a f (dW c ch) d g h i).toArray] e (.agg (gP f (dW c ch) d g h i).toArray):=by
 obtain⟨j,m⟩:∃j:Array Value,(dH a f (dW c ch) d g h i).toArray=j:=⟨_,rfl⟩
 have q:j[1]?=some (.bool f):=by rw[<-m,List.getElem?_toArray];exact nC
 have r:∀a b,(dW c ch)[a]?=some b->j[2+a]?=some b:=λa b k=>by rw[<-m,List.getElem?_toArray];exact rU a b k
 have s:∀a b,(ak d)[a]?=some b->j[35+a]?=some b:=λa b k=>by rw[<-m,List.getElem?_toArray];exact lU (dV l) a b k
 have t:j[67]?=some (.slice g h i):=by rw[<-m,List.getElem?_toArray];exact qc (dV l) hd
 rw[m]
 clear m
 obtain⟨m,n⟩:=bG ((e.alloc (.cells j 52)).alloc (.cells QZ 292))
 have p:Hid (aL m e.heap.size 52 j):=n.out ▸ (aL.new e _ _).alloc _
 have u:Hid (aL m (e.heap.size+1) 292 QZ):=by
  show aL _ _ _ _;rw[n.out];have:=aL.new (e.alloc (.cells j 52)) 292 QZ;rwa[show(e.alloc (.cells j 52)).heap.size=e.heap.size+1 by simp]at this
 have w:Hid (av e m):=n.out ▸ ((Below.refl _ e).alloc (AJ _) _).alloc aZ _
 have v:=(p.cell 1).trans q
 have v:=(p.cell 67).trans t
 have x:=AA<|λa b (k:(dW c ch)[a]?=some b)=>(p.cell (2+a)).trans (r a b k)
 have y:=AA<|λa b (k:(ak d)[a]?=some b)=>(p.cell (35+a)).trans (s a b k)
 have z:Hid ((prog.info? 50).map (·.size)=some (dW c ch).length):=by show _=_;rw[dV l];exact DX
 have A:Hid ((prog.info? 23).map (·.size)=some (ak d).length):=by show _=_;rw[aB,hd];exact jN
 have k:=AA<|λe=>run_build e _ _ _ (Lj f (dW c ch) (dV l) d hd g h i)
 have a:(gP f (dW c ch) d g h i).length=67:=Mi (dV l) hd
 have b:Hid ((prog.info? 292).map (·.size)=some (gP f (dW c ch) d g h i).toArray.size):=by show _=_;rw[List.size_toArray,a];exact zM
 have p:Hid (QZ.size=(gP f (dW c ch) d g h i).toArray.size):=by show _=_;rw[JF,List.size_toArray,a]
 have v:Hid ((gP f (dW c ch) d g h i).toArray.all (·.oneCell')=true):=Ro (O8 c ch)
 obtain⟨B,C⟩:=aS ((gP f (dW c ch) d g h i).toArray)
 rw[C.out]at k b p v ⊢
 clear a q r s t l hd
 go_enter func198,ntmps198
 go_upto_region 1 with fail
 change Code.wp _ _ _ _ ((e.alloc (.cells j 52)).alloc (.cells QZ 292))
 rw[<-n.out]
 go_wp2_with (first
  |(rw[aF 6];refine bS x z Al ?_)
  |(rw[aF 8];refine bS y A AB ?_)
  |(rw[bY 11];refine iY (o:=⟨some 11,_,_,_,_,_⟩) rfl 292 #[(0,.tmp 4),(1,.tmp 6),(2,.tmp 8),(3,.tmp 10)] rfl #[(0,.bool f),(1,.agg (dW c ch).toArray),(2,.agg (ak d).toArray),(3,.slice g h i)] (by simp;exact⟨rfl,rfl,rfl,rfl⟩) (.agg B) (k m) ?_)
  |(rw[bA 292 _];refine fw u b p v ?_))
 refine gI (setRow_heap _ _ _ _ _ _ u) b Ak ?_
 exact⟨rfl,below_setRow w ah _⟩
theorem Iw(d c:aj)(A:d.length=32)(B:c.length=32)(h:Array Value)(q:Bool)(r:Int)(ch y:aj)(E:ch.length=32)(hd:y.length=32)(e:Option Addr)(a f:Nat)(hs:Sp h q r ch y e a f)(k:Int)(F:k < 9223372036854775808)(G:List aj)(b:World)(H:j6 b e a G):
  bq 196 #[.int .i64 k,.agg (ak d).toArray,.agg (ak c).toArray,.agg h] b (.int .i64 (mO k d c q r ch y a G)):=by
 obtain⟨i,n⟩:∃i,Hid (i=(((b.alloc (.cells (ak d).toArray 23)).alloc (.cells (ak c).toArray 23)).alloc (.cells h 292))):=⟨_,rfl⟩
 have C:Hid (av b i):=n.out ▸ (((Below.refl _ b).alloc (AJ _) _).alloc aZ _).alloc (by simp;omega) _
 have I:Hid (aL i (b.heap.size+2) 292 h):=by
  show aL _ _ _ _;rw[n.out];have:=aL.new ((b.alloc (.cells (ak d).toArray 23)).alloc (.cells (ak c).toArray 23)) 292 h;rwa[show((b.alloc (.cells (ak d).toArray 23)).alloc (.cells (ak c).toArray 23)).heap.size=b.heap.size+2 by simp]at this
 have J:Hid (aL i b.heap.size 23 (ak d).toArray):=n.out ▸ ((aL.new b _ _).alloc _).alloc _
 have K:Hid (aL i (b.heap.size+1) 23 (ak c).toArray):=by
  show aL _ _ _ _;rw[n.out];have:=aL.new (b.alloc (.cells (ak d).toArray 23)) 23 (ak c).toArray;rw[show(b.alloc (.cells (ak d).toArray 23)).heap.size=b.heap.size+1 by simp]at this;exact this.alloc _
 have L:Hid ((prog.info? 292).map (·.size)=some h.size):=by show _=_;rw[hs.size];exact zM
 have M:=AA (aP (x:=c) B)
 have N:=AA (aP (x:=d) A)
 have z:=Iu c B h q r ch y E hd e a f hs k F G i (H.below C)
 cases hok:mE q r ch y a with
 | false=>
  rw[Ew hok]
  have l:Hid (Calls prog 229 #[.int .i64 k,.agg (ak c).toArray,.agg h] i λj o=>∃p,j=.returned (.tuple #[p,.agg bF,.int .i64 8])/\av i o):=z.mono λj o a=>by
   rcases a with⟨D,a | a | a⟩
   ·exact⟨_,a.2,D⟩
   ·rw[hok]at a;cases a.1
   ·rw[hok]at a;cases a.1
  clear z H hs E hd A B hok F;(go_enter Bu,ntmps196);go_upto_region 1 with fail;change Code.wp _ _ _ _ (((b.alloc (.cells (ak d).toArray 23)).alloc (.cells (ak c).toArray 23)).alloc (.cells h 292));rw[<-n.out]
  go_wp2_with (first
   |(rw[aF 14];refine aM K M.size AB ?_)
   |(rw[aF 15];refine aM I L Ak ?_)
   |(go_at_call 229;refine l.mono ?_;rintro j s ⟨O,rfl,e⟩;have t:=aQ C e;have u:=bf e J;clear e l)
   |(rw[bA 23 10];refine dB (aL.new s _ _) zb rfl Qh ?_;intro P f m;have g:=dx m;have v:=bf g u;have w:=aQ t g;replace f:=AA f;clear m g)
   |(rw[aF 23];refine aM f zb AB ?_)
   |(rw[aF 24];refine aM v N.size AB ?_))
  go_ret;exact⟨rfl,w⟩
 | true=>
  cases hnb:mY k y G 256 with
  | none=>
   rw[Cv hok hnb]
   have l:Hid (Calls prog 229 #[.int .i64 k,.agg (ak c).toArray,.agg h] i λj o=>∃p,j=.returned (.tuple #[p,.agg bF,.int .i64 170])/\av i o):=z.mono λj o a=>by
    rcases a with⟨D,a | a | a⟩
    ·rw[hok]at a;cases a.1
    ·exact⟨_,a.2.2,D⟩
    ·obtain⟨-,y,p,G,a,-⟩:=a
     rw[hnb]at a;cases a
   clear z H hs E hd A B hok hnb F;(go_enter Bu,ntmps196);go_upto_region 1 with fail;change Code.wp _ _ _ _ (((b.alloc (.cells (ak d).toArray 23)).alloc (.cells (ak c).toArray 23)).alloc (.cells h 292));rw[<-n.out]
   go_wp2_with (first
    |(rw[aF 14];refine aM K M.size AB ?_)
    |(rw[aF 15];refine aM I L Ak ?_)
    |(go_at_call 229;refine l.mono ?_;rintro j s ⟨O,rfl,e⟩;have t:=aQ C e;have u:=bf e J;clear e l)
    |(rw[bA 23 10];refine dB (aL.new s _ _) zb rfl Qh ?_;intro P f m;have g:=dx m;have v:=bf g u;have w:=aQ t g;replace f:=AA f;clear m g)
    |(rw[aF 23];refine aM f zb AB ?_)
    |(rw[aF 24];refine aM v N.size AB ?_))
   go_ret;exact⟨rfl,w⟩
  | some y=>
   rw[Cu hok hnb]
   have l:Hid (Calls prog 229 #[.int .i64 k,.agg (ak c).toArray,.agg h] i λj o=>∃p,j=.returned (.tuple #[p,.agg (ak (dG k c (wU c q r ch) y 256).2).toArray,.int .i64 0])/\av i o):=z.mono λj o a=>by
    rcases a with⟨D,a | a | a⟩
    ·rw[hok]at a;cases a.1
    ·rw[hnb]at a;cases a.2.1
    ·obtain⟨-,Q,p,G,i,o,-⟩:=a
     rw[hnb]at i;obtain rfl:=AL i;exact⟨p,o,D⟩
   have o:=yY k c (wU c q r ch) y 256;obtain⟨i,D⟩:∃i,(dG k c (wU c q r ch) y 256).2=i:=⟨_,rfl⟩;rw[D]at o l ⊢;have a:=AA (aP (x:=i) o);have p:=AA (rT i d o A);clear z H hs E hd A B hok hnb D o F;by_cases k:i=d
   ·have o:∀b,(binOp .neq 23 (.agg (ak i).toArray) (.agg (ak d).toArray)).run prog b=.ok (.bool false) b:=λb=>by rw[p.out b,decide_eq_true k];rfl
    rw[if_pos k];clear p k;(go_enter Bu,ntmps196);go_upto_region 1 with fail;change Code.wp _ _ _ _ (((b.alloc (.cells (ak d).toArray 23)).alloc (.cells (ak c).toArray 23)).alloc (.cells h 292));rw[<-n.out]
    go_wp2_with (first
     |(rw[aF 14];refine aM K M.size AB ?_)
     |(rw[aF 15];refine aM I L Ak ?_)
     |(go_at_call 229;refine l.mono ?_;rintro j s ⟨O,rfl,e⟩;have t:=aQ C e;have u:=bf e J;clear e l)
     |(rw[bA 23 10];refine dB (aL.new s _ _) a.size a.zero a.one ?_;intro P f m;have g:=dx m;have v:=bf g u;have w:=aQ t g;replace f:=AA f;clear m g)
     |(rw[aF 23];refine aM f a.size AB ?_)
     |(rw[aF 24];refine aM v N.size AB ?_))
    go_ret;exact⟨rfl,w⟩
   ·have o:∀b,(binOp .neq 23 (.agg (ak i).toArray) (.agg (ak d).toArray)).run prog b=.ok (.bool true) b:=λb=>by rw[p.out b,decide_eq_false k];rfl
    rw[if_neg k];clear p k;(go_enter Bu,ntmps196);go_upto_region 1 with fail;change Code.wp _ _ _ _ (((b.alloc (.cells (ak d).toArray 23)).alloc (.cells (ak c).toArray 23)).alloc (.cells h 292));rw[<-n.out]
    go_wp2_with (first
     |(rw[aF 14];refine aM K M.size AB ?_)
     |(rw[aF 15];refine aM I L Ak ?_)
     |(go_at_call 229;refine l.mono ?_;rintro j s ⟨O,rfl,e⟩;have t:=aQ C e;have u:=bf e J;clear e l)
     |(rw[bA 23 10];refine dB (aL.new s _ _) a.size a.zero a.one ?_;intro P f m;have g:=dx m;have v:=bf g u;have w:=aQ t g;replace f:=AA f;clear m g)
     |(rw[aF 23];refine aM f a.size AB ?_)
     |(rw[aF 24];refine aM v N.size AB ?_))
    go_ret;exact⟨rfl,w⟩
theorem PK(h:aj)(D:h.length=32)(c:ByteArray)(P:c.size < 140737488355327)(i:Bool)(j:Int)(ch k:aj)(p:ch.length=32)(hd:k.length=32)(l:Option Addr)(e n:Nat)(E:Int)(u:List aj)(b:World)(v:bn b)(s:j6 b l e u):
  bq 120 #[.int .i64 E,.agg (ak h).toArray,.agg (dH c i (dW j ch) k l e n).toArray] b (.int .i64 (kN E h c i j ch k e u)):=by
 obtain⟨f,w⟩:∃f:Array Value,Hid ((dH c i (dW j ch) k l e n).toArray=f):=⟨_,AA rfl⟩
 have F:f[0]?=some (.string c):=by rw[<-w.out,List.getElem?_toArray];exact pJ
 have J:Hid ((prog.info? 52).map (·.size)=some f.size):=by show _=_;rw[<-w.out,List.size_toArray,qd (dV p) hd];exact Ey
 obtain⟨y,Q⟩:∃y:Array Value,Hid ((gP i (dW j ch) k l e n).toArray=y):=⟨_,AA rfl⟩
 have K:Sp y i j ch k l e n:=Q.out ▸ Sp.of i j p hd l e n
 obtain⟨o,z⟩:=bG ((b.alloc (.cells (ak h).toArray 23)).alloc (.cells f 52))
 have G:Hid (av b o):=z.out ▸ ((Below.refl _ b).alloc (AJ _) _).alloc aZ _
 have X:Hid (aL o b.heap.size 23 (ak h).toArray):=z.out ▸ (aL.new b _ _).alloc _
 have L:Hid (aL o (b.heap.size+1) 52 f):=by
  show aL _ _ _ _;rw[z.out];have:=aL.new (b.alloc (.cells (ak h).toArray 23)) 52 f;rwa[show(b.alloc (.cells (ak h).toArray 23)).heap.size=b.heap.size+1 by simp]at this
 have Y:=AA (aP (x:=h) D)
 have A:=Hf (aX c)
 have M:=AA<|λa (d:av b a)=>Vm c ah a (v.below d v.1)
 have R:Hid (∀a,bq 195 #[.agg f] a (.agg y)):=λa=>by rw[<-w.out,<-Q.out];exact Rx c i j ch p k hd l e n a
 have H:=AA<|λa (d:av b a)=>Co h (qU (aX c)) D A y i j ch k p hd l e n K E u a (v.below d v.1) (s.below d)
 rw[w.out]
 cases hok:og c i j ch k e with
 | false=>
  rw[J5 hok]
  have B:Hid (Calls prog 89 #[.agg f] o λm a=>∃N,m=.returned (.tuple #[N,.int .i64 170])/\av o a):=by
   rw[<-w.out];refine(FC c ah i j ch p k hd u l e n o (s.below G)).mono ?_;rintro m a ⟨Z,α,β,γ,rfl,-,q | q,d⟩
   ·have:=q.1
    unfold wG at this;rw[s.1,hok]at this;cases this
   ·rw[q.2.2]
    exact⟨_,rfl,d⟩
  clear s p hd D K hok M R H F A v P;(go_enter func120,ntmps120);go_upto_region 1 with fail;change Code.wp _ _ _ _ ((b.alloc (.cells (ak h).toArray 23)).alloc (.cells f 52));rw[<-z.out]
  go_wp2_with (first
   |(rw[aF 10];refine aM L J Au ?_)
   |(go_at_call 89;refine B.mono ?_;rintro m S ⟨δ,rfl,t⟩;have O:=AA t;have r:=aQ G t;clear t B))
  go_ret;exact⟨rfl,r⟩
 | true=>
  rw[Gz hok];obtain⟨θ,T⟩:∃x,mO E h (qU (aX c)) i j ch k e u=x:=⟨_,rfl⟩;rw[T]at H ⊢;obtain⟨ε,U⟩:∃x,qU (aX c)=x:=⟨_,rfl⟩;rw[U]at H M A;have ι:=AA (aP (x:=ε) A)
  have B:Hid (Calls prog 89 #[.agg f] o λm a=>∃N,m=.returned (.tuple #[N,.int .i64 0])/\av o a):=by
   rw[<-w.out];refine(FC c ah i j ch p k hd u l e n o (s.below G)).mono ?_;rintro m a ⟨Z,α,β,γ,rfl,-,q | q,d⟩
   ·rw[q.2]
    exact⟨_,rfl,d⟩
   ·have:=q.1
    unfold wG at this;rw[s.1,hok]at this;cases this
  replace F:=AA F;clear s p hd D K hok T U A v P;(go_enter func120,ntmps120);go_upto_region 1 with fail;change Code.wp _ _ _ _ ((b.alloc (.cells (ak h).toArray 23)).alloc (.cells f 52));rw[<-z.out]
  go_wp2_with (first
   |(rw[aF 10];refine aM L J Au ?_)
   |(go_at_call 89;refine B.mono ?_;rintro m S ⟨δ,rfl,t⟩;have O:=AA t;have r:=aQ G t;clear t B))
  have V:=bf O X;have I:=bf O L;refine cB (aA S) (aA.jD ((Below.refl _ _).drew)) ?_;refine aG ?_;refine gu (λa g=>(g.below.block _ V.lt).trans V) Y.size AB ?_;refine aG ?_;refine jr (λa g=>by have q:=((show aL a (b.heap.size+1) 52 f from(g.below.block _ I.lt).trans I).cell 0).trans F;go_simp;rfl) ?_;refine cZ func194 (λa g=>(M a (r.trans (g.below.mono r.size))).mono (λm W ⟨C,d⟩=>⟨C,g.next d⟩)) ?_;refine gu (λa g=>(g.below.block _ I.lt).trans I) J Au ?_;refine cZ func195 (λa g=>(R a).mono (λm W ⟨C,d⟩=>⟨C,g.next d⟩)) ?_;refine cZ Bt (λa g=>(H a (r.trans (g.below.mono r.size))).mono (λm W ⟨C,d⟩=>⟨C,g.next d⟩)) ?_;refine aG ?_;refine bR ?_;intro κ ζ;have η:=AA ζ.below;go_wp2_with fail;go_ret;exact⟨rfl,r.trans (η.mono r.size)⟩
theorem Im(i:aj)(A:i.length=32)(c:ByteArray)(E:c.size < 140737488355327)(f:Bool)(cnt:Int)(ch d:aj)(k:ch.length=32)(hd:d.length=32)(j:Option Addr)(e l:Nat)(s:Int)(ds:List aj)(b:World)(F:s < 9223372036854775808)(t:j6 b j e ds):
  bq 121 #[.int .i64 s,.agg (ak i).toArray,.agg (dH c f (dW cnt ch) d j e l).toArray] b (.int .i64 (kN s i c f cnt ch d e ds)):=by
 obtain⟨g,r⟩:∃g:Array Value,Hid ((dH c f (dW cnt ch) d j e l).toArray=g):=⟨_,AA rfl⟩
 have B:g[0]?=some (.string c):=by rw[<-r.out,List.getElem?_toArray];exact pJ
 have G:Hid ((prog.info? 52).map (·.size)=some g.size):=by show _=_;rw[<-r.out,List.size_toArray,qd (dV k) hd];exact Ey
 obtain⟨u,Q⟩:∃u:Array Value,Hid ((gP f (dW cnt ch) d j e l).toArray=u):=⟨_,AA rfl⟩
 have H:Sp u f cnt ch d j e l:=Q.out ▸ Sp.of f cnt k hd j e l
 obtain⟨n,v⟩:=bG ((b.alloc (.cells (ak i).toArray 23)).alloc (.cells g 52))
 have I:Hid (av b n):=v.out ▸ ((Below.refl _ b).alloc (AJ _) _).alloc aZ _
 have X:Hid (aL n b.heap.size 23 (ak i).toArray):=v.out ▸ (aL.new b _ _).alloc _
 have J:Hid (aL n (b.heap.size+1) 52 g):=by
  show aL _ _ _ _;rw[v.out];have:=aL.new (b.alloc (.cells (ak i).toArray 23)) 52 g;rwa[show(b.alloc (.cells (ak i).toArray 23)).heap.size=b.heap.size+1 by simp]at this
 have Y:=AA (aP (x:=i) A)
 have w:=Hf (aX c)
 have K:=AA<|λa (_:av b a)=>MP c E a
 have R:Hid (∀a,bq 198 #[.agg g] a (.agg u)):=λa=>by rw[<-r.out,<-Q.out];exact Kh c f cnt ch k d hd j e l a
 have C:=AA<|λa (m:av b a)=>Iw i (qU (aX c)) A w u f cnt ch d k hd j e l H s F ds a (t.below m)
 rw[r.out]
 cases hok:og c f cnt ch d e with
 | false=>
  rw[J5 hok]
  have y:Hid (bq 39 #[.agg g] n (.slice none 0 0)):=by
   rw[<-r.out];exact P7 c f cnt ch k d hd j e l hok n
  clear t k hd A H hok K R C B w F E;(go_enter func121,ntmps121);go_upto_region 1 with fail;change Code.wp _ _ _ _ ((b.alloc (.cells (ak i).toArray 23)).alloc (.cells g 52));rw[<-v.out]
  go_wp2_with (first
   |(rw[aF 7];refine aM J G Au ?_)
   |(go_at_call 39;refine y.mono ?_;rintro p S ⟨rfl,q⟩;have L:=AA q;have o:=aQ I q;have Z:=λM=>Lib.run_eql_slice_nil (P:=prog) M 27 5 none 0 0 0 0 AR;clear q y))
  go_ret;exact⟨rfl,o⟩
 | true=>
  rw[Gz hok];obtain⟨θ,T⟩:∃x,mO s i (qU (aX c)) f cnt ch d e ds=x:=⟨_,rfl⟩;rw[T]at C ⊢;obtain⟨α,U⟩:∃x,qU (aX c)=x:=⟨_,rfl⟩;rw[U]at C K w;have ι:=AA (aP (x:=α) w)
  have y:Hid (Calls prog 39 #[.agg g] n λp a=>∃N β O,p=.returned (.slice (some ⟨N,0,none⟩) β O)/\av n a):=by
   rw[<-r.out];refine(MR c f cnt ch k d hd ds j e l hok n (t.below I)).mono ?_;rintro p a ⟨κ,rfl,γ,m⟩;obtain⟨N,O,rfl,-,-⟩:=γ.form (by have:=vE (s:=c) (f:=f) (cnt:=cnt) (ch:=ch) (d:=d) (ds:=ds) k hd t.2.1;rw[this];cases f<;>simp<;>omega);exact⟨N,_,O,rfl,m⟩
  replace B:=AA B;clear t k hd A H hok T U w F E;(go_enter func121,ntmps121);go_upto_region 1 with fail;change Code.wp _ _ _ _ ((b.alloc (.cells (ak i).toArray 23)).alloc (.cells g 52));rw[<-v.out]
  go_wp2_with (first
   |(rw[aF 7];refine aM J G Au ?_)
   |(go_at_call 39;refine y.mono ?_;rintro p S ⟨δ,ε,c2,rfl,q⟩;have Z:=λM=>Lib.run_eql_slice_nil (P:=prog) M 27 5 (some ⟨δ,0,none⟩) ε c2 0 0 AR;have L:=AA q;have o:=aQ I q;clear q y))
  have V:=bf L X;have D:=bf L J;refine cB (aA S) (aA.jD ((Below.refl _ _).drew)) ?_;refine aG ?_;refine gu (λa h=>(h.below.block _ V.lt).trans V) Y.size AB ?_;refine aG ?_;refine jr (λa h=>by have μ:=((show aL a (b.heap.size+1) 52 g from(h.below.block _ D.lt).trans D).cell 0).trans B;go_simp;rfl) ?_;refine cZ func197 (λa h=>(K a (o.trans (h.below.mono o.size))).mono (λp W ⟨z,m⟩=>⟨z,h.next m⟩)) ?_;refine gu (λa h=>(h.below.block _ D.lt).trans D) G Au ?_;refine cZ func198 (λa h=>(R a).mono (λp W ⟨z,m⟩=>⟨z,h.next m⟩)) ?_;refine cZ Bu (λa h=>(C a (o.trans (h.below.mono o.size))).mono (λp W ⟨z,m⟩=>⟨z,h.next m⟩)) ?_;refine aG ?_;refine bR ?_;intro ν ζ;have η:=AA ζ.below;go_wp2_with fail;go_ret;exact⟨rfl,o.trans (η.mono o.size)⟩
theorem IG(b:bE)(δ:b.Ok)(c:aj)(hs:c.length=64)(d:aj)(i:Nat)(j:d.length=i)(t:Option Addr)(u:Nat)(a:World)(y:ax a 1 t i (ak d))(M:i<=u)(z:t=none->i=0/\u=0):
  bq 189 #[.agg (aI b).toArray,.agg (ak c).toArray,.slice t i u] a (.int .i64 (fE b c d)):=by
 have μ:Hid ((prog.info? 23).map (·.size)=some (ak ((eF b d).drop 32)).length):=by show _=_;rw[aB,List.length_drop,jw];exact jN
 have ν:Hid ((prog.info? 23).map (·.size)=some (ak (c.drop 32)).length):=by show _=_;rw[aB,List.length_drop,hs];exact jN
 have N:=iV ((eF b d).drop 32) (c.drop 32) (by rw[List.length_drop,jw]) (by rw[List.length_drop,hs])
 obtain⟨o,A⟩:=bG ((a.alloc (.cells (aI b).toArray 36)).alloc (.cells (ak c).toArray 57))
 have R:Hid (aL o a.heap.size 36 (aI b).toArray):=A.out ▸ heap_alloc2_old a _ _
 have E:Hid (aL o (a.heap.size+1) 57 (ak c).toArray):=A.out ▸ heap_alloc2_new a _ _
 have ξ:Hid (av a o):=A.out ▸ ((Below.refl _ a).alloc (AJ _) _).alloc aZ _
 have w:=AA<|λe (f:aA o e)=>ξ.trans (f.below.mono ξ.size)
 have α:Hid (∀e,aA o e->∀n v,(ak (c.take 32))[n]?=some v->e.cell? ⟨a.heap.size+1,0+n,none⟩=some v):=λe f n v B=>by
  have C:aL e (a.heap.size+1) 57 (ak c).toArray:=(f.below.block _ E.lt).trans E;rw[C.cell,List.getElem?_toArray];exact Jg c n v B
 have ε:Hid ((prog.info? 36).map (·.size)=some (aI b).toArray.size):=by show _=_;rw[List.size_toArray,bQ δ];exact iT
 have φ:=AA (lm c hs)
 have ζ:(c.take 32).length=32:=by simp[hs]
 have β:Hid ((prog.info? 23).map (·.size)=some (ak (c.take 32)).length):=by show _=_;rw[aB,ζ];exact jN
 have O:=iV (iU d) (c.take 32) (jI d) ζ
 have ρ:=Oy (eF b d) c (jw b d) hs
 have σ:=Oz (eF b d) c (jw b d) hs
 have S:(eF b d).take 32=iU d:=by unfold eF;rw[List.take_append_of_le_length (by rw[jI];exact Nat.le_refl _),List.take_of_length_le (by rw[jI];exact Nat.le_refl _)]
 have F:=Jf (eF b d) c
 rw[S]at F
 replace j:=AA j
 replace y:=AA y
 replace z:=AA z
 have η:=AA δ
 clear δ hs ζ σ ρ
 by_cases k:lT i=true
 ·have χ:=yZ k
  have τ:¬((i:Int) < 1):=ah;have θ:¬((64:Int) < (i:Int)):=ah;by_cases p:iU d=c.take 32
  ·have V:Hid (∀a,(Op.equalIn 10000 23 (.agg (ak (iU d)).toArray) (.agg (ak (c.take 32)).toArray)).run prog a=.ok true a):=λa=>by rw[O a,decide_eq_true p]
   by_cases G:gH b=true
   ·have P:Hid (iM b d=(eF b d,0)):=by show _=_;unfold iM;rw[j.out,if_pos k,if_pos G]
    by_cases T:eF b d=c
    ·have D:Hid (fE b c d=0):=by show _=_;unfold fE;rw[j.out,if_pos ⟨k,p⟩,if_pos G,if_pos T]
     (have ι:Hid (∀a,(Op.equalIn 10000 23 (.agg (ak ((eF b d).drop 32)).toArray) (.agg (ak (c.drop 32)).toArray)).run prog a=.ok true a):=λa=>by rw[N a,decide_eq_true (F.1 T).2]);rw[D.out];clear k p G T O N F S;(go_enter BN,ntmps189);go_wp2_with fail;change(Code.region _ _ _).wp _ _ _ ((a.alloc (.cells (aI b).toArray 36)).alloc (.cells (ak c).toArray 57));rw[<-A.out];refine cB (aA o) (aA.jD ((Below.refl _ _).drew)) ?_;(iterate 2 refine aG ?_);refine aG (v:=.bool false) ?_;(iterate 4 refine aG ?_);refine aG (v:=.bool false) ?_;(iterate 2 refine aG ?_);refine cZ Az (λe f=>(ny d i j t u e (y.below (w e f)) M ah z).mono (λU κ ⟨Q,C⟩=>⟨Q,f.next C⟩)) ?_;refine aG ?_;refine dh (a.heap.size+1) (0) (ak (c.take 32)) (λe f=>α e f) β AB ?_;refine bC (λe f=>V e) ?_;refine aG ?_;refine bR ?_;intro g h;(have l:=AA<|w g h);have υ:=ι.out;have W:Hid (aL g a.heap.size 36 (aI b).toArray):=(h.below.block _ R.lt).trans R;have X:Hid (aL g (a.heap.size+1) 57 (ak c).toArray):=(h.below.block _ E.lt).trans E;have H:=AA (lm _ (nk b d));have I:=AA (jv _ (nk b d));have J:=AA (jH (iM b d).1);rw[P.out]at H I J;clear h
     go_wp2_with (first
      |(rw[aF 25];refine aM W ε AQ ?_)
      |(go_at_call 250;refine(u7 b η d i j t u g (y.below l) M z).mono ?_;rw[P.out];rintro U m ⟨rfl,q⟩;have r:=aQ l q;have K:=bf q X;have L:Hid (av a (m.alloc (.cells gU 57))):=r.alloc r.size _;have Y:Hid (aL (m.alloc (.cells gU 57)) (a.heap.size+1) 57 (ak c).toArray):=K.alloc _;clear q)
      |(rw[bA 57 _];refine dB (heap_alloc_new m _) H I J ?_;intro ο x s;have Z:=AA<|L.trans (au.aW s r.size L.size);have γ:=AA<|Y.kept s (aC K.lt);replace x:=AA x;clear s)
      |(rw[aF 34];refine vC (m.heap.size) (32) (ak ((eF b d).drop 32)) (λn v B=>by rw[x.out.cell,List.getElem?_toArray];exact Cc _ n v B) μ AB ?_)
      |(rw[aF 36];refine vC ((a.heap.size+1)) (32) (ak (c.drop 32)) (λn v B=>by rw[γ.out.cell,List.getElem?_toArray];exact Cc _ n v B) ν AB ?_))
     go_ret;exact⟨rfl,Z⟩
    ·have D:Hid (fE b c d=161):=by show _=_;unfold fE;rw[j.out,if_pos ⟨k,p⟩,if_pos G,if_neg T]
     (have ι:Hid (∀a,(Op.equalIn 10000 23 (.agg (ak ((eF b d).drop 32)).toArray) (.agg (ak (c.drop 32)).toArray)).run prog a=.ok false a):=λa=>by rw[N a,decide_eq_false (λθ=>T (F.2 ⟨p,θ⟩))]);rw[D.out];clear k p G T O N F S;(go_enter BN,ntmps189);go_wp2_with fail;change(Code.region _ _ _).wp _ _ _ ((a.alloc (.cells (aI b).toArray 36)).alloc (.cells (ak c).toArray 57));rw[<-A.out];refine cB (aA o) (aA.jD ((Below.refl _ _).drew)) ?_;(iterate 2 refine aG ?_);refine aG (v:=.bool false) ?_;(iterate 4 refine aG ?_);refine aG (v:=.bool false) ?_;(iterate 2 refine aG ?_);refine cZ Az (λe f=>(ny d i j t u e (y.below (w e f)) M ah z).mono (λU κ ⟨Q,C⟩=>⟨Q,f.next C⟩)) ?_;refine aG ?_;refine dh (a.heap.size+1) (0) (ak (c.take 32)) (λe f=>α e f) β AB ?_;refine bC (λe f=>V e) ?_;refine aG ?_;refine bR ?_;intro g h;(have l:=AA<|w g h);have υ:=ι.out;have W:Hid (aL g a.heap.size 36 (aI b).toArray):=(h.below.block _ R.lt).trans R;have X:Hid (aL g (a.heap.size+1) 57 (ak c).toArray):=(h.below.block _ E.lt).trans E;have H:=AA (lm _ (nk b d));have I:=AA (jv _ (nk b d));have J:=AA (jH (iM b d).1);rw[P.out]at H I J;clear h
     go_wp2_with (first
      |(rw[aF 25];refine aM W ε AQ ?_)
      |(go_at_call 250;refine(u7 b η d i j t u g (y.below l) M z).mono ?_;rw[P.out];rintro U m ⟨rfl,q⟩;have r:=aQ l q;have K:=bf q X;have L:Hid (av a (m.alloc (.cells gU 57))):=r.alloc r.size _;have Y:Hid (aL (m.alloc (.cells gU 57)) (a.heap.size+1) 57 (ak c).toArray):=K.alloc _;clear q)
      |(rw[bA 57 _];refine dB (heap_alloc_new m _) H I J ?_;intro ο x s;have Z:=AA<|L.trans (au.aW s r.size L.size);have γ:=AA<|Y.kept s (aC K.lt);replace x:=AA x;clear s)
      |(rw[aF 34];refine vC (m.heap.size) (32) (ak ((eF b d).drop 32)) (λn v B=>by rw[x.out.cell,List.getElem?_toArray];exact Cc _ n v B) μ AB ?_)
      |(rw[aF 36];refine vC ((a.heap.size+1)) (32) (ak (c.drop 32)) (λn v B=>by rw[γ.out.cell,List.getElem?_toArray];exact Cc _ n v B) ν AB ?_))
     go_ret;exact⟨rfl,Z⟩
   ·have P:Hid (iM b d=(qN,1)):=by show _=_;unfold iM;rw[j.out,if_pos k,if_neg G]
    (have D:Hid (fE b c d=1):=by show _=_;unfold fE;rw[j.out,if_pos ⟨k,p⟩,if_neg G]);rw[D.out];clear k p G O N F S;(go_enter BN,ntmps189);go_wp2_with fail;change(Code.region _ _ _).wp _ _ _ ((a.alloc (.cells (aI b).toArray 36)).alloc (.cells (ak c).toArray 57));rw[<-A.out];refine cB (aA o) (aA.jD ((Below.refl _ _).drew)) ?_;(iterate 2 refine aG ?_);refine aG (v:=.bool false) ?_;(iterate 4 refine aG ?_);refine aG (v:=.bool false) ?_;(iterate 2 refine aG ?_);refine cZ Az (λe f=>(ny d i j t u e (y.below (w e f)) M ah z).mono (λU κ ⟨Q,C⟩=>⟨Q,f.next C⟩)) ?_;refine aG ?_;refine dh (a.heap.size+1) (0) (ak (c.take 32)) (λe f=>α e f) β AB ?_;refine bC (λe f=>V e) ?_;refine aG ?_;refine bR ?_;intro g h;(have l:=AA<|w g h);have W:Hid (aL g a.heap.size 36 (aI b).toArray):=(h.below.block _ R.lt).trans R;have X:Hid (aL g (a.heap.size+1) 57 (ak c).toArray):=(h.below.block _ E.lt).trans E;have H:=AA (lm _ (nk b d));have I:=AA (jv _ (nk b d));have J:=AA (jH (iM b d).1);rw[P.out]at H I J;clear h
    go_wp2_with (first
     |(rw[aF 25];refine aM W ε AQ ?_)
     |(go_at_call 250;refine(u7 b η d i j t u g (y.below l) M z).mono ?_;rw[P.out];rintro U m ⟨rfl,q⟩;have r:=aQ l q;have K:=bf q X;have L:Hid (av a (m.alloc (.cells gU 57))):=r.alloc r.size _;have Y:Hid (aL (m.alloc (.cells gU 57)) (a.heap.size+1) 57 (ak c).toArray):=K.alloc _;clear q)
     |(rw[bA 57 _];refine dB (heap_alloc_new m _) H I J ?_;intro ο x s;have Z:=AA<|L.trans (au.aW s r.size L.size);have γ:=AA<|Y.kept s (aC K.lt);replace x:=AA x;clear s))
    go_ret;exact⟨rfl,Z⟩
  ·have V:Hid (∀a,(Op.equalIn 10000 23 (.agg (ak (iU d)).toArray) (.agg (ak (c.take 32)).toArray)).run prog a=.ok false a):=λa=>by rw[O a,decide_eq_false p]
   (have D:Hid (fE b c d=160):=by show _=_;unfold fE;rw[if_neg (λb=>p b.2)]);rw[D.out];clear k p O N F S;(go_enter BN,ntmps189);go_wp2_with fail;change(Code.region _ _ _).wp _ _ _ ((a.alloc (.cells (aI b).toArray 36)).alloc (.cells (ak c).toArray 57));rw[<-A.out];refine cB (aA o) (aA.jD ((Below.refl _ _).drew)) ?_;(iterate 2 refine aG ?_);refine aG (v:=.bool false) ?_;(iterate 4 refine aG ?_);refine aG (v:=.bool false) ?_;(iterate 2 refine aG ?_);refine cZ Az (λe f=>(ny d i j t u e (y.below (w e f)) M ah z).mono (λU κ ⟨Q,C⟩=>⟨Q,f.next C⟩)) ?_;refine aG ?_;refine dh (a.heap.size+1) (0) (ak (c.take 32)) (λe f=>α e f) β AB ?_;refine bC (λe f=>V e) ?_;refine aG ?_;refine bR ?_;intro g h;(have l:=AA<|w g h);go_wp2_with fail;go_ret;exact⟨rfl,l⟩
 ·have D:Hid (fE b c d=160):=by show _=_;unfold fE;rw[j.out,if_neg (λb=>k b.1)]
  rw[D.out];clear O N F S;by_cases τ:(i:Int) < 1
  ·clear k
   (go_enter BN,ntmps189);go_wp2_with fail;change(Code.region _ _ _).wp _ _ _ ((a.alloc (.cells (aI b).toArray 36)).alloc (.cells (ak c).toArray 57));rw[<-A.out];refine cB (aA o) (aA.jD ((Below.refl _ _).drew)) ?_;(iterate 15 refine aG ?_);refine bR ?_;intro g h;(have l:=AA<|w g h);go_wp2_with fail;go_ret;exact⟨rfl,l⟩
  ·have θ:(64:Int) < (i:Int):=by
    simp[lT]at k;omega
   clear k;(go_enter BN,ntmps189);go_wp2_with fail;change(Code.region _ _ _).wp _ _ _ ((a.alloc (.cells (aI b).toArray 36)).alloc (.cells (ak c).toArray 57));rw[<-A.out];refine cB (aA o) (aA.jD ((Below.refl _ _).drew)) ?_;(iterate 2 refine aG ?_);refine aG (v:=.bool false) ?_;(iterate 12 refine aG ?_);refine bR ?_;intro g h;(have l:=AA<|w g h);go_wp2_with fail;go_ret;exact⟨rfl,l⟩
def zs:aj:=List.replicate 64 0
def pX(w:World)(g:Nat)(ds:List aj):Prop:=aL w g 57 (ds.flatMap ak).toArray
theorem kV:∀(a:List aj),nI a->(a.flatMap ak).length=a.length*64
 | [],_=>rfl
 | b :: a,c=>by
  have d:=kV a (λe hx=>c e (List.mem_cons_of_mem _ hx));(have a:(ak b).length=64:=by rw[aB];exact c b (List.mem_cons_self ..));rw[List.flatMap_cons,List.length_append,d,a,List.length_cons];omega
theorem oN:∀a,(List.replicate a zs).flatMap ak=List.replicate (a*64) (.int .u8 0)
 | 0=>rfl
 | a+1=>by
  (have b:ak zs=List.replicate 64 (.int .u8 0):=by unfold ak zs;rw[List.map_replicate];rfl);rw[List.replicate_succ,List.flatMap_cons,oN a,b,Nat.succ_mul,Nat.add_comm (a*64) 64,List.replicate_append_replicate]
theorem pX.rd{b:World}{c:Nat}{a:List aj}(d:pX b c a)(hd:nI a):kD b (some ⟨c,0,none⟩) a.length a:=
 ⟨rfl,hd,aL.reads d 0 _ (kV a hd) (λc u b=>by rw[Nat.zero_add,List.getElem?_toArray];exact b)⟩
theorem pX.below{w b:World}{a:Nat}{ds:List aj}(h:pX w a ds)(c:av w b):pX b a ds:=(c.block a (aL.lt h)).trans h
structure Yz(x:aj):Prop where
 size:(prog.info? 57).map (·.size)=some (ak x).toArray.size
 one:((ak x).toArray.all λv=>v.oneCell')=true
 part:(prog.info? 57).map (·.size)=some (ak x).length
theorem Xc{x:aj}(a:x.length=64):Yz x:=⟨by rw[List.size_toArray,aB,a];exact l7,by rw[List.all_toArray];exact List.all_eq_true.2 (aY x),by rw[aB,a];exact l7⟩
def qI(ds:List aj)(mk:aj)(i:Nat):List aj:=ds++List.replicate i mk++List.replicate (80 - i) zs
theorem GL{a:List aj}{mk:aj}(c:nI a)(d:mk.length=64)(b:Nat):nI (qI a mk b):=(c.append_ (nI.P6 b d)).append_ (nI.P6 _ rfl)
theorem GN(a:List aj)(mk:aj)(b:Nat)(c:b<=80):(qI a mk b).length=a.length+80:=by simp[qI];omega
theorem MI(b:List aj)(mk:aj)(a:Nat)(c:a < 80):(qI b mk a).set (b.length+a) mk=qI b mk (a+1):=by
 unfold qI;rw[show 80 - a=(80 - (a+1))+1 by omega,List.replicate_succ,List.set_append_right _ _ aZ,List.replicate_succ' (n:=a)];simp
theorem MJ(a:List aj)(mk:aj):qI a mk 80=a++List.replicate 80 mk:=by simp[qI]
theorem EZ{x:aj}(hx:x.length=64)(a:World):(binOp .neq 57 (.agg (ak x).toArray) (.agg (ak x).toArray)).run prog a=.ok (.bool false) a:=by rw[KJ x x hx hx];simp
theorem ME(b:List aj)(a:Nat)(p:a < 1099511627776)(k:Option Addr)(q:Nat)(mk:aj)(l:mk.length=64)(d:World)(f:kD d k a b):
  Calls prog 50 #[.slice k a q,.agg (ak mk).toArray] d λc g=>∃e,c=.returned (.slice (some ⟨e,0,none⟩) (a+80) (a+80))/\d.heap.size<=e/\pX g e (b++List.replicate 80 mk)/\av d g:=by
 obtain⟨r,s,t,u,v⟩:=bV Fj
 have w:=AA<|aL.new d 57 (ak mk).toArray
 have g:=AA<|Below.aJ d (.cells (ak mk).toArray 57)
 have y:Hid ((d.alloc (.cells (ak mk).toArray 57)).heap.size=d.heap.size+1):=by show _=_;simp
 have z:=AA<|f.below g
 have e:=AO ((a:Int)+80) ah
 have A:Hid (r.bytes*(a+80)<=281474976710656):=by show _<=_;rw[v];omega
 have B:Hid (a+80<=maxLen):=by show _<=_;unfold maxLen;omega
 have m:=AA f.all
 have h:=AA f.len
 have n:=AA (Xc (x:=mk) l)
 have s1:Hid (((List.replicate (a+80) zs).flatMap ak).toArray.size=(a+80)*64):=by show _=_;rw[List.size_toArray,oN,List.length_replicate]
 have C:Hid (Nat.min a (a+80)=a):=Nat.min_eq_left ah
 have i:Hid ((b.flatMap ak).length=a*64):=by show _=_;rw[kV _ m.out,h.out]
 have D:Hid (0+(b.flatMap ak).length<=((List.replicate (a+80) zs).flatMap ak).toArray.size):=by show _<=_;rw[s1.out,i.out];omega
 have E:Hid (∀e∈b.flatMap ak,e.oneCell'=true):=λe j=>by
  obtain⟨F,_,hd⟩:=List.mem_flatMap.1 j;exact aY F e hd
 have F:Hid ((((List.replicate (a+80) zs).flatMap ak).toArray.toList.take 0++b.flatMap ak++((List.replicate (a+80) zs).flatMap ak).toArray.toList.drop (0+(b.flatMap ak).length)).toArray=((qI b mk 0).flatMap ak).toArray):=by
  show _=_;rw[Nat.zero_add,i.out,List.toList_toArray,wI _ a (nI.P6 _ rfl),List.drop_replicate,show a+80 - a=80 by omega];simp[qI]
 have j:=AA l
 have H:=AA p
 have G:(0:Int)<=(a:Int):=ah
 clear f l p
 go_enter func50,ntmps50
 go_wp2_with (first
  |(at_make;refine wpList_make_full _ rfl (.tmp 9) (.tmp 9) 37 rfl d.heap.size 57 r (.agg kW) 64 Ar s t u .i64 .i64 ((a:Int)+80) ((a:Int)+80) (a+80) rfl rfl ah ah A B (aC y) ?_;rw[y.out];intro p l f;rw[I7,<-oN]at l;have r:Hid (pX p (d.heap.size+1) (List.replicate (a+80) zs)):=OU l;have y:=AA<|w.grown f aZ;have p:=AA<|g.grown f g.size (λ_ c=>by cases c);have G:=AA (z.below ((Below.refl _ _).grown f (AJ _) (λ_ c=>by cases c)));clear l f w g z)
  |(rw[bY 13];refine rF (o:=⟨some 13,_,_,_,_,_⟩) rfl (.tmp 11) (.tmp 12) 37 37 rfl 57 64 Ar l7 k (a+80) (a+80) a q (d.heap.size+1) 0 rfl rfl _ 57 r a C (b.flatMap ak) i G.rd rfl aR D E ?_;rw[F.out];intro g f c;have g:=AA<|p.trans (au.aW c ah p.size);have k:=AA<|y.kept c ah;clear c r y p G))
 clear s1 C i D E F A B s t u v
 go_loopw [6] (λe wr=>∃c:Nat,e=.int .i64 (((a+c:Nat)):Int)/\Hid (c<=80)/\Hid (pX wr (d.heap.size+1) (qI b mk c))/\Hid (aL wr d.heap.size 57 (ak mk).toArray)/\Hid (av d wr)) (λe _=>a+80 - (intOf e).toNat)
 case atStart=>exact⟨0,rfl,AX _,f,k,g⟩
 case round=>
  clear f k g;obtain⟨c,rfl,q,i,k,l⟩:=hrel;obtain⟨e,f⟩:=aS (a+c);rw[f.out];have g:(0:Int)<=(e:Int):=ah;by_cases g:c < 80
  ·have r:(e:Int) < (a:Int)+80:=aC f
   have p:(e:Int) < 9223372036854775807:=dn f H;have p:=AA (MI b mk c g)
   have s:Hid (e*64+(ak mk).toArray.size<=((qI b mk c).flatMap ak).toArray.size):=by
    show _<=_;rw[List.size_toArray,List.size_toArray,aB,j.out,kV _ (GL m.out j.out c),GN b mk c ah,h.out,<-f.out];omega
   have t:Hid ((((qI b mk c).flatMap ak).toArray.toList.take (e*64)++(ak mk).toArray.toList++((qI b mk c).flatMap ak).toArray.toList.drop (e*64+(ak mk).toArray.size)).toArray=((qI b mk (c+1)).flatMap ak).toArray):=by
    show _=_;rw[List.toList_toArray,List.toList_toArray,List.size_toArray,aB,j.out,vH _ (GL m.out j.out c) e (by rw[GN b mk c ah,h.out,<-f.out];omega),<-p.out,h.out,f.out]
   have h:=AA g;clear g p
   go_wp2_with (first
    |(rw[aF 24];refine aM k n.size Af ?_)
    |(rw[iE 57 _];refine dO (o:=⟨none,_,_,_,_,_⟩) rfl 57 (.tmp 25) (.tmp 24) rfl (d.heap.size+1) (e*64) (ak mk).toArray rfl rfl 57 _ i n.size s n.one ?_;rw[t.out]))
   go_roundw
   case rel=>exact⟨c+1,by rw[<-f.out];go_num,h,setRow_heap _ _ _ _ _ _ i,(setRow_other _ _ _ _ ah).trans k,below_setRow l ah _⟩
   case measure=>(have:=f.out;have:=h.out;simp[intOf];omega)
  ·obtain rfl:c=80:=aC q
   have r:(a:Int)+80<=(e:Int):=aC f;(have a:Hid (pX wr (d.heap.size+1) (b++List.replicate 80 mk)):=by show pX _ _ _;rw[<-MJ];exact i);clear g;go_wp2_with fail;go_ret;exact⟨_,rfl,BF _,a,l⟩
theorem KS(d:List aj)(n:Nat)(r:n < 1099511627776)(f:Nat)(A:Option Addr)(c:Nat)(mk:aj)(h:mk.length=64)(b:World)(j:kD b A n d)(s:pX b f (d++List.replicate 80 mk)):
  bq 54 #[.slice (some ⟨f,0,none⟩) (n+80) (n+80),.slice A n c,.agg (ak mk).toArray] b (.bool true):=by
 have u:=AA<|aL.new b 57 (ak mk).toArray
 have m:=AA<|Below.aJ b (.cells (ak mk).toArray 57)
 have o:=j.len
 have hF:kD b (some ⟨f,0,none⟩) (n+80) (d++List.replicate 80 mk):=by
  have:=s.rd (nI.append_ j.all (nI.P6 80 h));rwa[show(d++List.replicate 80 mk).length=n+80 by simp[o]]at this
 have v:kD b (some ⟨f,0,none⟩) n d:=by
  have:=hF.oo n ah;rwa[List.take_append_of_le_length ah,List.take_of_length_le ah]at this
 have w:=AA (λa (g:av b a)=>Cx d n ah (some ⟨f,0,none⟩) A (n+80) c a (v.below g) (j.below g))
 have z:=sU (A:=some ⟨f,0,none⟩) (n:=n+80) (c:=n+80) (k:=n) ah (n:Int) rfl
 have d:=AO ((n:Int)+80) ah
 have y:=AA (Xc (x:=mk) h)
 have B:=AA (λa=>EZ (x:=mk) h a)
 have C:=AA r
 have D:Hid (∀i,i < 80->∀a,av b a->∀e d,(ak mk)[e]?=some d->a.cell? ⟨f,(n+i)*64+e,none⟩=some d):=λi E a g e d q=>by
  obtain⟨H,I,l,F,G⟩:=hF.at_ (i:=n+i) (t:=mk) (by rw[List.getElem?_append_right ah,o,show n+i - n=i by omega,List.getElem?_replicate,if_pos E]);(injection l with l);(injection l with E H);subst E H;have:=(g.cell (p:=⟨f,0+(n+i)*64+e,none⟩) F).trans (G e d q);rwa[Nat.zero_add]at this
 have E:(0:Int)<=(n:Int):=ah
 clear j s o hF v h r
 go_enter func54,ntmps54
 go_wp2_with (go_at_call 80;refine(w _ m).mono ?_;rintro l o ⟨rfl,r,j⟩;have h:Below (b.alloc (.cells (ak mk).toArray 57)).heap.size (b.alloc (.cells (ak mk).toArray 57)) o:=(j ▸ fI (Below.refl _ _) r);clear j;have j:=bf h u;have l:=aQ m h;clear h u m)
 clear z w
 go_loopw [7] (λd wr=>∃i:Nat,d=.int .i64 (((n+i:Nat)):Int)/\Hid (i<=80)/\Hid (aL wr b.heap.size 57 (ak mk).toArray)/\Hid (av b wr)) (λd _=>n+80 - (intOf d).toNat)
 case atStart=>exact⟨0,rfl,AX _,j,l⟩
 case round=>
  clear j l;obtain⟨i,rfl,o,h,g⟩:=hrel;obtain⟨e,b⟩:=aS (n+i);rw[b.out];have j:(0:Int)<=(e:Int):=ah;by_cases j:i < 80
  ·have r:(e:Int) < (n:Int)+80:=aC b
   have l:(e:Int) < 9223372036854775807:=dn b C
   have hx:Hid (∀a,av wr a->∀k d,(ak mk)[k]?=some d->a.cell? ⟨f,e*64+k,none⟩=some d):=λa l k d q=>by
    have:=D i j a (g.trans (l.mono g.size)) k d q;rwa[b.out]at this
   have m:=AA j;clear j;go_wp2_with fail;refine cB (aA wr) (aA.jD ((Below.refl _ _).drew)) ?_;(iterate 3 refine aG ?_);refine dh f (e*64) (ak mk) (λa d=>hx a d.below) y.part Af ?_;refine gu (λa d=>(d.below.block _ h.lt).trans h) y.size Af ?_;refine jr (λa d=>iN rfl rfl rfl yP (B a)) ?_;refine bR ?_;intro a d;have a:=AA ((d.below.block _ h.lt).trans h);have l:=AA (g.trans (d.below.mono g.size));go_wp2_with fail;go_roundw
   case rel=>exact⟨i+1,by rw[<-b.out];go_num,m,a,l⟩
   case measure=>(have:=b.out;have:=m.out;simp[intOf];omega)
  ·obtain rfl:i=80:=aC o
   have r:(n:Int)+80<=(e:Int):=aC b;clear j;go_wp2_with fail;go_ret;exact⟨rfl,g⟩
theorem Tj(c:Option Addr)(a d b:Nat)(f:a<=b)(e:World):
  Calls prog 7 #[.slice c a d,.int .i64 (b:Int)] e λf g=>f=.returned (.slice c a d)/\e=g:=by
 have c:(a:Int)<=(b:Int):=ah
 go_enter func7,ntmps7
 go_wp2_with fail
 go_ret
 exact⟨rfl,rfl⟩
theorem Vx(A:Option Addr)(n c a:Nat)(d:a < n)(e:n<=c)(b:World):
  Calls prog 7 #[.slice A n c,.int .i64 (a:Int)] b λd e=>d=.returned (.slice A a c)/\b=e:=by
 have b:(a:Int) < (n:Int):=ah
 have b:=qE (P:=prog) (t:=24) (A:=A) (n:=n) (c:=c) (m:=a) underlying24 (λ_=>rfl) ah (a:Int) rfl
 go_enter func7,ntmps7
 go_wp2_with fail
 go_ret
 exact⟨rfl,rfl⟩
theorem Tk(d:Option Addr)(a b c:Nat)(g:a<=b)(e:World):
  Calls prog 7 #[.slice d a b,.int .i64 (c:Int)] e λf h=>f=.returned (.slice d (min a c) b)/\e=h:=by
 by_cases f:a<=c
 ·rw[Nat.min_eq_left f]
  exact Tj d a b c f e
 ·rw[Nat.min_eq_right ah]
  exact Vx d a b c ah g e
theorem IU{a:World}{b:Option Addr}{c:List aj}(d:gq a b c)(e:Nat):gq a b (c.take e):=λh0=>by
 obtain⟨b,c,e,f,g⟩:=d (by rw[List.length_take]at h0;omega);refine⟨b,c,e,f,λd h a=>g d h ?_⟩;rw[List.getElem?_take]at a
 split at a
 ·exact a
 ·cases a
theorem Tp(c:Option Addr)(a d b:Nat)(f:a<=b)(e:World):
  Calls prog 11 #[.slice c a d,.int .i64 (b:Int)] e λf g=>f=.returned (.slice c a d)/\e=g:=by
 have c:(a:Int)<=(b:Int):=ah
 go_enter func11,ntmps11
 go_wp2_with fail
 go_ret
 exact⟨rfl,rfl⟩
theorem Vz(A:Option Addr)(n c a:Nat)(d:a < n)(e:n<=c)(b:World):
  Calls prog 11 #[.slice A n c,.int .i64 (a:Int)] b λd e=>d=.returned (.slice A a c)/\b=e:=by
 have b:(a:Int) < (n:Int):=ah
 have b:=vY (A:=A) (n:=n) (c:=c) (k:=a) ah (a:Int) rfl
 go_enter func11,ntmps11
 go_wp2_with fail
 go_ret
 exact⟨rfl,rfl⟩
theorem Fz(d:Option Addr)(a b c:Nat)(g:a<=b)(e:World):
  Calls prog 11 #[.slice d a b,.int .i64 (c:Int)] e λf h=>f=.returned (.slice d (min a c) b)/\e=h:=by
 by_cases f:a<=c
 ·rw[Nat.min_eq_left f]
  exact Tp d a b c f e
 ·rw[Nat.min_eq_right ah]
  exact Vz d a b c ah g e
theorem Tm(c:Option Addr)(a d b:Nat)(f:a<=b)(e:World):
  Calls prog 10 #[.slice c a d,.int .i64 (b:Int)] e λf g=>f=.returned (.slice c a d)/\e=g:=by
 have c:(a:Int)<=(b:Int):=ah
 go_enter func10,ntmps10
 go_wp2_with fail
 go_ret
 exact⟨rfl,rfl⟩
theorem Vy(A:Option Addr)(n c a:Nat)(d:a < n)(e:n<=c)(b:World):
  Calls prog 10 #[.slice A n c,.int .i64 (a:Int)] b λd e=>d=.returned (.slice A a c)/\b=e:=by
 have b:(a:Int) < (n:Int):=ah
 have b:=sU (A:=A) (n:=n) (c:=c) (k:=a) ah (a:Int) rfl
 go_enter func10,ntmps10
 go_wp2_with fail
 go_ret
 exact⟨rfl,rfl⟩
theorem Tn(d:Option Addr)(a b c:Nat)(g:a<=b)(e:World):
  Calls prog 10 #[.slice d a b,.int .i64 (c:Int)] e λf h=>f=.returned (.slice d (min a c) b)/\e=h:=by
 by_cases f:a<=c
 ·rw[Nat.min_eq_left f]
  exact Tm d a b c f e
 ·rw[Nat.min_eq_right ah]
  exact Vy d a b c ah g e
