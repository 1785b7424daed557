import Derived.Test.YtgldkfaiofkhbaaGreatDoorZ0
import Derived.Laws.BitsAll
import Derived.Laws.Bits64
namespace Go.Proofs.YtgldkfaiofkhbaaGreatDoor
open Go Go.RowKit
def u(x:BitVec 32):Int:=(x.toNat:Int)
def b8(x:BitVec 8):Int:=(x.toNat:Int)
theorem JO(a:BitVec 32):0<=u a:=by unfold u;omega
theorem Xy(a:BitVec 32):u a < 4294967296:=by unfold u;have:=a.isLt;omega
theorem kz(a:BitVec 8):0<=b8 a:=by unfold b8;omega
theorem j3(a:BitVec 8):b8 a < 256:=by unfold b8;have:=a.isLt;omega
theorem Dj{a b:BitVec 8}(c:b8 a=b8 b):a=b:=by unfold b8 at c;exact BitVec.eq_of_toNat_eq ah
theorem wB(a:BitVec 32):BitVec.ofInt 32 (u a)=a:=by
 unfold u;apply BitVec.eq_of_toNat_eq;rw[BitVec.ofInt_natCast,BitVec.toNat_ofNat];exact Nat.mod_eq_of_lt a.isLt
theorem kZ(a:Int):IntKind.u32.wrap a=a % 4294967296:=by simp[IntKind.wrap,IntKind.bits,IntKind.signed]
theorem LW(a:BitVec 32):IntKind.u32.wrap ((a.toNat:Nat):Int)=u a:=by
 rw[kZ];unfold u;have:=a.isLt;omega
theorem Qe(a b:BitVec 32):bits .or .u32 (u a) (u b)=u (a ||| b):=by
 show IntKind.u32.wrap ((BitVec.ofInt 32 (u a) ||| BitVec.ofInt 32 (u b)).toNat:Int)=_;rw[wB,wB,LW]
theorem Ws(a b:BitVec 32):bits .and .u32 (u a) (u b)=u (a &&& b):=by
 show IntKind.u32.wrap ((BitVec.ofInt 32 (u a) &&& BitVec.ofInt 32 (u b)).toNat:Int)=_;rw[wB,wB,LW]
theorem JG(a b:BitVec 32):bits .xor .u32 (u a) (u b)=u (a ^^^ b):=by
 show IntKind.u32.wrap ((BitVec.ofInt 32 (u a) ^^^ BitVec.ofInt 32 (u b)).toNat:Int)=_;rw[wB,wB,LW]
theorem Ya(a b:BitVec 32):(u a+u b) % 4294967296=u (a+b):=by
 unfold u;rw[BitVec.toNat_add];omega
theorem Ru(a:BitVec 32)(b:Nat):u a / 2 ^ b=u (a >>> b):=by
 unfold u;rw[BitVec.toNat_ushiftRight,Nat.shiftRight_eq_div_pow];simp
theorem Rv(a:BitVec 32)(b:Nat):u a*2 ^ b % 4294967296=u (a <<< b):=by
 unfold u;rw[BitVec.toNat_shiftLeft,Nat.shiftLeft_eq];simp
theorem I4(a:BitVec 32):bits .xor .u32 (if IntKind.u32.signed=true then -1 else IntKind.u32.max) (u a)=u (~~~a):=by
 (have a:(if IntKind.u32.signed=true then(-1:Int)else IntKind.u32.max)=u (BitVec.allOnes 32):=by decide);rw[a,JG,BitVec.allOnes_xor]
def si(x:BitVec 32)(n:Nat):BitVec 32:=x >>> n ||| x <<< (32 - n)
theorem V9(a:BitVec 32)(b:Nat):bits .or .u32 (u a / 2 ^ b) (u a*2 ^ (32 - b) % 4294967296)=u (si a b):=by
 rw[Ru,Rv,Qe];rfl
def z(c:BitVec 8):BitVec 32:=BitVec.ofNat 32 c.toNat
theorem Yj(a:BitVec 8):u (z a)=b8 a:=by
 unfold u z b8;rw[BitVec.toNat_ofNat];have:=a.isLt;omega
def nH(x:BitVec 32)(n:Nat):BitVec 8:=BitVec.ofNat 8 (x.toNat / 2 ^ n)
theorem Q9(a:BitVec 32)(b:Nat):u a / 2 ^ b % 256=b8 (nH a b):=by
 unfold u b8 nH;rw[BitVec.toNat_ofNat];simp
def sN(c0 c1 c2 c3:BitVec 8):BitVec 32:=z c0 <<< 24 ||| z c1 <<< 16 ||| z c2 <<< 8 ||| z c3
theorem Wu(c c1 c2 d:BitVec 8):
  bits .or .u32 (bits .or .u32 (bits .or .u32 (b8 c*16777216) (b8 c1*65536)) (b8 c2*256)) (b8 d)=u (sN c c1 c2 d):=by
 have e:∀(b:BitVec 8) (a:Nat),a<=24->b8 b*2 ^ a=u (z b <<< a):=by
  intro b a f;rw[<-Rv,Yj];have h0:=kz b;have g:=j3 b
  have g:(2:Int) ^ a<=16777216:=by
   have:(2:Nat) ^ a<=2 ^ 24:=Nat.pow_le_pow_right aR f;(have f:(2:Nat) ^ 24=16777216:=by decide);have:((2 ^ a:Nat):Int)<=16777216:=ah;simpa using this
  have f:(0:Int) < 2 ^ a:=by
   have:=Nat.two_pow_pos a;have:(0:Int) < ((2 ^ a:Nat):Int):=ah;simpa using this
  rw[Int.emod_eq_of_lt]
  ·exact Int.mul_nonneg h0 ah
  ·have:b8 b*2 ^ a<=255*16777216:=Int.mul_le_mul ah g ah ah
   omega
 have a:=e c 24 ah
 have b:=e c1 16 ah
 have c:=e c2 8 ah
 have e:(2:Int) ^ 24=16777216:=by decide
 have f:(2:Int) ^ 16=65536:=by decide
 have g:(2:Int) ^ 8=256:=by decide
 rw[e]at a
 rw[f]at b
 rw[g]at c
 rw[a,b,c,<-Yj d,Qe,Qe,Qe]
 rfl
theorem Oj(a:BitVec 8):IntKind.u32.wrap (b8 a)=b8 a:=by
 rw[kZ];have:=kz a;have:=j3 a;omega
theorem LX(a:BitVec 8):IntKind.u32.wrap (b8 a*16777216)=b8 a*16777216:=by
 rw[kZ];have:=kz a;have:=j3 a;omega
theorem LY(a:BitVec 8):IntKind.u32.wrap (b8 a*65536)=b8 a*65536:=by
 rw[kZ];have:=kz a;have:=j3 a;omega
theorem Pq(a:BitVec 8):IntKind.u32.wrap (b8 a*256)=b8 a*256:=by
 rw[kZ];have:=kz a;have:=j3 a;omega
theorem zJ(a b:BitVec 32):IntKind.u32.wrap (u a+u b)=u (a+b):=by rw[kZ,Ya]
def pF(x:BitVec 32)(c:BitVec 8):BitVec 32:=x <<< 8 ||| z c
theorem WK(a:BitVec 32)(b:BitVec 8):bits .or .u32 (u a*256 % 4294967296) (b8 b)=u (pF a b):=by
 have c:=Rv a 8;(have a:(2:Int) ^ 8=256:=by decide);rw[a]at c;rw[c,<-Yj b,Qe];rfl
theorem XJ(a c1 c2 b:BitVec 8):pF (pF (pF (pF 0 a) c1) c2) b=sN a c1 c2 b:=by
 have h0:∀a:Nat,(0:BitVec 32) <<< a=0:=by
  intro a;apply BitVec.eq_of_toNat_eq;simp
 have b:∀a:BitVec 32,0 ||| a=a:=by
  intro a;apply BitVec.eq_of_toNat_eq;simp
 unfold pF sN;simp only[BitVec.shiftLeft_or_distrib,<-BitVec.shiftLeft_add,h0,b]
def aD(x:BitVec 32):BitVec 32:=si x 7 ^^^ si x 18 ^^^ x >>> 3
def s1(x:BitVec 32):BitVec 32:=si x 17 ^^^ si x 19 ^^^ x >>> 10
def bX(m:Nat->BitVec 32)(t:Nat):BitVec 32:=
 if _h:t < 16 then m t else bX m (t - 16)+aD (bX m (t - 15))+bX m (t - 7)+s1 (bX m (t - 2))
termination_by t
decreasing_by all_goals omega
theorem yM(b:Nat->BitVec 32){a:Nat}(c:a < 16):bX b a=b a:=by rw[bX,dif_pos c]
theorem ED(b:Nat->BitVec 32){a:Nat}(c:16<=a):bX b a=bX b (a - 16)+aD (bX b (a - 15))+bX b (a - 7)+s1 (bX b (a - 2)):=by rw[bX,dif_neg ah]
structure St where
 a:BitVec 32
 b:BitVec 32
 c:BitVec 32
 d:BitVec 32
 e:BitVec 32
 f:BitVec 32
 g:BitVec 32
 h:BitVec 32
def St.get(s:St):Nat->BitVec 32
 | 0=>s.a
 | 1=>s.b
 | 2=>s.c
 | 3=>s.d
 | 4=>s.e
 | 5=>s.f
 | 6=>s.g
 | _=>s.h
def Yw(e:BitVec 32):BitVec 32:=si e 6 ^^^ si e 11 ^^^ si e 25
def Yx(a:BitVec 32):BitVec 32:=si a 2 ^^^ si a 13 ^^^ si a 22
def ch(e f g:BitVec 32):BitVec 32:=e &&& f ^^^ ~~~e &&& g
def Yo(a b c:BitVec 32):BitVec 32:=a &&& b ^^^ a &&& c ^^^ b &&& c
theorem X6(a b c:BitVec 32):ch a b c=(a &&& b) ^^^ (~~~a &&& c):=rfl
theorem WV(a b c:BitVec 32):Yo a b c=((a &&& b) ^^^ (a &&& c)) ^^^ (b &&& c):=rfl
theorem Xd(b c a:BitVec 32):a ^^^ (b &&& (c ^^^ a))=ch b c a:=by
 rw[X6];ext d e;simp only[BitVec.getElem_xor,BitVec.getElem_and,BitVec.getElem_not];cases b[d]<;>cases c[d]<;>cases a[d]<;>rfl
theorem Ve(a b c:BitVec 32):(a &&& b) ||| (c &&& (a ||| b))=Yo a b c:=by
 rw[WV];ext d e;simp only[BitVec.getElem_xor,BitVec.getElem_and,BitVec.getElem_or];cases a[d]<;>cases b[d]<;>cases c[d]<;>rfl
def t1(k w:BitVec 32)(s:St):BitVec 32:=s.h+Yw s.e+ch s.e s.f s.g+k+w
def t2(s:St):BitVec 32:=Yx s.a+Yo s.a s.b s.c
def step(k w:BitVec 32)(s:St):St:=⟨t1 k w s+t2 s,s.a,s.b,s.c,s.d+t1 k w s,s.e,s.f,s.g⟩
def Gl:List Nat:=[1116352408,1899447441,3049323471,3921009573,961987163,1508970993,2453635748,2870763221,3624381080,310598401,607225278,1426881987,1925078388,2162078206,2614888103,3248222580,3835390401,4022224774,264347078,604807628,770255983,1249150122,1555081692,1996064986,2554220882,2821834349,2952996808,3210313671,3336571891,3584528711,113926993,338241895,666307205,773529912,1294757372,1396182291,1695183700,1986661051,2177026350,2456956037,2730485921,2820302411,3259730800,3345764771,3516065817,3600352804,4094571909,275423344,430227734,506948616,659060556,883997877,958139571,1322822218,1537002063,1747873779,1955562222,2024104815,2227730452,2361852424,2428436474,2756734187,3204031479,3329325298]
def VW:List Nat:=[1779033703,3144134277,1013904242,2773480762,1359893119,2600822924,528734635,1541459225]
def K(t:Nat):BitVec 32:=BitVec.ofNat 32 (Gl.getD t 0)
def fU:St:=⟨BitVec.ofNat 32 1779033703,BitVec.ofNat 32 3144134277,BitVec.ofNat 32 1013904242,BitVec.ofNat 32 2773480762,BitVec.ofNat 32 1359893119,BitVec.ofNat 32 2600822924,BitVec.ofNat 32 528734635,BitVec.ofNat 32 1541459225⟩
def vZ(m:Nat->BitVec 32)(s:St):Nat->St
 | 0=>s
 | t+1=>step (K t) (bX m t) (vZ m s t)
def mh(s:St)(m:Nat->BitVec 32):St:=
 ⟨s.a+(vZ m s 64).a,s.b+(vZ m s 64).b,s.c+(vZ m s 64).c,s.d+(vZ m s 64).d,s.e+(vZ m s 64).e,s.f+(vZ m s 64).f,s.g+(vZ m s 64).g,s.h+(vZ m s 64).h⟩
theorem Le(a:St)(c:Nat->BitVec 32)(b:Nat):(mh a c).get b=a.get b+(vZ c a 64).get b:=by
 unfold mh St.get
 split<;>rfl
abbrev aj:=List (BitVec 8)
def Yp(l:aj)(k t:Nat):BitVec 32:=sN (l.getD (64*k+4*t) 0) (l.getD (64*k+4*t+1) 0) (l.getD (64*k+4*t+2) 0) (l.getD (64*k+4*t+3) 0)
def dZ(l:aj):Nat->St
 | 0=>fU
 | n+1=>mh (dZ l n) (Yp l n)
theorem J6{b c:Nat->BitVec 32}(f:∀a,a < 16->b a=c a)(a:Nat):bX b a=bX c a:=by
 induction a using Nat.strongRecOn with
 | _ a d=>
  by_cases e:a < 16
  ·rw[yM b e,yM c e,f a e]
  ·rw[ED b ah,ED c ah,d (a - 16) ah,d (a - 15) ah,d (a - 7) ah,d (a - 2) ah]
theorem PV{b c:Nat->BitVec 32}(e:∀a,a < 16->b a=c a)(d:St)(a:Nat):vZ b d a=vZ c d a:=by
 induction a with
 | zero=>rfl
 | succ a b=>rw[vZ,vZ,b,J6 e]
theorem NQ{b c:Nat->BitVec 32}(e:∀a,a < 16->b a=c a)(d:St):mh d b=mh d c:=by
 unfold mh;rw[PV e]
theorem qw(a c:aj)(b:Nat)(d:b < a.length):(a++c).getD b 0=a.getD b 0:=by
 simp only[List.getD,List.getElem?_append_left d]
theorem ug(a c:aj)(b:Nat)(d:a.length<=b):(a++c).getD b 0=c.getD (b - a.length) 0:=by
 simp only[List.getD,List.getElem?_append_right d]
theorem C9(b c:aj):∀a,64*a<=b.length->dZ (b++c) a=dZ b a
 | 0,_=>rfl
 | a+1,d=>by
  rw[dZ,dZ,C9 b c a ah];refine NQ (λa b=>?_) _;unfold Yp;rw[qw _ _ _ ah,qw _ _ _ ah,qw _ _ _ ah,qw _ _ _ ah]
def tX(n s:Nat):BitVec 8:=BitVec.ofNat 8 (8*n % 18446744073709551616 / 2 ^ s)
def fq(n:Nat):Nat:=(n+72) / 64*64
def ES(l:aj)(i:Nat):BitVec 8:=
 if i < l.length then l.getD i 0 else if i=l.length then 128 else if fq l.length - 8<=i then tX l.length (8*(fq l.length - 1 - i))else 0
def gF(l:aj):aj:=(List.range (fq l.length)).map (ES l)
def uq(s:St):aj:=(List.range 32).map λi=>nH (s.get (i / 4)) (24 - 8*(i % 4))
def bB(l:aj):aj:=uq (dZ (gF l) (fq l.length / 64))
theorem eU(a:aj):(bB a).length=32:=by simp[bB,uq]
theorem Q5(a:Nat):a+9<=fq a/\fq a<=a+72/\fq a % 64=0:=by unfold fq;omega
def xA(n k:Nat):aj:=[128]++List.replicate (k - 1) 0++(List.range 8).map λi=>tX n (56 - 8*i)
theorem tF(b a:Nat)(c:1<=a):(xA b a).length=a+8:=by simp[xA];omega
theorem Tw(a:aj)(b:Nat)(c:1<=b)(d:b<=64)(e:(a.length+b) % 64=56):a++xA a.length b=gF a:=by
 (have c:fq a.length=a.length+b+8:=by unfold fq;omega);apply List.ext_getElem?;intro b;unfold gF;by_cases c:b < fq a.length
 ·rw[List.getElem?_map,List.getElem?_range c]
  simp only[Option.map_some];unfold ES;by_cases c1:b < a.length
  ·rw[if_pos c1,List.getElem?_append_left c1]
   simp[List.getD,c1]
  ·rw[if_neg c1,List.getElem?_append_right ah]
   unfold xA;by_cases c2:b=a.length
   ·rw[if_pos c2]
    subst c2;simp
   ·rw[if_neg c2]
    by_cases c:fq a.length - 8<=b
    ·rw[if_pos c,List.getElem?_append_right (by simp;omega)]
     simp only[List.length_append,List.length_singleton,List.length_replicate];rw[List.getElem?_map,List.getElem?_range ah];simp only[Option.map_some,Option.some.injEq];congr 1;omega
    ·rw[if_neg c,List.getElem?_append_left (by simp;omega),List.getElem?_append_right (by simp;omega)]
     rw[List.getElem?_replicate,if_pos (by simp;omega)]
 ·rw[List.getElem?_eq_none (by simp[xA];omega),List.getElem?_eq_none (by simp;omega)]
def ay(n:Nat):Nat:=2 ^ Nat.log2 (n - 1)
theorem fK{n:Nat}(a:2<=n):ay n < n:=by
 have:=Nat.log2_self_le (n:=n - 1) ah;unfold ay;omega
theorem qf(n:Nat):n<=2*ay n:=by
 have:n - 1 < 2 ^ (Nat.log2 (n - 1)+1):=Nat.lt_log2_self;unfold ay;rw[Nat.pow_succ]at this;omega
theorem iQ(n:Nat):0 < ay n:=Nat.two_pow_pos _
section
variable {α:Type} (nd:α->α->α) (e:α)
def RA:Nat->List α->α
 | 0,_=>e
 | f+1,l=>match l with
  | []=>e
  | [x]=>x
  | x :: y :: r=>nd (RA f ((x :: y :: r).take (ay (x :: y :: r).length))) (RA f ((x :: y :: r).drop (ay (x :: y :: r).length)))
def root(l:List α):α:=RA nd e l.length l
def up:List α->List α
 | []=>[]
 | [x]=>[x]
 | x :: y :: r=>nd x y :: up r
def Fu:List α->α
 | []=>e
 | [x]=>x
 | x :: y :: r=>nd x (Fu (y :: r))
end
def uX:Nat->Nat->Nat->List Bool
 | 0,_,_=>[]
 | f+1,n,j=>if n<=1 then[]else if j < ay n then uX f (ay n) j++[true]else uX f (n - ay n) (j - ay n)++[false]
def Ea(n j l:Nat):List Bool:=if j / 2 ^ l % 2=1 then[false]else if(j / 2 ^ l+1)*2 ^ l < n then[true]else[]
def lv(n j L:Nat):List Bool:=(List.range L).flatMap (Ea n j)
theorem nS(a b c:Nat):lv a b (c+1)=lv a b c++Ea a b c:=by simp[lv,List.range_succ]
theorem I8(c d:Nat)(e:d < c)(a:Nat)(f:c<=2 ^ a):∀b,lv c d (a+b)=lv c d a
 | 0=>rfl
 | b+1=>by
  have g:2 ^ a<=2 ^ (a+b):=Nat.pow_le_pow_right ah ah;have g:d / 2 ^ (a+b)=0:=Nat.div_eq_of_lt ah;rw[show a+(b+1)=(a+b)+1 by omega,nS,I8 c d e a f b];unfold Ea;rw[g,if_neg ah,if_neg ah,List.append_nil]
theorem E8{n c d e:Nat}:∀a,(∀b,b < a->Ea n c b=Ea d e b)->lv n c a=lv d e a
 | 0,_=>rfl
 | a+1,c=>by rw[nS,nS,E8 a (λb d=>c b ah),c a ah]
theorem Vg{n b c d a:Nat}(f:b=2 ^ d)(e:a < d)(g:c < b)(h:b < n):Ea n c a=Ea b c a:=by
 unfold Ea;by_cases e:c / 2 ^ a % 2=1
 ·rw[if_pos e,if_pos e]
 ·rw[if_neg e,if_neg e]
  obtain⟨e,h⟩:∃e,d=a+1+e:=⟨d - a - 1,ah⟩;(have d:b=2 ^ a*(2*2 ^ e):=by rw[f,h,Nat.pow_add,Nat.pow_succ,Nat.mul_assoc]);have f:=Nat.two_pow_pos a;have h:=Nat.div_lt_of_lt_mul (d ▸ g);have g:c / 2 ^ a+1 < 2*2 ^ e:=ah;(have e:(c / 2 ^ a+1)*2 ^ a < b:=by rw[d,Nat.mul_comm];exact Nat.mul_lt_mul_of_pos_left g f);rw[if_pos e,if_pos ah]
theorem Sk{n b c e a:Nat}(f:b=2 ^ e)(d:a < e)(g:b < n):Ea n (b+c) a=Ea (n - b) c a:=by
 obtain⟨d,g⟩:∃d,e=a+1+d:=⟨e - a - 1,ah⟩;(have e:b=2 ^ a*(2*2 ^ d):=by rw[f,g,Nat.pow_add,Nat.pow_succ,Nat.mul_assoc]);have f:=Nat.two_pow_pos a;have hd:(b+c) / 2 ^ a=2*2 ^ d+c / 2 ^ a:=by rw[e,Nat.mul_add_div f]
 have f:(2*2 ^ d+c / 2 ^ a+1)*2 ^ a=b+(c / 2 ^ a+1)*2 ^ a:=by
  rw[e,Nat.mul_comm (2 ^ a),<-Nat.add_mul,Nat.add_assoc]
 unfold Ea;rw[hd,f];by_cases d:c / 2 ^ a % 2=1
 ·rw[if_pos ah,if_pos d]
 ·rw[if_neg ah,if_neg d]
  by_cases d:(c / 2 ^ a+1)*2 ^ a < n - b
  ·rw[if_pos ah,if_pos d]
  ·rw[if_neg ah,if_neg d]
theorem SY{n:Nat}:ay n=2 ^ Nat.log2 (n - 1):=rfl
theorem yL:∀(d n b c:Nat),n<=d->b < n->n<=2 ^ c->uX d n b=lv n b c
 | 0,n,b,c,e,l,_=>by omega
 | d+1,n,b,c,u,l,v=>by
  unfold uX;by_cases m:n<=1
  ·rw[if_pos m]
   obtain rfl:n=1:=ah;obtain rfl:b=0:=ah;have:=I8 1 0 ah 0 aZ c;rw[Nat.zero_add]at this;rw[this];rfl
  ·rw[if_neg m]
   have h:=fK (n:=n) ah;have o:=qf n;have w:=iQ n;obtain⟨a,p⟩:∃a,Nat.log2 (n - 1)=a:=⟨_,rfl⟩;have i:ay n=2 ^ a:=by rw[SY,p]
   have x:a < c:=by
    rcases Nat.lt_or_ge a c with e | e
    ·exact e
    ·have:=Nat.pow_le_pow_right (show 0 < 2 by omega) e
     omega
   (have q:n<=2 ^ (a+1):=by rw[Nat.pow_succ];omega);obtain⟨j,rfl⟩:∃j,c=a+1+j:=⟨c - (a+1),ah⟩;rw[I8 n b l (a+1) q j,nS];by_cases f:b < ay n
   ·rw[if_pos f,yL d (ay n) b a ah f ah,E8 a (λr k=>(Vg (n:=n) i k f h).symm)]
    congr 1;unfold Ea;have s:b / 2 ^ a=0:=Nat.div_eq_of_lt ah;rw[s,if_neg ah,if_pos ah]
   ·rw[if_neg f]
    obtain⟨g,rfl⟩:∃g,b=ay n+g:=⟨b - ay n,ah⟩;rw[Nat.add_sub_cancel_left,yL d (n - ay n) g a ah ah ah,E8 a (λr k=>(Sk (n:=n) i k h).symm)];congr 1;unfold Ea
    have t:(ay n+g) / 2 ^ a=1:=by
     rw[i]at o h ⊢;exact Nat.div_eq_of_lt_le ah ah
    rw[t,if_pos ah]
def sides(n j:Nat):List Bool:=uX n n j
theorem sS{a b c:Nat}(d:b < a)(e:a<=2 ^ c):sides a b=lv a b c:=yL a a b c (AJ _) d e
theorem uW{a b:Nat}(c:a<=1):sides a b=[]:=by
 unfold sides
 match a,c with
 | 0,_=>rfl
 | 1,_=>rfl
theorem vX:∀(c a b:Nat),a<=c->b < a->uX c a b=sides a b:=λc a b f d=>by
 have e:a<=2 ^ a:=BB Nat.lt_two_pow_self;rw[sS d e,yL c a b a f d e]
theorem xO{n j:Nat}(a:2<=n)(b:j < ay n):sides n j=sides (ay n) j++[true]:=by
 have c:=fK a;obtain⟨a,c⟩:∃a,n=a+1:=⟨n - 1,ah⟩;rw[<-vX (a+1) n j ah ah];unfold uX;rw[if_neg ah,if_pos b,vX a _ _ ah b]
theorem rJ{n j:Nat}(a:2<=n)(b:ay n<=j)(c:j < n):sides n j=sides (n - ay n) (j - ay n)++[false]:=by
 have b:=fK a;have a:=iQ n;obtain⟨a,b⟩:∃a,n=a+1:=⟨n - 1,ah⟩;rw[<-vX (a+1) n j ah ah];unfold uX;rw[if_neg ah,if_neg ah,vX a _ _ ah ah]
theorem sQ{n j L:Nat}(a:j < n)(b:n<=2 ^ L):(sides n j).length<=L:=by
 rw[sS a b]
 have:∀L,(lv n j L).length<=L:=by
  intro L
  induction L with
  | zero=>simp[lv]
  | succ L a=>
   rw[nS,List.length_append];(have:(Ea n j L).length<=1:=by unfold Ea;split<;>(try split)<;>simp);omega
 exact this L
def uS:Nat->Nat->Nat->Bool->Nat
 | 0,_,_,_=>0
 | f+1,m,n,kn=>if m=n then(if kn then 0 else 1)else if m<=ay n then uS f m (ay n) kn+1 else uS f (m - ay n) (n - ay n) false+1
def rz(m n:Nat)(kn:Bool):Nat:=uS n m n kn
theorem yJ:∀(f b c a n:Nat) (d:Bool),n<=f->n<=b->n<=c->1<=a->a<=n->uS b a n d=uS c a n d
 | 0,b,c,a,n,d,e,h,i,g,j=>by omega
 | f+1,b,c,a,n,d,e,h,i,g,j=>by
  obtain⟨b,rfl⟩:∃e,b=e+1:=⟨b - 1,ah⟩;obtain⟨c,rfl⟩:∃e,c=e+1:=⟨c - 1,ah⟩;unfold uS;by_cases e:a=n
  ·rw[if_pos e,if_pos e]
  ·have h:=fK (n:=n) ah
   have h:=iQ n;rw[if_neg e,if_neg e];by_cases e:a<=ay n
   ·rw[if_pos e,if_pos e,yJ f b c a (ay n) d ah ah ah g e]
   ·rw[if_neg e,if_neg e,yJ f b c (a - ay n) (n - ay n) false ah ah ah ah ah]
theorem ni{n:Nat}(b:1<=n)(a:Bool):rz n n a=if a then 0 else 1:=by
 unfold rz;obtain⟨b,rfl⟩:∃a,n=a+1:=⟨n - 1,ah⟩;unfold uS;rw[if_pos rfl]
theorem vU{m n:Nat}(c:1<=m)(d:m < n)(b:m<=ay n)(a:Bool):rz m n a=rz m (ay n) a+1:=by
 have d:=fK (n:=n) ah;(have d:rz m n a=uS (n - 1+1) m n a:=by unfold rz;rw[show n - 1+1=n by omega]);rw[d];unfold uS;rw[if_neg ah,if_pos b];unfold rz;rw[yJ n (n - 1) (ay n) m (ay n) a ah ah ah c b]
theorem tQ{m n:Nat}(b:m < n)(c:ay n < m)(a:Bool):rz m n a=rz (m - ay n) (n - ay n) false+1:=by
 have b:=fK (n:=n) ah;have b:=iQ n;(have b:rz m n a=uS (n - 1+1) m n a:=by unfold rz;rw[show n - 1+1=n by omega]);rw[b];unfold uS;rw[if_neg ah,if_neg ah];unfold rz;rw[yJ n (n - 1) (n - ay n) (m - ay n) (n - ay n) false ah ah ah ah ah]
theorem rW{n a:Nat}(b:2<=n)(c:n<=2 ^ (a+1)):ay n<=2 ^ a:=by
 have c:=fK b;unfold ay at c ⊢;have:Nat.log2 (n - 1) < a+1:=(Nat.log2_lt ah).2 ah;exact Nat.pow_le_pow_right ah ah
theorem oW:∀(b a n:Nat) (d:Bool),1<=a->a<=n->n<=2 ^ b->rz a n d<=b+1
 | 0,a,n,d,c,f,e=>by
  (obtain rfl:a=n:=by simp at e;omega);rw[ni c]
  split<;>omega
 | b+1,a,n,d,c,f,e=>by
  by_cases f:a=n
  ·subst f
   rw[ni c]
   split<;>omega
  ·have f:=fK (n:=n) ah
   have f:=qf n;have f:=rW (n:=n) ah e;by_cases e:a<=ay n
   ·rw[vU c ah e]
    have:=oW b a (ay n) d c e f;omega
   ·rw[tQ ah ah]
    have:=oW b (a - ay n) (n - ay n) false ah ah ah;omega
def vK:Nat->Nat->Nat->List Bool
 | 0,_,_=>[]
 | f+1,m,n=>if m=n then[]else if m<=ay n then vK f m (ay n)++[true]else vK f (m - ay n) (n - ay n)++[false]
def qZ(m n:Nat):List Bool:=vK n m n
theorem zh:∀(e b c a n:Nat),n<=e->n<=b->n<=c->1<=a->a<=n->vK b a n=vK c a n
 | 0,b,c,a,n,d,g,h,f,i=>by omega
 | e+1,b,c,a,n,d,g,h,f,i=>by
  obtain⟨b,rfl⟩:∃d,b=d+1:=⟨b - 1,ah⟩;obtain⟨c,rfl⟩:∃d,c=d+1:=⟨c - 1,ah⟩;unfold vK;by_cases d:a=n
  ·rw[if_pos d,if_pos d]
  ·have g:=fK (n:=n) ah
   have g:=iQ n;rw[if_neg d,if_neg d];by_cases d:a<=ay n
   ·rw[if_pos d,if_pos d,zh e b c a (ay n) ah ah ah f d]
   ·rw[if_neg d,if_neg d,zh e b c (a - ay n) (n - ay n) ah ah ah ah ah]
theorem Cn{a:Nat}(b:1<=a):qZ a a=[]:=by
 unfold qZ;obtain⟨c,rfl⟩:∃b,a=b+1:=⟨a - 1,ah⟩;unfold vK;rw[if_pos rfl]
theorem wM{a n:Nat}(c:1<=a)(d:a < n)(b:a<=ay n):qZ a n=qZ a (ay n)++[true]:=by
 have d:=fK (n:=n) ah;(have d:qZ a n=vK (n - 1+1) a n:=by unfold qZ;rw[show n - 1+1=n by omega]);rw[d];unfold vK;rw[if_neg ah,if_pos b];unfold qZ;rw[zh n (n - 1) (ay n) a (ay n) ah ah ah c b]
theorem um{a n:Nat}(b:a < n)(c:ay n < a):qZ a n=qZ (a - ay n) (n - ay n)++[false]:=by
 have b:=fK (n:=n) ah;have b:=iQ n;(have b:qZ a n=vK (n - 1+1) a n:=by unfold qZ;rw[show n - 1+1=n by omega]);rw[b];unfold vK;rw[if_neg ah,if_neg ah];unfold qZ;rw[zh n (n - 1) (n - ay n) (a - ay n) (n - ay n) ah ah ah ah ah]
theorem EA:∀a:Nat,sides (2 ^ a) (2 ^ a - 1)=List.replicate a false
 | 0=>uW aZ
 | a+1=>by
  have b:=Nat.two_pow_pos a;have hs:2 ^ (a+1)=2 ^ a+2 ^ a:=by rw[Nat.pow_succ];omega
  have b:ay (2 ^ (a+1))=2 ^ a:=by
   have c:=qf (2 ^ (a+1));have d:=fK (n:=2 ^ (a+1)) ah;unfold ay at c d ⊢;have c:Nat.log2 (2 ^ (a+1) - 1) < a+1:=(Nat.log2_lt ah).2 ah;have c:a<=Nat.log2 (2 ^ (a+1) - 1):=(Nat.le_log2 ah).2 ah;rw[show Nat.log2 (2 ^ (a+1) - 1)=a by omega]
  rw[rJ ah (by rw[b];omega) ah,b,show 2 ^ (a+1) - 2 ^ a=2 ^ a by omega,show 2 ^ (a+1) - 1 - 2 ^ a=2 ^ a - 1 by omega,EA a,<-List.replicate_succ']
theorem IZ{e a b:Nat}(d:(2*e+1)*2 ^ a=2 ^ b):e=0/\a=b:=by
 have g:=Nat.two_pow_pos a;have i:=Nat.two_pow_pos b;(have h:2 ^ a<=2 ^ b:=by rw[<-d,Nat.add_mul,Nat.one_mul];omega);have j:=(Nat.pow_le_pow_iff_right ah).1 h;obtain⟨c,rfl⟩:∃c,b=a+c:=⟨b - a,ah⟩;rw[Nat.pow_add,Nat.mul_comm]at d;have f:=Nat.eq_of_mul_eq_mul_left g d;cases c with
 | zero=>simp at f;exact⟨ah,rfl⟩
 | succ c=>rw[Nat.pow_succ]at f;omega
theorem GY{d a e n:Nat}(f:e=(2*d+1)*2 ^ a)(o:e < n)(g:ay n < e):d≠0/\∃i,e - ay n=(2*i+1)*2 ^ a:=by
 have j:=qf n;obtain⟨c,k⟩:∃c,ay n=2 ^ c:=⟨_,rfl⟩;have p:=Nat.two_pow_pos a;have q:=Nat.two_pow_pos c;rw[k]at j g ⊢;have l:2 ^ a<=e:=by rw[f,Nat.add_mul,Nat.one_mul];omega
 rcases Nat.lt_or_ge a c with m | m
 ·obtain⟨b,rfl⟩:∃b,c=a+1+b:=⟨c - a - 1,ah⟩
  have h:2 ^ (a+1+b)=(2*2 ^ b)*2 ^ a:=by rw[Nat.pow_add,Nat.pow_succ,Nat.mul_assoc,Nat.mul_comm]
  have r:2*2 ^ b < 2*d+1:=by
   rw[f,h]at g;exact Nat.lt_of_mul_lt_mul_right g
  refine⟨by have:=Nat.two_pow_pos b;omega,d - 2 ^ b,?_⟩;rw[f,h,<-Nat.sub_mul];congr 1;omega
 ·exfalso
  obtain⟨b,rfl⟩:∃b,a=c+b:=⟨a - c,ah⟩;rw[Nat.pow_add]at f l;have s:e=((2*d+1)*2 ^ b)*2 ^ c:=by rw[f,Nat.mul_comm (2 ^ c),Nat.mul_assoc]
  have t:(2*d+1)*2 ^ b < 2:=by
   apply Nat.lt_of_mul_lt_mul_right (a:=2 ^ c);omega
  have u:1 < (2*d+1)*2 ^ b:=by
   apply Nat.lt_of_mul_lt_mul_right (a:=2 ^ c);omega
  omega
theorem ul:∀(f a n d c:Nat),n<=f->1<=a->a<=n->a=(2*d+1)*2 ^ c->(a=n->d=0)->sides n (a - 1)=List.replicate c false++qZ a n
 | 0,a,n,d,c,e,g,j,h,i=>by omega
 | f+1,a,n,d,c,e,g,j,h,i=>by
  by_cases e:a=n
  ·obtain rfl:=i e
   subst e;rw[Cn g,List.append_nil];rw[show a=2 ^ c by omega];exact EA c
  ·have i:=fK (n:=n) ah
   have i:=iQ n;by_cases i:a<=ay n
   ·rw[xO ah ah,wM g ah i,ul f a (ay n) d c ah g i h (λe=>(IZ (b:=Nat.log2 (n - 1)) (by rw[<-h,e];rfl)).1),List.append_assoc]
   ·obtain⟨-,d,g⟩:=GY (n:=n) h ah ah
    rw[rJ ah ah ah,um ah ah,show a - 1 - ay n=a - ay n - 1 by omega,ul f (a - ay n) (n - ay n) d c ah ah ah g (λe=>by omega),List.append_assoc]
def gV(x y:Int):Bool:=decide (0<=x)&&decide (x<=y)&&decide (y<=1099511627776)
def oP(x y:Nat):Nat:=if x=0 then 0 else rz x y true
theorem wN{x y:Nat}(a:x<=y)(b:y<=1099511627776):oP x y<=41:=by
 unfold oP
 split
 ·omega
 ·exact oW 40 x y true ah a (by rw[show(2:Nat) ^ 40=1099511627776 by decide];exact b)
def uY:Nat->Nat->Nat->Nat->Bool->List (Nat×Nat)
 | 0,_,_,_,_=>[]
 | f+1,fr,to,old,kn=>if old=to then(if kn then[]else[(fr,to)])else if old - fr<=ay (to - fr)then uY f fr (fr+ay (to - fr)) old kn++[(fr+ay (to - fr),to)]else uY f (fr+ay (to - fr)) to old false++[(fr,fr+ay (to - fr))]
def mI(fr to old:Nat)(kn:Bool):List (Nat×Nat):=uY (to - fr) fr to old kn
theorem yO:∀(g d e a b c:Nat) (f:Bool),b - a<=g->b - a<=d->b - a<=e->a < c->c<=b->uY d a b c f=uY e a b c f
 | 0,d,e,a,b,c,f,h,j,k,i,l=>by omega
 | g+1,d,e,a,b,c,f,h,j,k,i,l=>by
  obtain⟨d,rfl⟩:∃h,d=h+1:=⟨d - 1,ah⟩;obtain⟨e,rfl⟩:∃h,e=h+1:=⟨e - 1,ah⟩;unfold uY;by_cases h:c=b
  ·rw[if_pos h,if_pos h]
  ·have j:=fK (n:=b - a) ah
   have j:=iQ (b - a);rw[if_neg h,if_neg h];by_cases h:c - a<=ay (b - a)
   ·rw[if_pos h,if_pos h,yO g d e a (a+ay (b - a)) c f ah ah ah i ah]
   ·rw[if_neg h,if_neg h,yO g d e (a+ay (b - a)) b c false ah ah ah ah ah]
theorem qF{b a:Nat}(d:b < a)(c:Bool):mI b a a c=if c then[]else[(b,a)]:=by
 unfold mI;obtain⟨e,c⟩:∃d,a - b=d+1:=⟨a - b - 1,ah⟩;rw[c];unfold uY;rw[if_pos rfl]
theorem qG{a b c:Nat}(e:a < c)(g:c < b)(f:c - a<=ay (b - a))(d:Bool):mI a b c d=mI a (a+ay (b - a)) c d++[(a+ay (b - a),b)]:=by
 have g:=fK (n:=b - a) ah;(have g:mI a b c d=uY (b - a - 1+1) a b c d:=by unfold mI;rw[show b - a - 1+1=b - a by omega]);rw[g];unfold uY;rw[if_neg ah,if_pos f];unfold mI;rw[yO (b - a) (b - a - 1) (a+ay (b - a) - a) a (a+ay (b - a)) c d ah ah ah e ah]
theorem pz{a b c:Nat}(e:a < c)(f:c < b)(g:ay (b - a) < c - a)(d:Bool):mI a b c d=mI (a+ay (b - a)) b c false++[(a,a+ay (b - a))]:=by
 have e:=fK (n:=b - a) ah;have e:=iQ (b - a);(have e:mI a b c d=uY (b - a - 1+1) a b c d:=by unfold mI;rw[show b - a - 1+1=b - a by omega]);rw[e];unfold uY;rw[if_neg ah,if_neg ah];unfold mI;rw[yO (b - a) (b - a - 1) (b - (a+ay (b - a))) (a+ay (b - a)) b c false ah ah ah ah ah]
theorem oD:∀(f a b c:Nat) (d:Bool),b - a<=f->a < c->c<=b->(mI a b c d).length=rz (c - a) (b - a) d
 | 0,a,b,c,d,g,e,h=>by omega
 | f+1,a,b,c,d,g,e,h=>by
  by_cases g:c=b
  ·subst g
   rw[qF e,ni ah];cases d<;>rfl
  ·have g:=fK (n:=b - a) ah
   have g:=iQ (b - a);by_cases g:c - a<=ay (b - a)
   ·rw[qG e ah g,vU ah ah g,List.length_append,oD f a (a+ay (b - a)) c d ah e ah,Nat.add_sub_cancel_left]
    rfl
   ·rw[pz e ah ah,tQ ah ah,List.length_append,oD f (a+ay (b - a)) b c false ah ah ah,show c - (a+ay (b - a))=c - a - ay (b - a) by omega,show b - (a+ay (b - a))=b - a - ay (b - a) by omega]
    rfl
def bh(old:Nat)(p:Nat×Nat):Bool:=decide (old<=p.1)
theorem EI:∀(e a b c:Nat),b - a<=e->a < c->c<=b->(mI a b c false).map (bh c)=false :: qZ (c - a) (b - a)
 | 0,a,b,c,f,d,g=>by omega
 | e+1,a,b,c,f,d,g=>by
  by_cases f:c=b
  ·subst f
   rw[qF d,Cn ah];simp[bh,d]
  ·have f:=fK (n:=b - a) ah
   have f:=iQ (b - a);by_cases f:c - a<=ay (b - a)
   ·rw[qG d ah f,wM ah ah f,List.map_append,EI e a (a+ay (b - a)) c ah d ah,Nat.add_sub_cancel_left]
    simp[bh];omega
   ·rw[pz d ah ah,um ah ah,List.map_append,EI e (a+ay (b - a)) b c ah ah ah,show c - (a+ay (b - a))=c - a - ay (b - a) by omega,show b - (a+ay (b - a))=b - a - ay (b - a) by omega]
    simp[bh];omega
theorem GI:∀(g a c d e h:Nat),c - a<=g->a < d->d<=c->d - a=(2*e+1)*2 ^ h->(d=c->e=0)->(mI a c d true).map (bh d)=(if e=0 then[]else[false])++qZ (d - a) (c - a)
 | 0,a,c,d,e,h,j,f,l,i,k=>by omega
 | g+1,a,c,d,e,h,j,f,l,i,k=>by
  by_cases j:d=c
  ·obtain rfl:=k j
   subst j;rw[qF f,Cn ah];rfl
  ·have k:=fK (n:=c - a) ah
   have k:=iQ (c - a);by_cases k:d - a<=ay (c - a)
   ·rw[qG f ah k,wM ah ah k,List.map_append,GI g a (a+ay (c - a)) d e h ah f ah i (λj=>(IZ (b:=Nat.log2 (c - a - 1)) (by rw[<-i,j,Nat.add_sub_cancel_left];rfl)).1),Nat.add_sub_cancel_left,List.append_assoc]
    congr 1;simp[bh];omega
   ·obtain⟨e,-⟩:=GY (n:=c - a) i ah ah
    rw[pz f ah ah,um ah ah,List.map_append,EI g (a+ay (c - a)) c d ah ah ah,show d - (a+ay (c - a))=d - a - ay (c - a) by omega,show c - (a+ay (c - a))=c - a - ay (c - a) by omega,if_neg e];simp[bh];omega
def bW(old size:Nat):List (Nat×Nat):=if old=0\/old=size then[]else mI 0 size old true
theorem nA{a b:Nat}(c:a<=b):(bW a b).length=oP a b:=by
 unfold bW oP;by_cases h0:a=0
 ·rw[if_pos (.inl h0),if_pos h0]
  rfl
 ·rw[if_neg h0]
  by_cases d:a=b
  ·rw[if_pos (.inr d),d,ni ah]
   rfl
  ·rw[if_neg (λc=>c.elim h0 d),oD b 0 b a true ah ah c]
   rfl
theorem Nq(c d a:Nat):∀b,∃e,lv c d (a+b)=lv c d a++e
 | 0=>⟨[],by simp⟩
 | b+1=>by
  obtain⟨e,f⟩:=Nq c d a b;exact⟨e++Ea c d (a+b),by rw[show a+(b+1)=(a+b)+1 by omega,nS,f,List.append_assoc]⟩
theorem XU{n j L a:Nat}(b:L<=a):(lv n j L).length<=(lv n j a).length:=by
 obtain⟨c,b⟩:=Nq n j L (a - L);rw[show L+(a - L)=a by omega]at b;rw[b,List.length_append];omega
theorem PG{b d:Nat}(g:d < b)(a:Nat):∃e,sides b d=lv b d a++e:=by
 obtain⟨c,h,f⟩:∃c,b<=2 ^ c/\a<=c:=⟨b+a,AZ (BB Nat.lt_two_pow_self) (Nat.pow_le_pow_right ah ah),ah⟩;obtain⟨e,f⟩:=Nq b d a (c - a);rw[show a+(c - a)=c by omega]at f;exact⟨e,by rw[sS g h,f]⟩
theorem J4{a b c d:Nat}{e:Bool}(h:b < a)(f:(lv a b c).length=d)(g:Ea a b c=[e]):(sides a b)[d]?=some e/\(lv a b (c+1)).length=d+1:=by
 obtain⟨b,a⟩:=PG h (c+1);rw[nS,g]at a;refine⟨?_,by rw[nS,g,List.length_append,f];rfl⟩;rw[a,List.append_assoc,List.getElem?_append_right ah,f,Nat.sub_self];rfl
def bJ(n j k fn sn:Nat):Prop:=∃l,fn=j / 2 ^ l/\sn=(n - 1) / 2 ^ l/\(lv n j l).length=k
theorem bJ.zero(a b:Nat):bJ a b 0 b (a - 1):=⟨0,by simp,by simp,rfl⟩
theorem bJ.le{a j d b c:Nat}(e:bJ a j d b c):b<=j/\c<=a - 1:=by
 obtain⟨a,rfl,rfl,-⟩:=e;exact⟨Nat.div_le_self _ _,Nat.div_le_self _ _⟩
theorem Np{c d b:Nat}(e:d < c):Ea c d b=if d / 2 ^ b % 2=1 then[false]else if d / 2 ^ b=(c - 1) / 2 ^ b then[]else[true]:=by
 unfold Ea;by_cases e:d / 2 ^ b % 2=1
 ·rw[if_pos e,if_pos e]
 ·rw[if_neg e,if_neg e]
  have f:=Nat.two_pow_pos b;have e:d / 2 ^ b<=(c - 1) / 2 ^ b:=Nat.div_le_div_right ah;by_cases e:d / 2 ^ b=(c - 1) / 2 ^ b
  ·rw[if_pos e,if_neg]
   rw[e];have:=Nat.lt_div_mul_add (a:=c - 1) f;rw[Nat.add_mul,Nat.one_mul];omega
  ·rw[if_neg e,if_pos]
   have e:d / 2 ^ b+1<=(c - 1) / 2 ^ b:=ah;have:=Nat.mul_le_mul_right (2 ^ b) e;have d:=Nat.div_mul_le_self (c - 1) (2 ^ b);omega
theorem xu(a b:Nat):a / 2 ^ (b+1)=a / 2 ^ b / 2:=by rw[Nat.pow_succ,Nat.div_div_eq_div_mul]
theorem bJ.odd{a b c d e:Nat}(g:bJ a b c d e)(f:b < a)(h:d % 2=1):(sides a b)[c]?=some false/\bJ a b (c+1) (d / 2) (e / 2):=by
 obtain⟨c,rfl,rfl,d⟩:=g;(have e:Ea a b c=[false]:=by rw[Np f,if_pos h]);obtain⟨a,b⟩:=J4 f d e;exact⟨a,c+1,(xu _ _).symm,(xu _ _).symm,b⟩
theorem bJ.right{a b d c e:Nat}(g:bJ a b d c e)(f:b < a)(h:¬c % 2=1)(i:¬c=e):(sides a b)[d]?=some true/\bJ a b (d+1) (c / 2) (e / 2):=by
 obtain⟨c,rfl,rfl,d⟩:=g;(have e:Ea a b c=[true]:=by rw[Np f,if_neg h,if_neg i]);obtain⟨a,b⟩:=J4 f d e;exact⟨a,c+1,(xu _ _).symm,(xu _ _).symm,b⟩
theorem bJ.skip{a b e c d:Nat}(f:bJ a b e c d)(g:b < a)(h:¬c % 2=1)(i:c=d):bJ a b e (c / 2) (d / 2):=by
 obtain⟨c,rfl,rfl,d⟩:=f;(have e:Ea a b c=[]:=by rw[Np g,if_neg h,if_pos i]);exact⟨c+1,(xu _ _).symm,(xu _ _).symm,by rw[nS,e,List.append_nil,d]⟩
theorem bJ.done{a b c d:Nat}(e:bJ a b c 0 d)(f:b < a)(g:d=0):c=(sides a b).length:=by
 obtain⟨b,h,c,d⟩:=e;have e:=Nat.two_pow_pos b
 have h:a<=2 ^ b:=by
  have:=(Nat.div_eq_zero_iff_lt e).1 (c.symm.trans g);omega
 rw[sS f h,d]
theorem bJ.left{c d e:Nat}(f:d < c):∀(a b:Nat),bJ c d e a b->(a % 2=1\/a=b)->e < (sides c d).length->(sides c d)[e]?=some false:=by
 intro a
 induction a using Nat.strongRecOn with
 | _ a g=>
  intro b c d h;by_cases d:a % 2=1
  ·exact(c.odd f d).1
  ·have e:a=b:=ah
   by_cases h0:a=0
   ·have hs:b=0:=ah
    rw[h0]at c;have:=c.done f hs;omega
   ·exact g (a / 2) ah (b / 2) (c.skip f d e) (.inr (by rw[e])) h
theorem Sl{a b c:Nat}(d:b < a)(e:a<=2 ^ c):(lv a b c).length=(sides a b).length:=by rw[sS d e]
