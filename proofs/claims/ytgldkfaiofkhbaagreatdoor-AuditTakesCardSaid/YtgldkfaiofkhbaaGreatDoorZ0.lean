import Derived.Lib.Hide
import Derived.KernelRfl
import Derived.Lib.ItoaNum
import Derived.Lib.TrailingZeros
namespace Go.Proofs.YtgldkfaiofkhbaaGreatDoor
open Go Go.RowKit
theorem Ay:type_of% @Array.getElem?_eq_some_iff:=@Array.getElem?_eq_some_iff
theorem AA:type_of% @Lib.hid:=@Lib.hid
theorem Ap:type_of% @List.eq_nil_of_length_eq_zero:=@List.eq_nil_of_length_eq_zero
theorem AV:type_of% @List.getElem?_eq_getElem:=@List.getElem?_eq_getElem
theorem AU:type_of% @List.getElem?_eq_some_iff:=@List.getElem?_eq_some_iff
theorem CQ:type_of% @List.getElem_mem:=@List.getElem_mem
theorem Aj:type_of% @List.mem_append:=@List.mem_append
theorem Ag:type_of% @List.mem_cons:=@List.mem_cons
theorem Aq:type_of% @List.mem_map:=@List.mem_map
theorem Ab:type_of% @List.mem_of_getElem?:=@List.mem_of_getElem?
theorem CO:type_of% @List.mem_of_mem_take:=@List.mem_of_mem_take
theorem Be:type_of% @List.mem_range:=@List.mem_range
theorem BS:type_of% @List.mem_singleton:=@List.mem_singleton
theorem BA:type_of% @List.take_of_length_le:=@List.take_of_length_le
theorem BB:type_of% @Nat.le_of_lt:=@Nat.le_of_lt
theorem AJ:type_of% @Nat.le_refl:=@Nat.le_refl
theorem BF:type_of% @Nat.le_succ:=@Nat.le_succ
theorem AZ:type_of% @Nat.le_trans:=@Nat.le_trans
theorem BJ:type_of% @Nat.lt_irrefl:=@Nat.lt_irrefl
theorem CU:type_of% @Nat.lt_of_le_of_lt:=@Nat.lt_of_le_of_lt
theorem Ad:type_of% @Nat.lt_of_lt_of_le:=@Nat.lt_of_lt_of_le
theorem Bq:type_of% @Nat.lt_succ_self:=@Nat.lt_succ_self
theorem CP:type_of% @Nat.not_lt_zero:=@Nat.not_lt_zero
theorem AX:type_of% @Nat.zero_le:=@Nat.zero_le
theorem AL:type_of% @Option.some.inj:=@Option.some.inj
theorem AP:type_of% @decide_eq_false:=@decide_eq_false
theorem AY:type_of% @decide_eq_true:=@decide_eq_true
theorem BQ:type_of% @of_decide_eq_true:=@of_decide_eq_true
theorem ah{p:Prop}(h:p:=by omega):p:=h
theorem aC{a p:Prop}(x:Hid a)(h:a->p:=by intro h;omega):p:=h x
theorem dn{a b p:Prop}(x:Hid a)(y:Hid b)(h:a->b->p:=by intro h k;omega):p:=h x y
theorem pV{a b c p:Prop}(x:Hid a)(y:Hid b)(z:Hid c)(h:a->b->c->p:=by intro h k l;omega):p:=h x y z
theorem Ng{a b c d p:Prop}(x:Hid a)(y:Hid b)(z:Hid c)(u:Hid d)(h:a->b->c->d->p:=by intro h k l m;omega):p:=h x y z u
theorem bG{α:Sort _}(a:α):∃x,Hid (x=a):=⟨a,rfl⟩
theorem aZ{p:Prop}(h:p:=by simp):p:=h
theorem aR{p:Prop}(h:p:=by decide):p:=h
theorem bH{p:Prop}(h:p:=by kernel_rfl):p:=h
abbrev Jk:Array Value:=#[.int .i64 0,.int .u8 0,.int .u8 0,.int .u8 0,.int .u8 0,.int .u8 0,.int .u8 0,.int .u8 0,.int .u8 0,.int .u8 0,.int .u8 0,.int .u8 0,.int .u8 0,.int .u8 0,.int .u8 0,.int .u8 0,.int .u8 0,.int .u8 0,.int .u8 0,.int .u8 0,.int .u8 0,.int .u8 0,.int .u8 0,.int .u8 0,.int .u8 0,.int .u8 0,.int .u8 0,.int .u8 0,.int .u8 0,.int .u8 0,.int .u8 0,.int .u8 0,.int .u8 0]
def aT:List (BitVec 8)->List (BitVec 8)->Bool
 | [],[]=>false
 | [],_ :: _=>true
 | _ :: _,[]=>false
 | a :: as,b :: bs=>if a.toNat < b.toNat then true else if b.toNat < a.toNat then false else aT as bs
theorem gJ:∀a,aT a a=false
 | []=>rfl
 | a :: b=>by simp[aT,gJ b]
theorem gD:∀e a c,aT e a=true->aT a c=true->aT e c=true
 | [],[],_,b,_=>by simp[aT]at b
 | [],_ :: _,[],_,b=>by simp[aT]at b
 | [],_ :: _,_ :: _,_,_=>rfl
 | _ :: _,[],_,b,_=>by simp[aT]at b
 | _ :: _,_ :: _,[],_,b=>by simp[aT]at b
 | e :: f,a :: g,c :: h,d,b=>by
  have i:=gD f g h;unfold aT at d b ⊢;by_cases g:e.toNat < a.toNat
  ·by_cases f:c.toNat < a.toNat
   ·rw[if_neg ah,if_pos f]at b;cases b
   ·rw[if_pos ah]
  ·rw[if_neg g]at d
   by_cases g:a.toNat < e.toNat
   ·rw[if_pos g]at d;cases d
   ·rw[if_neg g]at d
    by_cases e:a.toNat < c.toNat
    ·rw[if_pos ah]
    ·rw[if_neg e]at b
     by_cases f:c.toNat < a.toNat
     ·rw[if_pos f]at b;cases b
     ·rw[if_neg f]at b
      rw[if_neg ah,if_neg ah];exact i d b
theorem oJ:∀a b,aT a b=false->aT b a=false->a=b
 | [],[],_,_=>rfl
 | [],_ :: _,c,_=>by simp[aT]at c
 | _ :: _,[],_,c=>by simp[aT]at c
 | a :: g,b :: h,c,d=>by
  unfold aT at c d;by_cases e:a.toNat < b.toNat
  ·rw[if_pos e]at c;cases c
  ·by_cases f:b.toNat < a.toNat
   ·rw[if_pos f]at d;cases d
   ·rw[if_neg e,if_neg f]at c
    rw[if_neg f,if_neg e]at d;rw[oJ g h c d,BitVec.eq_of_toNat_eq (show a.toNat=b.toNat by omega)]
theorem KO{a b:List (BitVec 8)}(c:aT a b=true):aT b a=false:=by
 cases hb:aT b a with
 | false=>rfl
 | true=>have:=gD a b a c hb;rw[gJ]at this;cases this
theorem qP{a b:List (BitVec 8)}(c:aT a b=true):a≠b:=λa=>by rw[a,gJ]at c;cases c
theorem E9(a b c:List (BitVec 8))(e:aT a b=false)(d:aT b c=false):aT a c=false:=by
 cases h:aT a c with
 | false=>rfl
 | true=>
  exfalso;cases hb:aT b a with
  | true=>have:=gD b a c hb h;rw[d]at this;cases this
  | false=>
   have:=oJ a b e hb;subst this;rw[h]at d;cases d
theorem Sn:∀(a b:List (BitVec 8)) (c:Nat) (d e:BitVec 8),a.take c=b.take c->a[c]?=some d->b[c]?=some e->d≠e->aT a b=decide (d.toNat < e.toNat)
 | [],_,_,_,_,_,f,_,_=>by simp at f
 | _ :: _,[],_,_,_,_,_,f,_=>by simp at f
 | a :: j,b :: k,0,d,e,_,f,g,i=>by
  simp at f g;subst f g;unfold aT;by_cases h:a.toNat < b.toNat
  ·simp[h]
  ·have:b.toNat < a.toNat:=by
    (have:a.toNat≠b.toNat:=λl=>i (BitVec.eq_of_toNat_eq l));omega
   simp[h,this]
 | a :: j,b :: k,c+1,d,e,h,f,g,i=>by
  simp at h f g;obtain⟨rfl,h⟩:=h;unfold aT;rw[if_neg ah,if_neg ah];exact Sn j k c d e h f g i
section
variable {α:Type} (ky:α->List (BitVec 8))
def dK(x:α):List α->Option (List α)
 | []=>some [x]
 | y :: l=>if aT (ky y) (ky x)=true then(dK x l).map (y :: ·)else if ky y=ky x then none else some (x :: y :: l)
def bK(l:List α):Option (List α):=l.foldl (λo x=>o.bind (dK ky x)) (some [])
def bN(l:List α):Prop:=l.Pairwise λa b=>aT (ky a) (ky b)=true
variable {ky}
theorem Fh{b:α}:∀{e c:List α},bN ky e->dK ky b e=some c->bN ky c/\c.Perm (b :: e)
 | [],c,_,a=>by
  obtain rfl:[b]=c:=AL a;exact⟨List.pairwise_singleton _ _,List.Perm.refl _⟩
 | d :: e,c,hs,a=>by
  unfold dK at a;obtain⟨g,f⟩:=List.pairwise_cons.1 hs;by_cases c1:aT (ky d) (ky b)=true
  ·rw[if_pos c1]at a
   cases hi:dK ky b e with
   | none=>rw[hi]at a;cases a
   | some h=>
    rw[hi]at a;obtain rfl:d :: h=c:=AL a;obtain⟨i,h⟩:=Fh f hi;refine⟨List.pairwise_cons.2 ⟨λz f=>?_,i⟩,(h.cons d).trans (List.Perm.swap b d e)⟩
    rcases Ag.1 (h.mem_iff.1 f)with rfl | f
    ·exact c1
    ·exact g z f
  ·rw[if_neg c1]at a
   by_cases c2:ky d=ky b
   ·rw[if_pos c2]at a;cases a
   ·rw[if_neg c2]at a
    obtain rfl:b :: d :: e=c:=AL a
    have a:aT (ky b) (ky d)=true:=by
     cases hh:aT (ky b) (ky d)with
     | true=>rfl
     | false=>exact absurd (oJ _ _ (by simpa using c1) hh) c2
    refine⟨List.pairwise_cons.2 ⟨λz f=>?_,hs⟩,List.Perm.refl _⟩
    rcases Ag.1 f with rfl | f
    ·exact a
    ·exact gD _ _ _ a (g z f)
theorem KU{b:α}:∀{d:List α},dK ky b d=none->∃c∈d,ky c=ky b
 | [],a=>by cases a
 | c :: d,a=>by
  unfold dK at a;by_cases c1:aT (ky c) (ky b)=true
  ·rw[if_pos c1]at a
   cases hi:dK ky b d with
   | none=>
    obtain⟨z,d,e⟩:=KU hi;exact⟨z,List.mem_cons_of_mem _ d,e⟩
   | some d=>rw[hi]at a;cases a
  ·rw[if_neg c1]at a
   by_cases c2:ky c=ky b
   ·exact⟨c,List.mem_cons_self,c2⟩
   ·rw[if_neg c2]at a;cases a
theorem Ce:∀a:List α,a.foldl (λb c=>b.bind (dK ky c)) none=none
 | []=>rfl
 | _ :: a=>Ce a
theorem Hr:∀(d b:List α) {e:List α},bN ky b->d.foldl (λg f=>g.bind (dK ky f)) (some b)=some e->bN ky e/\e.Perm (b++d)
 | [],b,e,hs,c=>by
  obtain rfl:b=e:=AL c;exact⟨hs,by rw[List.append_nil]⟩
 | f :: d,b,e,hs,c=>by
  have c:d.foldl (λg f=>g.bind (dK ky f)) (dK ky f b)=some e:=c;cases hi:dK ky f b with
  | none=>rw[hi,Ce]at c;cases c
  | some a=>
   rw[hi]at c;obtain⟨e,g⟩:=Fh hs hi;obtain⟨h,i⟩:=Hr d a e c;refine⟨h,i.trans ((g.append_right d).trans ?_)⟩;exact(List.perm_middle (a:=f) (l₁:=b) (l₂:=d)).symm
theorem Fs:∀(d b:List α),bN ky b->(b++d).Pairwise (λa e=>ky a≠ky e)->∃f,d.foldl (λg c=>g.bind (dK ky c)) (some b)=some f
 | [],b,_,_=>⟨b,rfl⟩
 | c :: d,b,hs,hd=>by
  show ∃f,d.foldl (λg c=>g.bind (dK ky c)) (dK ky c b)=some f;cases hi:dK ky c b with
  | none=>
   obtain⟨g,h,f⟩:=KU hi;exact absurd f ((List.pairwise_append.1 hd).2.2 g h c List.mem_cons_self)
  | some a=>
   obtain⟨g,h⟩:=Fh hs hi;refine Fs d a g ?_;have g:=(h.append_right d).trans (List.perm_middle (a:=c) (l₁:=b) (l₂:=d)).symm;exact(g.pairwise_iff (R:=λa e=>ky a≠ky e) (λb=>λf=>b f.symm)).2 hd
theorem jU{a b:List α}(c:bK ky a=some b):bN ky b/\b.Perm a:=by
 have:=Hr a [] List.Pairwise.nil c;simpa using this
theorem rO{a:List α}(b:bK ky a=none):¬a.Pairwise (λc d=>ky c≠ky d):=λhd=>by
 obtain⟨d,c⟩:=Fs a [] List.Pairwise.nil (by simpa using hd);unfold bK at b;rw[c]at b;cases b
theorem vV:∀{b c:List α},bN ky b->bN ky c->b.Perm c->b=c
 | [],c,_,_,a=>by rw[List.nil_perm.1 a]
 | d :: b,[],_,_,a=>by have:=a.length_eq;simp at this
 | d :: b,e :: c,f,g,a=>by
  obtain⟨c,h⟩:=List.pairwise_cons.1 f;obtain⟨f,i⟩:=List.pairwise_cons.1 g
  obtain rfl:d=e:=by
   rcases Ag.1 (a.mem_iff.1 List.mem_cons_self)with b | hx
   ·exact b
   ·rcases Ag.1 (a.mem_iff.2 List.mem_cons_self)with b | g
    ·exact b.symm
    ·have:=KO (c e g)
     rw[f d hx]at this;cases this
  rw[vV h i (List.Perm.cons_inv a)]
theorem xg{c e:List α}(h:e.Perm c)(hs:e.Pairwise λa b=>aT (ky b) (ky a)=false):bK ky c=(if c.Pairwise (λa b=>ky a≠ky b)then some e else none):=by
 by_cases hd:c.Pairwise (λa b=>ky a≠ky b)
 ·rw[if_pos hd]
  have i:=(h.pairwise_iff (R:=λa b=>ky a≠ky b) (λd=>λg=>d g.symm)).2 hd
  have j:bN ky e:=(List.pairwise_and_iff.2 ⟨hs,i⟩).imp (λ{a b} ⟨e,f⟩=>by
   cases hh:aT (ky a) (ky b)with
   | true=>rfl
   | false=>exact absurd (oJ _ _ hh e) f)
  cases hr:bK ky c with
  | none=>exact absurd hd (rO hr)
  | some i=>
   obtain⟨e,f⟩:=jU hr;rw[vV e j (f.trans h.symm)]
 ·rw[if_neg hd]
  cases hr:bK ky c with
  | none=>rfl
  | some i=>
   obtain⟨e,f⟩:=jU hr;exact absurd ((f.pairwise_iff (R:=λa b=>ky a≠ky b) (λd=>λg=>d g.symm)).1 (e.imp λd=>qP d)) hd
def nu(l:List α):Bool:=match l with
 | []=>true
 | [_]=>true
 | a :: b :: r=>aT (ky a) (ky b)&&nu (b :: r)
theorem zP:∀{l:List α},nu (ky:=ky) l=true↔bN ky l
 | []=>⟨λ_=>List.Pairwise.nil,λ_=>rfl⟩
 | [a]=>⟨λ_=>List.pairwise_singleton _ _,λ_=>rfl⟩
 | a :: d :: b=>by
  have a:=zP (l:=d :: b);rw[nu,Bool.and_eq_true,a];constructor
  ·rintro⟨a,b⟩
   refine List.pairwise_cons.2 ⟨λz c=>?_,b⟩
   rcases Ag.1 c with rfl | c
   ·exact a
   ·exact gD _ _ _ a ((List.pairwise_cons.1 b).1 z c)
  ·intro c
   obtain⟨a,b⟩:=List.pairwise_cons.1 c;exact⟨a d List.mem_cons_self,b⟩
def place(x:α)(n:Nat)(r:List α):List α:=r.take n++x :: r.drop (if(r[n]?).map ky=some (ky x)then n+1 else n)
theorem nW{b:α->Bool}{a:List α}(c:∀d∈a,b d=true):a.filter b=a:=List.filter_eq_self.2 c
theorem Ct{a:List α}{b:Nat}{c:α}(hs:bN ky a)(d:a[b]?=some c){z:α}(e:z∈a.drop (b+1)):aT (ky c) (ky z)=true:=by
 obtain⟨c,rfl⟩:=AU.1 d;have hd:bN ky (a.drop b):=hs.sublist (List.drop_sublist _ _);rw[List.drop_eq_getElem_cons c]at hd;exact(List.pairwise_cons.1 hd).1 z e
theorem IQ{b:List α}{d:α}{c:Nat}(hs:bN ky b)(e:∀a∈b.take c,aT (ky a) (ky d)=true)(k:∀a∈b.drop c,aT (ky a) (ky d)=false):
  b.filter (λa=>!decide (ky a=ky d))=b.take c++b.drop (if(b[c]?).map ky=some (ky d)then c+1 else c)/\∀a∈b.drop (if(b[c]?).map ky=some (ky d)then c+1 else c),aT (ky d) (ky a)=true:=by
 have m:(b.take c).filter (λa=>!decide (ky a=ky d))=b.take c:=nW λa f=>by simp[qP (e a f)]
 have h:∀a∈b.drop (if(b[c]?).map ky=some (ky d)then c+1 else c),aT (ky d) (ky a)=true:=λa f=>by
  by_cases e:(b[c]?).map ky=some (ky d)
  ·rw[if_pos e]at f
   cases hr:b[c]? with
   | none=>rw[hr]at e;cases e
   | some l=>
    rw[hr]at e;have g:=AL e;rw[<-g];exact Ct hs hr f
  ·rw[if_neg e]at f
   cases hh:aT (ky d) (ky a)with
   | true=>rfl
   | false=>
    exfalso;have g:=oJ _ _ (k a f) hh;cases hr:b[c]? with
    | none=>
     rw[List.drop_eq_nil_of_le (List.getElem?_eq_none_iff.1 hr)]at f;cases f
    | some l=>
     obtain⟨i,rfl⟩:=AU.1 hr;have j:=f;rw[List.drop_eq_getElem_cons i]at j
     rcases Ag.1 j with rfl | j
     ·exact e (by rw[hr,Option.map_some,g])
     ·have:=Ct hs hr j
      rw[g,k b[c] (by rw[List.drop_eq_getElem_cons i];exact List.mem_cons_self)]at this;cases this
 refine⟨?_,h⟩
 have g:b.filter (λa=>!decide (ky a=ky d))=(b.take c).filter (λa=>!decide (ky a=ky d))++(b.drop c).filter (λa=>!decide (ky a=ky d)):=by
  rw[<-List.filter_append,List.take_append_drop]
 rw[g,m]
 congr 1
 by_cases e:(b[c]?).map ky=some (ky d)
 ·rw[if_pos e]at h ⊢
  cases hr:b[c]? with
  | none=>rw[hr]at e;cases e
  | some l=>
   rw[hr]at e;obtain⟨i,rfl⟩:=AU.1 hr;rw[List.drop_eq_getElem_cons i,List.filter_cons,if_neg (by have:ky b[c]=ky d:=Option.some.inj e;simp[this])];exact nW λa f=>by simp[(qP (h a f)).symm]
 ·rw[if_neg e]at h ⊢
  exact nW λa f=>by simp[(qP (h a f)).symm]
theorem IL{d a:List α}{x:α}{n:Nat}(hs:bN ky a)(e:a.Perm d)(f:∀b∈a.take n,aT (ky b) (ky x)=true)(g:∀b∈a.drop n,aT (ky b) (ky x)=false):
  bK ky (x :: d.filter (λb=>!decide (ky b=ky x)))=some (place (ky:=ky) x n a)/\bN ky (place (ky:=ky) x n a):=by
 obtain⟨c,i⟩:=IQ hs f g
 have g:(place (ky:=ky) x n a).Perm (x :: d.filter (λb=>!decide (ky b=ky x))):=by
  unfold place;refine List.perm_middle.trans ?_;rw[<-c];exact(e.filter _).cons x
 have b:bN ky (place (ky:=ky) x n a):=by
  unfold place
  have d:bN ky (a.take n++a.drop (if(a[n]?).map ky=some (ky x)then n+1 else n)):=by
   rw[<-c];exact hs.sublist List.filter_sublist
  obtain⟨j,k,l⟩:=List.pairwise_append.1 d;refine List.pairwise_append.2 ⟨j,List.pairwise_cons.2 ⟨i,k⟩,λa h d e=>?_⟩
  rcases Ag.1 e with rfl | e
  ·exact f a h
  ·exact l a h d e
 refine⟨?_,b⟩
 rw[xg g (b.imp λe=>KO e),if_pos ((g.pairwise_iff (R:=λa d=>ky a≠ky d) (λe=>λc=>e c.symm)).1 (b.imp λe=>qP e))]
theorem Ep{a:List α}(hs:bN ky a){c b:Nat}(d:c < b)(e:b < a.length):aT (ky (a[c]'ah)) (ky a[b])=true:=List.pairwise_iff_getElem.1 hs c b ah e d
end
def jT(a b L:Nat):Prop:=a % 2 ^ L=0/\a+2 ^ L<=b
instance (a b L:Nat):Decidable (jT a b L):=by unfold jT;exact inferInstance
theorem jT.down{c d a b:Nat}(f:jT c d a)(e:b<=a):jT c d b:=by
 obtain⟨c,d⟩:=f;have hd:=Nat.pow_dvd_pow 2 e;have d:2 ^ b<=2 ^ a:=Nat.pow_le_pow_right aR e;exact⟨Nat.mod_eq_zero_of_dvd (Nat.dvd_trans hd (Nat.dvd_of_mod_eq_zero c)),ah⟩
def XV(a b:Nat):Nat->Nat->Nat
 | 0,l=>l
 | f+1,l=>if jT a b (l+1)then XV a b f (l+1)else l
def Yq(a b:Nat):Nat:=XV a b 40 0
def QX(a b:Nat):Nat:=if 0 < a then min (Lib.bitLen (b - a) - 1) (Lib.ctz 64 a)else Lib.bitLen (b - a) - 1
theorem xC{n:Nat}(h0:0 < n)(a:n < 2 ^ 64):1<=Lib.bitLen n/\2 ^ (Lib.bitLen n - 1)<=n/\n < 2 ^ Lib.bitLen n:=
 Lib.bitLenAux_bounds 64 n a ah
def XE:Nat->Nat->Nat->List (Nat×Nat)
 | 0,_,_=>[]
 | f+1,a,b=>if a < b then(Yq a b,a / 2 ^ Yq a b) :: XE f (a+2 ^ Yq a b) b else[]
