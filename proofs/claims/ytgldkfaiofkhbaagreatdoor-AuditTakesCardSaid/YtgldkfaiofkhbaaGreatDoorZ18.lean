import Derived.Test.YtgldkfaiofkhbaaGreatDoorZ9
import Derived.Lib.BytesEntry
import Derived.Laws.Externs
import Derived.Outline
import Derived.WalkLawsBesides
import Derived.StillTailTactics
import Derived.OwnWalk
import Derived.IntWalk
namespace Go.Proofs.YtgldkfaiofkhbaaGreatDoor
open Go Go.RowKit Go.Proofs.Tryz
set_option maxRecDepth 100000
set_option maxHeartbeats 1000000
def oh(p q:aj):Int:=if aT p q=true then -1 else if aT q p=true then 1 else 0
theorem Ef(a:BitVec 8):((b8 a).toNat.toUInt8).toNat=a.toNat:=by
 have:=a.isLt;unfold b8;simp
theorem Hy:∀c d:aj,Lib.compareBytes (Lib.bytesOf (c.map b8)) (Lib.bytesOf (d.map b8))=oh c d
 | [],[]=>rfl
 | [],_ :: _=>rfl
 | _ :: _,[]=>rfl
 | a :: c,b :: d=>by
  have f:=Hy c d;(have e:∀(c:BitVec 8) (d:aj),Lib.bytesOf ((c :: d).map b8)=(b8 c).toNat.toUInt8 :: Lib.bytesOf (d.map b8):=λc d=>rfl);rw[e,e];unfold Lib.compareBytes oh;(have c:((b8 a).toNat.toUInt8 < (b8 b).toNat.toUInt8)=(a.toNat < b.toNat):=by rw[UInt8.lt_iff_toNat_lt,Ef,Ef]);(have d:((b8 b).toNat.toUInt8 < (b8 a).toNat.toUInt8)=(b.toNat < a.toNat):=by rw[UInt8.lt_iff_toNat_lt,Ef,Ef]);simp only[c,d];unfold aT;by_cases c:a.toNat < b.toNat
  ·simp[c]
  ·by_cases d:b.toNat < a.toNat
   ·simp[c,d]
   ·simp only[c,d,if_false]
    rw[f];rfl
theorem Cy{P:Program}{b:World}{c:Option Addr}{d e:Nat}{a:aj}(g:ax b 1 c d (ak a))(f:a.length=d):
  (Extern.Bytes.bytesOf (.slice c d e)).run P b=.ok ⟨(Lib.bytesOf (a.map b8)).toArray⟩ b:=by
 subst f
 cases c with
 | none=>
  have h0:a.length=0:=by
   rcases Nat.eq_zero_or_pos a.length with h0 | h0
   ·exact h0
   ·obtain⟨h,i,c,-⟩:=g.at_ ah
    cases c
  have:a=[]:=Ap h0;subst this;rfl
 | some j=>
  have d:=Lib.run_loadBytesX (P:=P) b (a.map b8) j .empty (λe k f=>by
   have b:e < a.length:=by
    have:=(AU.1 f).1;simpa using this
   obtain⟨h,i,c,k,j⟩:=g.at_ ah;obtain rfl:=AL c;rw[eD,j e _ (eu a e b)];rw[List.getElem?_map,List.getElem?_eq_getElem b]at f;have hx:=AL f;rw[<-hx,List.getD_eq_getElem?_getD,List.getElem?_eq_getElem b]
   rfl)
  rw[List.length_map]at d
  have b:(⟨ByteArray.empty.data++(Lib.bytesOf (a.map b8)).toArray⟩:ByteArray)=⟨(Lib.bytesOf (a.map b8)).toArray⟩:=by
   apply ByteArray.ext;show(#[]:Array UInt8)++(Lib.bytesOf (a.map b8)).toArray=_;simp
  rw[b]at d;exact d
theorem Kb{h:Program}{a:World}{f g:Option Addr}{b c i j:Nat}{d e:aj}(k:ax a 1 f b (ak d))(l:d.length=b)(m:ax a 1 g c (ak e))(n:e.length=c):
  (Extern.BytealgCompare.compare #[.slice f b i,.slice g c j]).run h a=.ok (.int .i64 (oh d e)) a:=by
 change Sem.run h (do pure (goInt (Extern.BytealgCompare.cmp (<-Extern.Bytes.bytesOf (.slice f b i)) (<-Extern.Bytes.bytesOf (.slice g c j))))) a=_
 simp only[Sem.run_bind,Sem.run_pure,Result.andThen,Cy k l,Cy m n]
 rw[Lib.cmp_eq]
 show Result.ok (Value.int .i64 (Lib.compareBytes (Lib.bytesOf (d.map b8)) (Lib.bytesOf (e.map b8)))) a=_
 rw[Hy]
theorem vN(b c:aj)(d f:Nat)(g:b.length=d)(h:c.length=f)(k l:Option Addr)(m n:Nat)(a:World)(i:ax a 1 k d (ak b))(j:ax a 1 l f (ak c)):
  Calls prog 63 #[.slice k d m,.slice l f n] a λe o=>e=.returned (.int .i64 (oh b c))/\o=a:=by
 replace i:=AA i
 replace j:=AA j
 replace g:=AA g
 replace h:=AA h
 go_enter func63,ntmps63
 go_wp2
 rw[run_callFunc_extern func122 bH bH bH (e:=Extern.BytealgCompare.compare) bH,Kb i.out g.out j.out h.out]
 simp only[Result.andThen]
 rw[Oper.upon_value]
 go_wp2
 go_ret
 exact⟨rfl,rfl⟩
