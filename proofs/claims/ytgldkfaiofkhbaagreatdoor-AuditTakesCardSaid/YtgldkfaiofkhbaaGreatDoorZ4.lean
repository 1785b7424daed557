import Derived.Test.YtgldkfaiofkhbaaGreatDoorZ3
import Derived.Outline
import Derived.WalkLawsBesides
import Derived.Deep.QuietTactic
import Derived.BigQuiet
import Derived.StillTailTactics
import Derived.OwnWalk
import Derived.IntWalk
namespace Go.Proofs.YtgldkfaiofkhbaaGreatDoor
open Go Go.RowKit
def iG(w:World)(g:Nat)(q:aj):Prop:=iX w g 5 (q.length+100) (λj=>if j < q.length then iF (q.getD j 0)else .int .u8 165)
theorem iG.reads{w:World}{a:Nat}{q:aj}(b:iG w a q):ax w 1 (some ⟨a,0,none⟩) q.length (ak q):=
 ⟨by rw[aB,Nat.mul_one],λ_=>⟨a,0,rfl,b.lt,λc u d=>by
  have a:c < q.length:=by
   have:=(AU.1 d).1;rwa[aB]at this
  rw[Nat.zero_add,b.cell ah,if_pos a,<-d,eu q c a]⟩⟩
theorem iG.kept{S:Nat->Prop}{w b:World}{a:Nat}{q:aj}(c:iG w a q)(d:au S w b)(e:¬S a):iG b a q:=iX.kept c d e
theorem iG.below{B:Nat}{w b:World}{a:Nat}{c:aj}(h:iG w a c)(d:Below B w b)(e:a < B):iG b a c:=iX.below' h d e
theorem iG.drewN{w:World}{a:Nat}{b:aj}(c:iG w a b)(d:Nat):iG (w.drewN d) a b:=c
theorem Pv{b c:aj}{a:Nat}(d:a < b.length)(e:a < c.length)(f:b.take a=c.take a):(b.take (a+1)=c.take (a+1))↔b.getD a 0=c.getD a 0:=by
 (have g:b[a]?=some (b.getD a 0):=by simp[List.getD,d]);(have b:c[a]?=some (c.getD a 0):=by simp[List.getD,e]);rw[List.take_add_one,List.take_add_one,f,g,b];simp only[Option.toList_some,List.append_cancel_left_eq,List.cons.injEq,and_true]
def Dn(w:World)(g:Nat)(q:aj)(mk:BitVec 8):Prop:=iX w g 5 (q.length+80) (λj=>if j < q.length then iF (q.getD j 0)else iF mk)
theorem Dn.reads{w:World}{a:Nat}{q:aj}{mk:BitVec 8}(b:Dn w a q mk):ax w 1 (some ⟨a,0,none⟩) q.length (ak q):=
 ⟨by rw[aB,Nat.mul_one],λ_=>⟨a,0,rfl,b.lt,λc u d=>by
  have a:c < q.length:=by
   have:=(AU.1 d).1;rwa[aB]at this
  rw[Nat.zero_add,b.cell ah,if_pos a,<-d,eu q c a]⟩⟩
theorem Dn.below{B:Nat}{w b:World}{a:Nat}{c:aj}{mk:BitVec 8}(h:Dn w a c mk)(d:Below B w b)(e:a < B):Dn b a c mk:=iX.below' h d e
theorem Dn.drewN{w:World}{a:Nat}{b:aj}{mk:BitVec 8}(c:Dn w a b mk)(d:Nat):Dn (w.drewN d) a b mk:=c
