/-
  AuditTakes (docketlaw20): two auditors over one ring of any keys (of these the first 70), each of any width, of any log and with any number of wanted signs, and any script (its first 40 steps) of offers, events and entries for the one or the other: each is made, answers and trusts as the document says, and none is made without a ring: the function answers true. Conditions: the round table of package docket/digest holds what its initialiser lays (tied by the card).
-/
import Derived.Test.YtgldkfaiofkhbaaGreatDoorCards
import Derived.Test.YtgldkfaiofkhbaaGreatDoorTie
import Derived.Test.YtgldkfaiofkhbaaGreatDoorZ34
import Derived.Test.YtgldkfaiofkhbaaGreatDoorZ35
import Derived.OpenShut
import Derived.LaidMore
import Derived.Lib.LaidTab
import Derived.Stop.LaidErr
namespace Go.Proofs.YtgldkfaiofkhbaaGreatDoor
open Go Go.RowKit Go.Proofs.Tryz
set_option maxRecDepth 100000
set_option maxHeartbeats 2000000
section
open Go.ChangeShapes Go.WideShapes Go.ChangeAt
set_option linter.unusedVariables false
theorem own:ownKnob prog.godebug=none:=by kernel_rfl
theorem tZ:laidOutB prog=true:=by kernel_rfl
theorem XZ:prog.globalNamed "docket/digest.round" =some 1:=by kernel_rfl
theorem S9:(prog.globals[1]?).map (·.type)=some 389:=by kernel_rfl
theorem VJ:prog.cellsOf 389=64:=by kernel_rfl
theorem Xg:prog.cellsOf 266=1:=by kernel_rfl
theorem base{a:World}(b:laidMetH prog Rows.auditTakesRow.laid a):bn a:=by
 have c:laidMet prog Rows.auditTakesRow.laid a:=by
  rw[MakeChecks.laidMetH_plain _ _ _ bH]at b;exact b
 have f:Lib.TabIs prog a "docket/digest.round" .u32 (Gl.map Int.ofNat):=Lib.tabIs_of_head (rest:=[]) XZ S9 underlying389 underlying266 Xg VJ c
 have d:∀b,b < 64->a.cell? ⟨1,b,none⟩=some (.int .u32 (u (K b))):=λb e=>by
  have:=f.cell XZ b (by simpa[Gl]using e);rw[this];(have f:∀c,c < 64->((Gl.map Int.ofNat).getD c 0)=u (K c):=by decide+kernel);rw[<-f b e]
 exact⟨World.block_lt_of_cell? a ⟨1,0,none⟩ (d 0 ah),d⟩
theorem contract(k:Type)(l:TypeId×Value->k)(a:World)(D:Nat)(c:Array Value)(m E:List (DataW k))(F:List MemPlace)
  (b:∀(j:Nat) t d,Tryz.f3.params[j]?=some t->c[j]?=some d->Value.okWide prog a .any D t d)
  (n:DataW.Whole l prog Tryz.f3.params.toList Rows.auditTakesSpec.vars false a c.toList m E F)
  (e:(DataW.weightsEach prog Tryz.f3.params.toList m).all (·<=reachBytes)=true)
  (G:laidMetH prog Rows.auditTakesRow.laid a)
  :Calls prog 3 c a λo p=>∃d,o=.returned d/\Rows.auditTakesSpec.post l prog Tryz.f3 false true false false a c d p:=by
 have q:=n
 obtain⟨H,r,s,I,rfl,φ,χ⟩:=n
 have J:∀f∈H,f.block < a.heap.size:=λf hx=>q.lt f (by simp[hx])
 have u:=s
 rw[Tryz.params3]at u b e
 obtain⟨v,ψ,ω,Γ,Δ,Θ,Ξ,rfl,rfl,h0,K⟩:=trodAll_cons u
 obtain⟨w,Φ,Ψ,Ω,À,Á,rfl,rfl,rfl,L,M⟩:=trodAll_cons K
 obtain⟨x,Â,Ã,Ä,Å,y,rfl,rfl,rfl,N,O⟩:=trodAll_cons M
 obtain⟨z,Æ,Ç,È,É,Ê,rfl,rfl,rfl,P,Q⟩:=trodAll_cons O
 obtain⟨A,Ë,Ì,Í,Î,Ï,rfl,rfl,rfl,R,S⟩:=trodAll_cons Q
 obtain⟨B,Ð,Ñ,Ò,Ó,Ô,rfl,rfl,rfl,T,U⟩:=trodAll_cons S
 obtain⟨rfl,rfl,rfl⟩:=trodAll_nil U
 obtain rfl:c=#[v,w,x,z,A,B]:=by cases c;simp_all
 obtain⟨rfl,rfl⟩:=trodVars_none I
 obtain⟨g,rfl,rfl,rfl,V⟩:=open_int underlying3 (b 0 3 v rfl rfl) h0
 have Õ:-9223372036854775808<=g/\g<=9223372036854775807:=by simpa[Lit.wf,IntKind.min,IntKind.max,IntKind.signed,IntKind.bits]using V
 obtain⟨h,rfl,rfl,rfl,W⟩:=open_int underlying3 (b 1 3 w rfl rfl) L
 have Ö:-9223372036854775808<=h/\h<=9223372036854775807:=by simpa[Lit.wf,IntKind.min,IntKind.max,IntKind.signed,IntKind.bits]using W
 obtain⟨y,rfl,X⟩:=R7 underlying23 underlying5 bH bH (b 2 23 x rfl rfl) N
 obtain⟨Y,Z,α,β,rfl,γ,δ,Ø,Ù,ε,ζ,η⟩:=M8 underlying24 underlying27 underlying5 bH bH bH (b 3 24 z rfl rfl) P e (j:=3) rfl rfl
 have Ú:=η.le e (j:=3) (t:=24) rfl rfl underlying24 24 bH
 obtain⟨i,rfl,rfl,rfl,θ⟩:=open_int underlying3 (b 4 3 A rfl rfl) R
 have Û:-9223372036854775808<=i/\i<=9223372036854775807:=by simpa[Lit.wf,IntKind.min,IntKind.max,IntKind.signed,IntKind.bits]using θ
 obtain⟨ι,κ,μ,ν,rfl,ξ,ο,Ü,Ý⟩:=M9 (b 5 25 B rfl rfl) T e (j:=5) rfl rfl
 have ρ:=base G
 refine(FN g h ah ah y X β Z γ Y α δ i ν κ ξ ι μ a ρ ε (λr σ=>Nat.lt_trans (ζ r σ) aR) ο).mono λo p ⟨τ,C⟩=>?_
 subst τ
 exact⟨_,rfl,_,_,_,[],_,[],q,trodAll_mk1 (shut_bool underlying4 _),Li tZ C bH s J,rfl,C.frame _,λυ=>by cases υ⟩
theorem SA(a:Os)(b:Array Value):laidMetH prog Rows.auditTakesRow.laid ((World.doorLaid prog 24 a).forCall (λ_ _=>0) ⟨#[],b,[]⟩).memory:=
 laidMetH_of_parts3 (fuel:=8) (laidMet_of_run' 8 bH bH) bH bH
theorem ve(a:Os){b:Type}(c:TypeId×Value->b):∃d,DataW.whole c prog ((World.doorLaid prog 24 a).forCall (λ_ _=>0) ⟨#[],#[.int .i64 0,.int .i64 0,.agg (Array.replicate 32 (.int .u8 0)),.slice none 0 0,.int .i64 0,.slice none 0 0],[]⟩).memory Tryz.f3.params.toList Rows.auditTakesSpec.vars false (#[.int .i64 0,.int .i64 0,.agg (Array.replicate 32 (.int .u8 0)),.slice none 0 0,.int .i64 0,.slice none 0 0]:Array Value).toList 8=some ([.lit (.int .i64 0),.lit (.int .i64 0),.agg (List.replicate 32 (.lit (.int .u8 0))),.nil,.lit (.int .i64 0),.nil],[],d):=
 ⟨[],by kernel_rfl⟩
theorem uK(a:Os)(c:a.Started)(b:Type)(enc:TypeId×Value->b)(d:Stop.Interp):
  ReturnsInHanded {} Tryz.checked a 3 .any ((OpenSpec.ofChange Rows.auditTakesSpec).preRow enc prog Tryz.f3 Rows.auditTakesRow.domain false Rows.auditTakesRow.laid) (((OpenSpec.ofChange Rows.auditTakesSpec).at d).post enc prog Tryz.f3 false true false false):=by
 obtain⟨d,hx⟩:=ve a enc
 refine returnsInHanded_of_row (C:=Tryz.checked) (s:=OpenSpec.ofChange Rows.auditTakesSpec) own c bH func3
  (witness_row_at (enc:=enc) (C:=Tryz.checked) false (World.doorLaid prog 24 a) #[.int .i64 0,.int .i64 0,.agg (Array.replicate 32 (.int .u8 0)),.slice none 0 0,.int .i64 0,.slice none 0 0] rfl bH bH bH
   (OpenSpec.preRow_of_cond 8 hx bH (λd c=>by cases c) bH (SA a _))) ?_
 intro e f g a h i j c _ l d k _ _
 have l:h=[]:=by obtain⟨_,_,_,h,_⟩:=c;exact(trodVars_none h).1
 subst l
 have h:(DataW.weightsEach prog Tryz.f3.params.toList a).all (·<=reachBytes)=true:=by
  rw[show(OpenSpec.ofChange Rows.auditTakesSpec).bare.plain.varTypes Tryz.checked.prog=[]from rfl,List.append_nil,List.append_nil]at d;exact d
 exact contract b enc e f g a [] i j c h k
theorem said:Rows.AuditTakesSaid:=
 OpenClaim.holds_of_cond 3 Tryz.f3 rfl rfl rfl rfl rfl rfl rfl ⟨rfl,rfl,rfl,rfl,rfl⟩ rfl rfl rfl rfl rfl bH func3 sJ
  (BQ bH) (by unfold Func.isWrapper;first|(rw[if_pos (by decide+kernel)];kernel_rfl) |(rw[if_neg (by decide+kernel)];exact⟨rfl,rfl⟩))
  (λa b c d _ e=>by rw[OpenClaim.pre_eq_preRow];exact uK a b c d e)
theorem vg(b:FuncId)(c:Func)(e:Tryz.pinned.checked.prog.funcNamed "docket/docketlaw20.AuditTakes" =some b)(f:Tryz.pinned.checked.prog.funcs[b]?=some c):
  false=Tryz.pinned.checked.prog.looks []/\∀(d:Nat) a,c.params[d]?=some a->Tryz.pinned.checked.prog.wantsStandIn a=false:=by
 obtain rfl:b=3:=AL ((show prog.funcNamed "docket/docketlaw20.AuditTakes" =some 3 by kernel_rfl).symm.trans e) |>.symm
 obtain rfl:c=Tryz.f3:=(AL (func3.symm.trans f)).symm
 refine⟨by kernel_rfl,λd a b=>?_⟩
 rw[Tryz.params3]at b
 have c:a∈([3,3,23,24,3,25]:List TypeId):=by simpa using Array.mem_of_getElem? b
 have b:(([3,3,23,24,3,25]:List TypeId).all λu=>!prog.wantsStandIn u)=true:=by kernel_rfl
 exact(show prog.wantsStandIn a=false by simpa using List.all_eq_true.1 b a c)
theorem card:Rows.AuditTakesCardSaid:=
 Claim7.holds_tied_plain_at .later [] _ _ _ _ said (λ_ a=>by cases a) bH (λ_ a=>by cases a) auditTakes_row_tie rfl ⟨rfl,rfl⟩ bH rfl vg bH
#print axioms card
end
