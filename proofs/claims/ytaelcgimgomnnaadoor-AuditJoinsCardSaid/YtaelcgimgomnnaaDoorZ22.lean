/-
  Texts of the claim, put into one file: Grown.
-/
import Derived.Test.YtaelcgimgomnnaaDoorQuietTail
import Derived.Test.YtaelcgimgomnnaaDoorZ5
import Derived.Deep.QuietTactic
import Derived.BigQuiet
import Derived.Calls

namespace Go.Proofs.YtaelcgimgomnnaaDoor.Grown
open Go Go.RowKit Go.Proofs.YtaelcgimgomnnaaDoor Go.Proofs.YtaelcgimgomnnaaDoor.Mem Go.Proofs.YtaelcgimgomnnaaDoor.Sha Go.Proofs.YtaelcgimgomnnaaDoor.Bytes Go.Proofs.YtaelcgimgomnnaaDoor.QuietTail

/-- A world that has grown out of w: all that was there is as it was. -/
def Gr (w : World) : Type := { w' : World // Below w.heap.size w w' }
def Gr.w {w : World} (u : Gr w) : World := u.val
theorem Gr.below {w : World} (u : Gr w) : Below w.heap.size w u.w := u.property
instance (w : World) : Nonempty (Gr w) := ⟨⟨w, Below.refl _ _⟩⟩
def Class (w : World) : World → Prop := fun w' => ∃ u : Gr w, w' = u.w
theorem Class.mk_ {w w' : World} (h : Below w.heap.size w w') : Class w w' := ⟨⟨w', h⟩, rfl⟩
theorem Class.below {w w' : World} (h : Class w w') : Below w.heap.size w w' := by obtain ⟨u, rfl⟩ := h; exact u.below
theorem Class.next {w w' w'' : World} (h : Class w w') (hb : Below w'.heap.size w' w'') : Class w w'' := Class.mk_ (h.below.trans (hb.mono h.below.size))

section
variable {P : Program} {ops : Array Oper} {C : World → Prop} {Q : Act → Prop} {a : Act} {o : Oper} {rest : List Oper}
theorem quiet_want (hw : Region.wanted o (yielded ops a.tmps) = true) (h : ∀ K : Act → Prop, (∀ a, wpQuiet P ops C Q rest a → K a) → o.quiet P a C K) : wpQuiet P ops C Q (o :: rest) a :=
  wpQuiet_step fun K hK => by rw [if_pos hw]; exact h K hK
theorem run_mv {ρ : Operand → Value} {o : Oper} (x : Operand) (h : o.op = .move x) (w : World) : (execOp ρ o).run P w = .ok (.value (ρ x)) w := by
  unfold execOp; rw [h]; rfl
theorem run_fn {f : FuncId} {fn : Func} (hf : P.funcs[f]? = some fn) (hn : (fn.name == "runtime.NumGoroutine") = false) (hb : fn.body.isNone = false) (args : Array Value) (w : World) : (callFunc f args).run P w = .ok (.enter f args) w := by
  unfold callFunc
  have hp : (program.run P w) = .ok P w := rfl
  have h1 : ¬ fn.name = "runtime.NumGoroutine" := by simpa using hn
  have h2 : ¬ fn.body = none := fun e => by rw [e] at hb; cases hb
  simp [Sem.run_bind, hp, Result.andThen_ok, hf, h1, h2, go_sem]
theorem wpQuiet_val {v : Value} (hg : Region.wanted o (yielded ops a.tmps) = true) (h : ∀ w, C w → (execOp a.eval o).run P w = .ok (.value v) w) (hk : ∀ K : Act → Prop, (∀ a, wpQuiet P ops C Q rest a → K a) → K (a.put o.dst v)) : wpQuiet P ops C Q (o :: rest) a :=
  quiet_want hg fun _ hK => ⟨v, fun w hw => by unfold Oper.quietAt; rw [h w hw]; exact ⟨rfl, rfl⟩, hk _ hK⟩
theorem wpQuiet_call {v : Value} {f : FuncId} {args : Array Value} (hg : Region.wanted o (yielded ops a.tmps) = true) (hr : ∀ w, (execOp a.eval o).run P w = .ok (.enter f args) w) (h : ∀ w, C w → Calls P f args w fun e w'' => e = .returned v ∧ C w'') (hk : ∀ K : Act → Prop, (∀ a, wpQuiet P ops C Q rest a → K a) → K (a.put o.dst v)) :
    wpQuiet P ops C Q (o :: rest) a :=
  quiet_want hg fun _ hK => ⟨v, fun w hw => by unfold Oper.quietAt; rw [hr w]; exact ⟨rfl, h w hw⟩, hk _ hK⟩
theorem wpQuiet_move (hg : Region.wanted o (yielded ops a.tmps) = true) (x : Operand) (ho : o.op = .move x) (hk : ∀ K : Act → Prop, (∀ a, wpQuiet P ops C Q rest a → K a) → K (a.put o.dst (a.eval x))) : wpQuiet P ops C Q (o :: rest) a :=
  quiet_want hg fun _ hK => ⟨_, fun w _ => by unfold Oper.quietAt; rw [run_mv x ho]; exact ⟨rfl, rfl⟩, hk _ hK⟩
theorem wpQuiet_load_row (hg : Region.wanted o (yielded ops a.tmps) = true) (ty : TypeId) (x : Operand) (ho : o.op = .load ty x) (g : Nat) (hx : a.eval x = .pointer (some ⟨g, 0, none⟩)) (t : TypeId) (cs : Array Value) (fr : Nat × Nat) (d : TypeDesc)
    (hb : ∀ w, C w → w.heap[g]? = some (.cells cs t fr)) (hu : P.underlying ty = some d) (hd : (match d with | .struct _ | .array _ _ => true | _ => false) = true) (hi : (P.info? ty).map (·.size) = some cs.size)
    (hk : ∀ K : Act → Prop, (∀ a, wpQuiet P ops C Q rest a → K a) → K (a.put o.dst (.agg cs))) : wpQuiet P ops C Q (o :: rest) a :=
  wpQuiet_val hg (fun w hw => by
    unfold execOp
    simp only [ho, hx, Instr.loadAt, Instr.sureAddr, Sem.run_bind, Sem.run_pure, Result.andThen_ok, run_loadVar_row w g t ty cs fr d (hb w hw) hu hd hi]) hk
theorem wpQuiet_load_part (hg : Region.wanted o (yielded ops a.tmps) = true) (ty : TypeId) (x : Operand) (ho : o.op = .load ty x) (g i : Nat) (hx : a.eval x = .pointer (some ⟨g, i, none⟩)) (xs : List Value) (d : TypeDesc)
    (hb : ∀ w, C w → ∀ j v, xs[j]? = some v → w.cell? ⟨g, i + j, none⟩ = some v) (hu : P.underlying ty = some d) (hd : (match d with | .struct _ | .array _ _ => true | _ => false) = true) (hi : (P.info? ty).map (·.size) = some xs.length)
    (hk : ∀ K : Act → Prop, (∀ a, wpQuiet P ops C Q rest a → K a) → K (a.put o.dst (.agg xs.toArray))) : wpQuiet P ops C Q (o :: rest) a :=
  wpQuiet_val hg (fun w hw => by
    unfold execOp
    simp only [ho, hx, Instr.loadAt, Instr.sureAddr, Sem.run_bind, Sem.run_pure, Result.andThen_ok, run_loadVar_part w g i ty xs d (hb w hw) hu hd hi]) hk
theorem wpQuiet_fn {v : Value} {f : FuncId} {fn : Func} {args : Array Value} (hg : Region.wanted o (yielded ops a.tmps) = true) (ca : Array Operand) (ct : Array TypeId) (ho : o.op = .call { callee := .value (.func f), args := ca, argTypes := ct }) (ha : (ca.toList.map a.eval).toArray = args)
    (hf : P.funcs[f]? = some fn) (hn : (fn.name == "runtime.NumGoroutine") = false) (hb : fn.body.isNone = false)
    (h : ∀ w, C w → Calls P f args w fun e w'' => e = .returned v ∧ C w'') (hk : ∀ K : Act → Prop, (∀ a, wpQuiet P ops C Q rest a → K a) → K (a.put o.dst v)) : wpQuiet P ops C Q (o :: rest) a :=
  wpQuiet_call hg (fun w => by
    subst ha
    have hr := run_fn (P := P) hf hn hb
    simp [execOp, ho, resolve, invoke, Act.eval, hr, go_sem]
    rw [← Array.toList_map]) h hk
/-- A whole region, each operation quiet in the class. -/
theorem wp_region_class {id : Nat} {Q' : Exit → Act → World → Prop} {w : World} {l : List Oper} (C : World → Prop) (hm : P.follows .mixedOrders = true) (hB : Region.lexB .any l.toArray = true) (hC : C { w with drawn := w.drawn + 1 })
    (h : wpQuiet P l.toArray C (fun a' => ∀ w', C w' → Q' .normal a' w') l a) : (Code.region id l.toArray true).wp P Q' a w :=
  wp_region_quiet hm hB hC (by simpa using h)
theorem wpQuiet_skip_ (hw : Region.wanted o (yielded ops a.tmps) = false) (hk : ∀ K : Act → Prop, (∀ a, wpQuiet P ops C Q rest a → K a) → K (a.put o.dst undef)) : wpQuiet P ops C Q (o :: rest) a :=
  wpQuiet_step fun K hK => by rw [if_neg (by rw [hw]; exact Bool.false_ne_true)]; exact hk K hK
end
end Go.Proofs.YtaelcgimgomnnaaDoor.Grown
