/-
  Texts of the claim, put into one file: Grown, Want, Plain.
-/
import Derived.Test.YtgldkfaiofkhbaaDoorZ14
import Derived.Test.YtgldkfaiofkhbaaDoorZ3
import Derived.Deep.QuietTactic
import Derived.BigQuiet
import Derived.Calls

namespace Go.Proofs.YtgldkfaiofkhbaaDoor.Grown
open Go Go.RowKit Go.Proofs.YtgldkfaiofkhbaaDoor Go.Proofs.YtgldkfaiofkhbaaDoor.Mem Go.Proofs.YtgldkfaiofkhbaaDoor.Sha Go.Proofs.YtgldkfaiofkhbaaDoor.Bytes Go.Proofs.YtgldkfaiofkhbaaDoor.QuietTail

/-- A world that has grown out of w: all that was there is as it was. -/
def Gr (w : World) : Type := { w' : World // Below w.heap.size w w' }
def Gr.w {w : World} (u : Gr w) : World := u.val
theorem Gr.below {w : World} (u : Gr w) : Below w.heap.size w u.w := u.property
instance (w : World) : Nonempty (Gr w) := ⟨⟨w, Below.refl _ _⟩⟩
def Class (w : World) : World → Prop := fun w' => ∃ u : Gr w, w' = u.w
theorem Class.mk_ {w w' : World} (h : Below w.heap.size w w') : Class w w' := ⟨⟨w', h⟩, rfl⟩
theorem Class.below {w w' : World} (h : Class w w') : Below w.heap.size w w' := by obtain ⟨u, rfl⟩ := h; exact u.below
theorem Class.next {w w' w'' : World} (h : Class w w') (hb : Below w'.heap.size w' w'') : Class w w'' := Class.mk_ (h.below.trans (hb.mono h.below.size))

section
variable {P : Program} {ops : Array Oper} {C : World → Prop} {Q : Act → Prop} {a : Act} {o : Oper} {rest : List Oper}
theorem quiet_want (hw : Region.wanted o (yielded ops a.tmps) = true) (h : ∀ K : Act → Prop, (∀ a, wpQuiet P ops C Q rest a → K a) → o.quiet P a C K) : wpQuiet P ops C Q (o :: rest) a :=
  wpQuiet_step fun K hK => by rw [if_pos hw]; exact h K hK
theorem run_mv {ρ : Operand → Value} {o : Oper} (x : Operand) (h : o.op = .move x) (w : World) : (execOp ρ o).run P w = .ok (.value (ρ x)) w := by
  unfold execOp; rw [h]; rfl
theorem run_fn {f : FuncId} {fn : Func} (hf : P.funcs[f]? = some fn) (hn : (fn.name == "runtime.NumGoroutine") = false) (hb : fn.body.isNone = false) (args : Array Value) (w : World) : (callFunc f args).run P w = .ok (.enter f args) w := by
  unfold callFunc
  have hp : (program.run P w) = .ok P w := rfl
  have h1 : ¬ fn.name = "runtime.NumGoroutine" := by simpa using hn
  have h2 : ¬ fn.body = none := fun e => by rw [e] at hb; cases hb
  simp [Sem.run_bind, hp, Result.andThen_ok, hf, h1, h2, go_sem]
theorem wpQuiet_val {v : Value} (hg : Region.wanted o (yielded ops a.tmps) = true) (h : ∀ w, C w → (execOp a.eval o).run P w = .ok (.value v) w) (hk : ∀ K : Act → Prop, (∀ a, wpQuiet P ops C Q rest a → K a) → K (a.put o.dst v)) : wpQuiet P ops C Q (o :: rest) a :=
  quiet_want hg fun _ hK => ⟨v, fun w hw => by unfold Oper.quietAt; rw [h w hw]; exact ⟨rfl, rfl⟩, hk _ hK⟩
theorem wpQuiet_call {v : Value} {f : FuncId} {args : Array Value} (hg : Region.wanted o (yielded ops a.tmps) = true) (hr : ∀ w, (execOp a.eval o).run P w = .ok (.enter f args) w) (h : ∀ w, C w → Calls P f args w fun e w'' => e = .returned v ∧ C w'') (hk : ∀ K : Act → Prop, (∀ a, wpQuiet P ops C Q rest a → K a) → K (a.put o.dst v)) :
    wpQuiet P ops C Q (o :: rest) a :=
  quiet_want hg fun _ hK => ⟨v, fun w hw => by unfold Oper.quietAt; rw [hr w]; exact ⟨rfl, h w hw⟩, hk _ hK⟩
theorem wpQuiet_move (hg : Region.wanted o (yielded ops a.tmps) = true) (x : Operand) (ho : o.op = .move x) (hk : ∀ K : Act → Prop, (∀ a, wpQuiet P ops C Q rest a → K a) → K (a.put o.dst (a.eval x))) : wpQuiet P ops C Q (o :: rest) a :=
  quiet_want hg fun _ hK => ⟨_, fun w _ => by unfold Oper.quietAt; rw [run_mv x ho]; exact ⟨rfl, rfl⟩, hk _ hK⟩
theorem wpQuiet_load_row (hg : Region.wanted o (yielded ops a.tmps) = true) (ty : TypeId) (x : Operand) (ho : o.op = .load ty x) (g : Nat) (hx : a.eval x = .pointer (some ⟨g, 0, none⟩)) (t : TypeId) (cs : Array Value) (fr : Nat × Nat) (d : TypeDesc)
    (hb : ∀ w, C w → w.heap[g]? = some (.cells cs t fr)) (hu : P.underlying ty = some d) (hd : (match d with | .struct _ | .array _ _ => true | _ => false) = true) (hi : (P.info? ty).map (·.size) = some cs.size)
    (hk : ∀ K : Act → Prop, (∀ a, wpQuiet P ops C Q rest a → K a) → K (a.put o.dst (.agg cs))) : wpQuiet P ops C Q (o :: rest) a :=
  wpQuiet_val hg (fun w hw => by
    unfold execOp
    simp only [ho, hx, Instr.loadAt, Instr.sureAddr, Sem.run_bind, Sem.run_pure, Result.andThen_ok, run_loadVar_row w g t ty cs fr d (hb w hw) hu hd hi]) hk
theorem wpQuiet_load_part (hg : Region.wanted o (yielded ops a.tmps) = true) (ty : TypeId) (x : Operand) (ho : o.op = .load ty x) (g i : Nat) (hx : a.eval x = .pointer (some ⟨g, i, none⟩)) (xs : List Value) (d : TypeDesc)
    (hb : ∀ w, C w → ∀ j v, xs[j]? = some v → w.cell? ⟨g, i + j, none⟩ = some v) (hu : P.underlying ty = some d) (hd : (match d with | .struct _ | .array _ _ => true | _ => false) = true) (hi : (P.info? ty).map (·.size) = some xs.length)
    (hk : ∀ K : Act → Prop, (∀ a, wpQuiet P ops C Q rest a → K a) → K (a.put o.dst (.agg xs.toArray))) : wpQuiet P ops C Q (o :: rest) a :=
  wpQuiet_val hg (fun w hw => by
    unfold execOp
    simp only [ho, hx, Instr.loadAt, Instr.sureAddr, Sem.run_bind, Sem.run_pure, Result.andThen_ok, run_loadVar_part w g i ty xs d (hb w hw) hu hd hi]) hk
theorem wpQuiet_fn {v : Value} {f : FuncId} {fn : Func} {args : Array Value} (hg : Region.wanted o (yielded ops a.tmps) = true) (ca : Array Operand) (ct : Array TypeId) (ho : o.op = .call { callee := .value (.func f), args := ca, argTypes := ct }) (ha : (ca.toList.map a.eval).toArray = args)
    (hf : P.funcs[f]? = some fn) (hn : (fn.name == "runtime.NumGoroutine") = false) (hb : fn.body.isNone = false)
    (h : ∀ w, C w → Calls P f args w fun e w'' => e = .returned v ∧ C w'') (hk : ∀ K : Act → Prop, (∀ a, wpQuiet P ops C Q rest a → K a) → K (a.put o.dst v)) : wpQuiet P ops C Q (o :: rest) a :=
  wpQuiet_call hg (fun w => by
    subst ha
    have hr := run_fn (P := P) hf hn hb
    simp [execOp, ho, resolve, invoke, Act.eval, hr, go_sem]
    rw [← Array.toList_map]) h hk
/-- A whole region, each operation quiet in the class. -/
theorem wp_region_class {id : Nat} {Q' : Exit → Act → World → Prop} {w : World} {l : List Oper} (C : World → Prop) (hm : P.follows .mixedOrders = true) (hB : Region.lexB .any l.toArray = true) (hC : C { w with drawn := w.drawn + 1 })
    (h : wpQuiet P l.toArray C (fun a' => ∀ w', C w' → Q' .normal a' w') l a) : (Code.region id l.toArray true).wp P Q' a w :=
  wp_region_quiet hm hB hC (by simpa using h)
theorem wpQuiet_skip_ (hw : Region.wanted o (yielded ops a.tmps) = false) (hk : ∀ K : Act → Prop, (∀ a, wpQuiet P ops C Q rest a → K a) → K (a.put o.dst undef)) : wpQuiet P ops C Q (o :: rest) a :=
  wpQuiet_step fun K hK => by rw [if_neg (by rw [hw]; exact Bool.false_ne_true)]; exact hk K hK
end
end Go.Proofs.YtgldkfaiofkhbaaDoor.Grown

namespace Go.Proofs.YtgldkfaiofkhbaaDoor.Want
open Go Go.RowKit Go.Proofs.YtgldkfaiofkhbaaDoor.Grown
def dstAt : List Oper → Nat → Option Tmp
  | [], _ => none
  | o :: _, 0 => o.dst
  | _ :: l, n + 1 => dstAt l n
def valAt : List Value → Nat → Option Value
  | [], _ => none
  | v :: _, 0 => some v
  | _ :: l, n + 1 => valAt l n
def boolOf : Option Value → Option Bool
  | some (.bool b) => some b
  | _ => none
def boolAt (l : List Value) (d : Nat) : Option Bool := boolOf (valAt l d)
def wantB (g : Option (Nat × Bool)) (l : List Oper) (ts : List Value) : Bool :=
  match g with
  | none => true
  | some (j, b) => match dstAt l j with
    | none => false
    | some d => match boolAt ts d with
      | none => false
      | some true => b
      | some false => !b
theorem dstAt_eq : ∀ (l : List Oper) (j : Nat), (l[j]?).bind (·.dst) = dstAt l j
  | [], _ => rfl
  | _ :: _, 0 => rfl
  | _ :: l, j + 1 => dstAt_eq l j
theorem valAt_eq : ∀ (l : List Value) (d : Nat), l[d]? = valAt l d
  | [], _ => rfl
  | _ :: _, 0 => rfl
  | _ :: l, d + 1 => valAt_eq l d
theorem boolAt_eq (l : List Value) (d : Nat) : (match l[d]? with | some (.bool b) => some b | _ => none) = boolAt l d := by
  unfold boolAt
  rw [valAt_eq]
  unfold boolOf
  cases valAt l d with
  | none => rfl
  | some v => cases v <;> rfl
theorem wantB_eq (o : Oper) (l : List Oper) (ts : List Value) : Region.wanted o (yielded l.toArray ts.toArray) = wantB o.guard l ts := by
  unfold Region.wanted wantB
  cases o.guard with
  | none => rfl
  | some p =>
    obtain ⟨j, b⟩ := p
    show (yielded l.toArray ts.toArray j == some b) = _
    unfold yielded
    rw [List.getElem?_toArray, dstAt_eq]
    dsimp only
    cases dstAt l j with
    | none => rfl
    | some d =>
      show ((match ts.toArray[d]? with | some (.bool b) => some b | _ => none) == some b) = _
      rw [List.getElem?_toArray, boolAt_eq]
      dsimp only
      cases boolAt ts d with
      | none => rfl
      | some x => cases x <;> cases b <;> rfl
theorem want {o : Oper} {l : List Oper} {ts : List Value} {b : Bool} (h : wantB o.guard l ts = b) : Region.wanted o (yielded l.toArray ts.toArray) = b := (wantB_eq o l ts).trans h

/-! ### The steps -/
/-- A goal that nothing unfolds. -/
structure Veil (p : Prop) : Prop where
  out : p
section
variable {P : Program} {l : List Oper} {ts : List Value} {df : List Deferred} {C : World → Prop} {Q : Act → Prop} {o : Oper} {rest : List Oper}
theorem q_val {v : Value} (hg : wantB o.guard l ts = true) (h : ∀ w, C w → (execOp (Act.mk ts.toArray df).eval o).run P w = .ok (.value v) w) (hk : ∀ K : Act → Prop, (∀ a, Veil (wpQuiet P l.toArray C Q rest a) → K a) → K ((Act.mk ts.toArray df).put o.dst v)) : Veil (wpQuiet P l.toArray C Q (o :: rest) ⟨ts.toArray, df⟩) :=
  ⟨wpQuiet_val (v := v) (want hg) h fun K hK => hk K fun a h => hK a h.out⟩
theorem q_skip (hg : wantB o.guard l ts = false) (hk : ∀ K : Act → Prop, (∀ a, Veil (wpQuiet P l.toArray C Q rest a) → K a) → K ((Act.mk ts.toArray df).put o.dst undef)) : Veil (wpQuiet P l.toArray C Q (o :: rest) ⟨ts.toArray, df⟩) :=
  ⟨wpQuiet_skip_ (want hg) fun K hK => hk K fun a h => hK a h.out⟩
theorem q_move (hg : wantB o.guard l ts = true) (x : Operand) (ho : o.op = .move x) (hk : ∀ K : Act → Prop, (∀ a, Veil (wpQuiet P l.toArray C Q rest a) → K a) → K ((Act.mk ts.toArray df).put o.dst ((Act.mk ts.toArray df).eval x))) : Veil (wpQuiet P l.toArray C Q (o :: rest) ⟨ts.toArray, df⟩) :=
  ⟨wpQuiet_move (want hg) x ho fun K hK => hk K fun a h => hK a h.out⟩
theorem q_row (hg : wantB o.guard l ts = true) (ty : TypeId) (x : Operand) (ho : o.op = .load ty x) (g : Nat) (hx : (Act.mk ts.toArray df).eval x = .pointer (some ⟨g, 0, none⟩)) (t : TypeId) (cs : Array Value) (fr : Nat × Nat) (d : TypeDesc)
    (hb : ∀ w, C w → w.heap[g]? = some (.cells cs t fr)) (hu : P.underlying ty = some d) (hd : (match d with | .struct _ | .array _ _ => true | _ => false) = true) (hi : (P.info? ty).map (·.size) = some cs.size)
    (hk : ∀ K : Act → Prop, (∀ a, Veil (wpQuiet P l.toArray C Q rest a) → K a) → K ((Act.mk ts.toArray df).put o.dst (.agg cs))) : Veil (wpQuiet P l.toArray C Q (o :: rest) ⟨ts.toArray, df⟩) :=
  ⟨wpQuiet_load_row (want hg) ty x ho g hx t cs fr d hb hu hd hi fun K hK => hk K fun a h => hK a h.out⟩
theorem q_part (hg : wantB o.guard l ts = true) (ty : TypeId) (x : Operand) (ho : o.op = .load ty x) (g i : Nat) (hx : (Act.mk ts.toArray df).eval x = .pointer (some ⟨g, i, none⟩)) (xs : List Value) (d : TypeDesc)
    (hb : ∀ w, C w → ∀ j v, xs[j]? = some v → w.cell? ⟨g, i + j, none⟩ = some v) (hu : P.underlying ty = some d) (hd : (match d with | .struct _ | .array _ _ => true | _ => false) = true) (hi : (P.info? ty).map (·.size) = some xs.length)
    (hk : ∀ K : Act → Prop, (∀ a, Veil (wpQuiet P l.toArray C Q rest a) → K a) → K ((Act.mk ts.toArray df).put o.dst (.agg xs.toArray))) : Veil (wpQuiet P l.toArray C Q (o :: rest) ⟨ts.toArray, df⟩) :=
  ⟨wpQuiet_load_part (want hg) ty x ho g i hx xs d hb hu hd hi fun K hK => hk K fun a h => hK a h.out⟩
theorem q_fn {v : Value} {f : FuncId} {fn : Func} {args : Array Value} (hg : wantB o.guard l ts = true) (ca : Array Operand) (ct : Array TypeId) (ho : o.op = .call { callee := .value (.func f), args := ca, argTypes := ct }) (ha : (ca.toList.map (Act.mk ts.toArray df).eval).toArray = args)
    (hf : P.funcs[f]? = some fn) (hn : (fn.name == "runtime.NumGoroutine") = false) (hb : fn.body.isNone = false)
    (h : ∀ w, C w → Calls P f args w fun e w'' => e = .returned v ∧ C w'') (hk : ∀ K : Act → Prop, (∀ a, Veil (wpQuiet P l.toArray C Q rest a) → K a) → K ((Act.mk ts.toArray df).put o.dst v)) : Veil (wpQuiet P l.toArray C Q (o :: rest) ⟨ts.toArray, df⟩) :=
  ⟨wpQuiet_fn (want hg) ca ct ho ha hf hn hb h fun K hK => hk K fun a h => hK a h.out⟩
theorem q_nil {a : Act} (h : Q a) : Veil (wpQuiet P l.toArray C Q [] a) := ⟨wpQuiet_nil h⟩
/-- A whole region, each operation quiet in the class. -/
theorem q_region {id : Nat} {Q' : Exit → Act → World → Prop} {w : World} {a : Act} (C : World → Prop) (hm : P.follows .mixedOrders = true) (hB : Region.lexB .any l.toArray = true) (hC : C { w with drawn := w.drawn + 1 })
    (h : Veil (wpQuiet P l.toArray C (fun a' => ∀ w', C w' → Q' .normal a' w') l a)) : (Code.region id l.toArray true).wp P Q' a w :=
  wp_region_class C hm hB hC h.out
end
/-- Two aggregates compared, where the comparison's own run is known. -/
theorem run_cmp {P : Program} {ρ : Operand → Value} {o : Oper} {op : BinOp} {T u : TypeId} {x y : Operand} {xs ys : Array Value} {r : Value} {w : World} (h : o.op = .binOp op T x y u) (hx : ρ x = .agg xs) (hy : ρ y = .agg ys)
    (hg : P.eqGuardType P.depth T = false) (hr : (binOp op T (.agg xs) (.agg ys)).run P w = .ok r w) : (execOp ρ o).run P w = .ok (.value r) w := by
  have hp : (program.run P w) = .ok P w := rfl
  have he : (eqGuard op T x y (.agg xs) (.agg ys)).run P w = .ok () w := by
    cases op <;> simp [eqGuard, Sem.run_bind, hp, Result.andThen_ok, hg, go_sem]
  unfold execOp
  rw [h]
  simp only [hx, hy, Sem.run_bind, he, Result.andThen_ok, hr, Sem.run_pure]
end Go.Proofs.YtgldkfaiofkhbaaDoor.Want

namespace Go.Proofs.YtgldkfaiofkhbaaDoor.Plain
open Go Go.RowKit Go.Proofs.YtgldkfaiofkhbaaDoor.Grown Go.Proofs.YtgldkfaiofkhbaaDoor.Want
theorem wpList_of_quiet {P : Program} {ops : Array Oper} {C : World → Prop} {Q : Exit → Act → World → Prop} : ∀ (rest : List Oper) (a : Act) (w : World), C w → wpQuiet P ops C (fun a' => ∀ w', C w' → Q .normal a' w') rest a → wpList P ops Q rest a w
  | [], _, w, hC, h => h w hC
  | o :: rest, a, w, hC, h => by
    unfold wpQuiet at h
    unfold wpList
    split
    · rename_i hw
      rw [if_pos hw] at h
      exact .inl (Oper.wp_of_quiet hC (fun a' w' hc hq => wpList_of_quiet rest a' w' hc hq) h)
    · rename_i hw
      rw [if_neg hw] at h
      exact wpList_of_quiet rest _ w hC h
theorem q_plain {P : Program} {l : List Oper} {id : Nat} {Q' : Exit → Act → World → Prop} {w : World} {a : Act} (C : World → Prop) (hC : C w)
    (h : Veil (wpQuiet P l.toArray C (fun a' => ∀ w', C w' → Q' .normal a' w') l a)) : (Code.region id l.toArray false).wp P Q' a w :=
  wp_region_lit (wpList_of_quiet l a w hC h.out)
end Go.Proofs.YtgldkfaiofkhbaaDoor.Plain
