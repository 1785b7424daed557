/-
  Texts of the claim, put into one file: Held, Guard, StoreWhole.
-/
import Derived.Test.YtgldkfaiofkhbaaDoorZ15
import Derived.OrdersHeld
import Derived.Great.BuildSlice

namespace Go.Proofs.YtgldkfaiofkhbaaDoor.Held
open Go Go.RowKit Go.Proofs.YtgldkfaiofkhbaaDoor Go.Proofs.YtgldkfaiofkhbaaDoor.Mem Go.Proofs.YtgldkfaiofkhbaaDoor.Sha Go.Proofs.YtgldkfaiofkhbaaDoor.Bytes Go.Proofs.YtgldkfaiofkhbaaDoor.QuietTail Go.Proofs.YtgldkfaiofkhbaaDoor.Grown
section
variable {P : Program} {ops : Array Oper} {md : Region.Mode} {Q : Exit → Act → World → Prop} {S : World → Prop} {a : Act} {w : World} {listed : Array Bool} {fuel : Nat}

theorem held_start {id : Nat} {a : Act} {w : World} {l : List Oper} (S : World → Prop) (N : Nat) (hN : l.length = N) (hm : P.follows .mixedOrders = true)
    (h : wpAnyH P .any l.toArray Q S N (Array.replicate N false) a { w with drawn := w.drawn + 1 }) : (Code.region id l.toArray true).wp P Q a w := by
  subst hN
  exact wp_region_held hm (by simpa using h)
theorem held_take {i : Nat} {oi : Oper} {v : Value} (hi : ops[i]? = some oi)
    (hs : Region.noSelect ops = true) (hf : Region.free md ops listed i = true) (hr : (Region.ready md ops listed).contains i = true)
    (hQ : ∀ c a w, Q (.panic c) (a.put oi.dst v) w → Q (.panic c) a w) (hS : S w) (hg : Region.wanted oi (yielded ops a.tmps) = true) (hy : ∀ w, S w → (execOp a.eval oi).run P w = .ok (.value v) w)
    (h : ∀ K : Act → Prop, (∀ a, wpAnyH P md ops Q S fuel (listed.setIfInBounds i true) a w → K a) → K (a.put oi.dst v)) : wpAnyH P md ops Q S (fuel + 1) listed a w :=
  wpAnyH_take hi hs hf hr hQ (Or.inl ⟨hg, hy⟩) hS (h _ (fun _ h => h))
theorem held_only {i : Nat} {oi : Oper} (hi : ops[i]? = some oi) (hr : Region.ready md ops listed = [i]) (hw : Region.wanted oi (yielded ops a.tmps) = true)
    (h : ∀ K : Act → World → Prop, (∀ a' w', S w' → wpAnyH P md ops Q S fuel (listed.setIfInBounds i true) a' w' → K a' w') → oi.wp P a w K Q) : wpAnyH P md ops Q S (fuel + 1) listed a w := by
  refine wpAnyH_all hr (by simp) (fun j hj => ?_)
  simp only [List.mem_singleton] at hj
  subst hj
  unfold wpOp
  simp only [hi]
  rw [if_pos hw]
  exact .inl (h _ (fun _ _ h1 h2 => ⟨h1, h2⟩))
theorem held_two {i j : Nat} {oi oj : Oper} (hi : ops[i]? = some oi) (hj : ops[j]? = some oj) (hr : Region.ready md ops listed = [i, j]) (hwi : Region.wanted oi (yielded ops a.tmps) = true) (hwj : Region.wanted oj (yielded ops a.tmps) = true)
    (h1 : ∀ K : Act → World → Prop, (∀ a' w', S w' → wpAnyH P md ops Q S fuel (listed.setIfInBounds i true) a' w' → K a' w') → oi.wp P a w K Q)
    (h2 : ∀ K : Act → World → Prop, (∀ a' w', S w' → wpAnyH P md ops Q S fuel (listed.setIfInBounds j true) a' w' → K a' w') → oj.wp P a w K Q) : wpAnyH P md ops Q S (fuel + 1) listed a w := by
  refine wpAnyH_all hr (by simp) (fun k hk => ?_)
  simp only [List.mem_cons, List.not_mem_nil, or_false] at hk
  rcases hk with rfl | rfl
  · unfold wpOp
    simp only [hi]
    rw [if_pos hwi]
    exact .inl (h1 _ (fun _ _ h1 h2 => ⟨h1, h2⟩))
  · unfold wpOp
    simp only [hj]
    rw [if_pos hwj]
    exact .inl (h2 _ (fun _ _ h1 h2 => ⟨h1, h2⟩))
theorem held_end (hr : Region.ready md ops listed = []) (h : Q .normal a w) : wpAnyH P md ops Q S fuel listed a w := wpAnyH_done hr h fuel

theorem exec_part {o : Oper} {ρ : Operand → Value} (ty : TypeId) (x : Operand) (ho : o.op = .load ty x) (g i : Nat) (hx : ρ x = .pointer (some ⟨g, i, none⟩)) (xs : List Value) (d : TypeDesc)
    (hb : ∀ j v, xs[j]? = some v → w.cell? ⟨g, i + j, none⟩ = some v) (hu : P.underlying ty = some d) (hd : (match d with | .struct _ | .array _ _ => true | _ => false) = true) (hi : (P.info? ty).map (·.size) = some xs.length) :
    (execOp ρ o).run P w = .ok (.value (.agg xs.toArray)) w := by
  unfold execOp
  simp only [ho, hx, Instr.loadAt, Instr.sureAddr, Sem.run_bind, Sem.run_pure, Result.andThen_ok, run_loadVar_part w g i ty xs d hb hu hd hi]
theorem exec_row {o : Oper} {ρ : Operand → Value} (ty : TypeId) (x : Operand) (ho : o.op = .load ty x) (g : Nat) (hx : ρ x = .pointer (some ⟨g, 0, none⟩)) (t : TypeId) (cs : Array Value) (fr : Nat × Nat) (d : TypeDesc)
    (hb : w.heap[g]? = some (.cells cs t fr)) (hu : P.underlying ty = some d) (hd : (match d with | .struct _ | .array _ _ => true | _ => false) = true) (hi : (P.info? ty).map (·.size) = some cs.size) :
    (execOp ρ o).run P w = .ok (.value (.agg cs)) w := by
  unfold execOp
  simp only [ho, hx, Instr.loadAt, Instr.sureAddr, Sem.run_bind, Sem.run_pure, Result.andThen_ok, run_loadVar_row w g t ty cs fr d hb hu hd hi]
/-- A call, at an operation. -/
theorem wp_fn {o : Oper} {f : FuncId} {fn : Func} {args : Array Value} {K : Act → World → Prop} {R : Value → World → Prop} (ca : Array Operand) (ct : Array TypeId) (ho : o.op = .call { callee := .value (.func f), args := ca, argTypes := ct }) (ha : (ca.toList.map a.eval).toArray = args)
    (hf : P.funcs[f]? = some fn) (hn : (fn.name == "runtime.NumGoroutine") = false) (hb : fn.body.isNone = false)
    (h : Calls P f args w fun e w'' => ∃ v, e = .returned v ∧ R v w'') (hk : ∀ v w'', R v w'' → K (a.put o.dst v) w'') : o.wp P a w K Q := by
  subst ha
  have hr := run_fn (P := P) hf hn hb
  have he : (execOp a.eval o).run P w = .ok (.enter f (ca.toList.map a.eval).toArray) w := by
    simp [execOp, ho, resolve, invoke, Act.eval, hr, go_sem]
    rw [← Array.toList_map]
  unfold Oper.wp
  rw [he]
  exact h.mono fun e w'' ⟨v, h1, h2⟩ => by subst h1; exact hk v w'' h2
/-- A new slice of aggregates, at an operation. -/
theorem wp_buildAggs {o : Oper} {K : Act → World → Prop} (t e : TypeId) (n : Nat) (parts : Array (Nat × Operand)) (ho : o.op = .buildSlice t n parts)
    (s : Nat) (hs : 0 < s) (vs : List (List Value)) (hu : P.underlying t = some (.slice e)) (hsz : (P.info? e).map (·.size) = some s) (hz : ((P.info? e).bind (·.zero)).isSome = true)
    (hn : vs.length = n) (hpos : 0 < n) (hsmall : n * s ≤ 2 ^ 24) (hl : ∀ v ∈ vs, v.length = s)
    (hparts : (parts.toList.map fun (i, x) => (i, a.eval x)) = ((vs.map fun v => Value.agg v.toArray).zipIdx 0).map fun x => (x.2, x.1))
    (h : K (a.put o.dst (.slice (some ⟨w.heap.size, 0, none⟩) n n)) (w.alloc (.cells (vs.flatten).toArray e))) : o.wp P a w K Q := by
  cases hie : P.info? e with
  | none => simp [hie] at hsz
  | some ie =>
    simp only [hie, Option.map_some, Option.some.injEq, Option.bind_some] at hsz hz
    obtain ⟨z, hzz⟩ := Option.isSome_iff_exists.1 hz
    refine wp_buildSlice t e n parts ho _ ie z hu hie hzz (by rw [hsz]; omega) (by rw [hsz]; have := Nat.mul_pos hpos hs; omega) ?_ h
    rw [Array.toList_map, hparts, hsz]
    have := Great.fill_whole hs (vs.map fun v => Value.agg v.toArray) ((Array.range (n * s)).map (z.cells[· % z.cells.size]!)) (by
      intro v hv
      obtain ⟨x, hx, rfl⟩ := List.mem_map.1 hv
      show x.toArray.size = s
      simp [hl x hx]) (by simp [hn])
    rw [this]
    congr 2
    rw [List.flatMap_map]
    simp [List.flatMap_def, Value.cells]
end
/-- A store of a whole block, at a plain list: what is left of the world is told by the block and by what is kept. -/
theorem wpList_store_whole {P : Program} {ops : Array Oper} {rest : List Oper} {o : Oper} {a : Act} {w : World} {Q : Exit → Act → World → Prop} (hgd : o.guard = none) (ty : TypeId) (x y : Operand) (ho : o.op = .store ty x y)
    (g : Nat) (cells : Array Value) (hx : a.eval x = .pointer (some ⟨g, 0, none⟩)) (hy : a.eval y = .agg cells)
    (t : TypeId) (old : Array Value) (hg : Blk w g t old) (hi : (P.info? ty).map (·.size) = some cells.size)
    (hold : old.size = cells.size) (h1 : cells.all (·.oneCell') = true)
    (h : ∀ w', Blk w' g t cells → Kept (· = g) w w' → wpList P ops Q rest (a.put o.dst undef) w') : wpList P ops Q (o :: rest) a w :=
  wpList_store_row hgd ty x y ho g cells hx hy t old hg hi hold h1 (h _ (setRow_heap _ _ _ _ _ _ hg) (Bytes.Kept.setRow (S := (· = g)) (Kept.refl _ w) rfl _))
theorem wp_store_whole {P : Program} {o : Oper} {a : Act} {w : World} {K : Act → World → Prop} {Q : Exit → Act → World → Prop} (ty : TypeId) (x y : Operand) (ho : o.op = .store ty x y)
    (g : Nat) (cells : Array Value) (hx : a.eval x = .pointer (some ⟨g, 0, none⟩)) (hy : a.eval y = .agg cells)
    (t : TypeId) (old : Array Value) (hg : Blk w g t old) (hi : (P.info? ty).map (·.size) = some cells.size)
    (hold : old.size = cells.size) (h1 : cells.all (·.oneCell') = true)
    (h : ∀ w', Blk w' g t cells → Kept (· = g) w w' → K (a.put o.dst undef) w') : o.wp P a w K Q :=
  wp_store_row ty x y ho g cells hx hy t old hg hi hold h1 (h _ (setRow_heap _ _ _ _ _ _ hg) (Bytes.Kept.setRow (S := (· = g)) (Kept.refl _ w) rfl _))
theorem wp_load_partH {P : Program} {o : Oper} {a : Act} {w : World} {K : Act → World → Prop} {Q : Exit → Act → World → Prop} (ty : TypeId) (x : Operand) (ho : o.op = .load ty x)
    (g i : Nat) (hx : a.eval x = .pointer (some ⟨g, i, none⟩)) (xs : List Value) (d : TypeDesc) (hc : ∀ j v, xs[j]? = some v → w.cell? ⟨g, i + j, none⟩ = some v)
    (hu : P.underlying ty = some d) (hd : (match d with | .struct _ | .array _ _ => true | _ => false) = true) (hi : (P.info? ty).map (·.size) = some xs.length)
    (h : K (a.put o.dst (.agg xs.toArray)) w) : o.wp P a w K Q := by
  unfold Oper.wp
  rw [exec_part ty x ho g i hx xs d hc hu hd hi]
  exact h
/-- What a new block and a store into it leave. -/
theorem below_fresh {w0 w w' : World} {o : Obj} (h : Below w0.heap.size w0 w) (hk : Kept (· = w.heap.size) (w.alloc o) w') : Below w0.heap.size w0 w' :=
  h.trans ⟨hk.os, hk.tape, hk.output, by have := hk.size; simp at this; omega, fun k hlt => by
    have hs := h.size
    exact (hk.block k (by simp; omega) (by omega)).trans (Below.heap_alloc w o k (by omega))⟩
theorem kept_fresh {w w' : World} {o : Obj} (hk : Kept (· = w.heap.size) (w.alloc o) w') : Below w.heap.size w w' := below_fresh (Below.refl _ w) hk
end Go.Proofs.YtgldkfaiofkhbaaDoor.Held

namespace Go.Proofs.YtgldkfaiofkhbaaDoor.Guard
open Go Go.RowKit Go.Proofs.YtgldkfaiofkhbaaDoor Go.Proofs.YtgldkfaiofkhbaaDoor.Mem Go.Proofs.YtgldkfaiofkhbaaDoor.Bytes Go.Proofs.YtgldkfaiofkhbaaDoor.Held

theorem wpList_load_rowG {P : Program} {w : World} {ops : Array Oper} {rest : List Oper} {o : Oper} {a : Act} {Q : Exit → Act → World → Prop} (hgd : Region.wanted o (yielded ops a.tmps) = true) (ty : TypeId) (x : Operand) (ho : o.op = .load ty x)
    (g : Nat) (hx : a.eval x = .pointer (some ⟨g, 0, none⟩)) (t : TypeId) (cs : Array Value) (fr : Nat × Nat) (d : TypeDesc) (hg : w.heap[g]? = some (.cells cs t fr))
    (hu : P.underlying ty = some d) (hd : (match d with | .struct _ | .array _ _ => true | _ => false) = true) (hi : (P.info? ty).map (·.size) = some cs.size)
    (h : wpList P ops Q rest (a.put o.dst (.agg cs)) w) : wpList P ops Q (o :: rest) a w :=
  BigFrame.wpList_want hgd fun _ hK => wp_load_row ty x ho g hx t cs fr d hg hu hd hi (hK _ _ h)
theorem wpList_load_partG {P : Program} {w : World} {ops : Array Oper} {rest : List Oper} {o : Oper} {a : Act} {Q : Exit → Act → World → Prop} (hgd : Region.wanted o (yielded ops a.tmps) = true) (ty : TypeId) (x : Operand) (ho : o.op = .load ty x)
    (g i : Nat) (hx : a.eval x = .pointer (some ⟨g, i, none⟩)) (xs : List Value) (d : TypeDesc) (hc : ∀ j v, xs[j]? = some v → w.cell? ⟨g, i + j, none⟩ = some v)
    (hu : P.underlying ty = some d) (hd : (match d with | .struct _ | .array _ _ => true | _ => false) = true) (hi : (P.info? ty).map (·.size) = some xs.length)
    (h : wpList P ops Q rest (a.put o.dst (.agg xs.toArray)) w) : wpList P ops Q (o :: rest) a w :=
  BigFrame.wpList_want hgd fun _ hK => wp_load_partH ty x ho g i hx xs d hc hu hd hi (hK _ _ h)
end Go.Proofs.YtgldkfaiofkhbaaDoor.Guard

namespace Go.Proofs.YtgldkfaiofkhbaaDoor.RefIncl0
open Go Go.RowKit Go.Proofs.YtgldkfaiofkhbaaDoor Go.Proofs.YtgldkfaiofkhbaaDoor.Mem Go.Proofs.YtgldkfaiofkhbaaDoor.Bytes Go.Proofs.YtgldkfaiofkhbaaDoor.Held

/-- A store of a whole block, the frame left as it was. -/
theorem wpList_store_whole0 {P : Program} {ops : Array Oper} {rest : List Oper} {o : Oper} {a : Act} {w : World} {Q : Exit → Act → World → Prop} (hdst : o.dst = none) (hgd : o.guard = none) (ty : TypeId) (x y : Operand) (ho : o.op = .store ty x y)
    (g : Nat) (cells : Array Value) (hx : a.eval x = .pointer (some ⟨g, 0, none⟩)) (hy : a.eval y = .agg cells)
    (t : TypeId) (old : Array Value) (hg : Blk w g t old) (hi : (P.info? ty).map (·.size) = some cells.size)
    (hold : old.size = cells.size) (h1 : cells.all (·.oneCell') = true)
    (h : ∀ w', Blk w' g t cells → Kept (· = g) w w' → wpList P ops Q rest a w') : wpList P ops Q (o :: rest) a w :=
  wpList_store_whole hgd ty x y ho g cells hx hy t old hg hi hold h1 (fun w' h1 h2 => by
    have := h w' h1 h2
    rw [hdst]
    exact this)
end Go.Proofs.YtgldkfaiofkhbaaDoor.RefIncl0
