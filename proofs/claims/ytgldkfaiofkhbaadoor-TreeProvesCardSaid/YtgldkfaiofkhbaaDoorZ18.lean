/-
  Texts of the claim, put into one file: Told, Ask, AskW, ProveW, Ways, TreeProves.
-/
import Derived.Test.YtgldkfaiofkhbaaDoorZ17
import Derived.Test.YtgldkfaiofkhbaaDoorZ13
import Derived.Test.YtgldkfaiofkhbaaDoorZ15
import Derived.Test.YtgldkfaiofkhbaaDoorZ10
import Derived.Test.YtgldkfaiofkhbaaDoorZ11

namespace Go.Proofs.YtgldkfaiofkhbaaDoor.Told
open Go Go.RowKit Go.Proofs.YtgldkfaiofkhbaaDoor Go.Proofs.YtgldkfaiofkhbaaDoor.Digest Go.Proofs.YtgldkfaiofkhbaaDoor.Mem Go.Proofs.YtgldkfaiofkhbaaDoor.Sha Go.Proofs.YtgldkfaiofkhbaaDoor.ShaWalk Go.Proofs.YtgldkfaiofkhbaaDoor.Bytes Go.Proofs.YtgldkfaiofkhbaaDoor.HashMem Go.Proofs.YtgldkfaiofkhbaaDoor.DigestMem Go.Proofs.YtgldkfaiofkhbaaDoor.DigestTop Go.Proofs.YtgldkfaiofkhbaaDoor.RefTop Go.Proofs.YtgldkfaiofkhbaaDoor.QuietTail Go.Proofs.YtgldkfaiofkhbaaDoor.Grown Go.Proofs.YtgldkfaiofkhbaaDoor.Chain Go.Proofs.YtgldkfaiofkhbaaDoor.TreeMath Go.Proofs.YtgldkfaiofkhbaaDoor.TreeMem Go.Proofs.YtgldkfaiofkhbaaDoor.TreeRoot Go.Proofs.YtgldkfaiofkhbaaDoor.Append Go.Proofs.YtgldkfaiofkhbaaDoor.Book Go.Proofs.YtgldkfaiofkhbaaDoor.Held Go.Proofs.YtgldkfaiofkhbaaDoor.RefOf Go.Proofs.YtgldkfaiofkhbaaDoor.Want Go.Proofs.YtgldkfaiofkhbaaDoor.WayP Go.Proofs.YtgldkfaiofkhbaaDoor.AskP Go.Proofs.YtgldkfaiofkhbaaDoor.Octet Go.Proofs.YtgldkfaiofkhbaaDoor.Octet2 Go.Proofs.YtgldkfaiofkhbaaDoor.Own Go.Proofs.YtgldkfaiofkhbaaDoor.Ref17 Go.Proofs.YtgldkfaiofkhbaaDoor.Eight

/-- What the log has at a spot. -/
def toldD (seed : Text) (p : Nat × Nat) : Text := cutTo (sum (kb 99 :: [seed, be8 p.1, be8 p.2].flatten)) (clampN 32)
theorem toldD_len (seed : Text) (p : Nat × Nat) : (toldD seed p).length = 32 := cutTo_len _ _ (sum_len _) (clampN_ok 32).2
theorem run_fnvC {P : Program} {ρ : Operand → Value} {o : Oper} {f : FuncId} {fn : Func} {x : Operand} {first cap args : Array Value} (ca : Array Operand) (ct : Array TypeId) (ho : o.op = .call { callee := .value x, args := ca, argTypes := ct }) (hx : ρ x = .func (.func f) first cap) (ha : first ++ (ca.toList.map ρ).toArray ++ cap = args)
    (hf : P.funcs[f]? = some fn) (hn : (fn.name == "runtime.NumGoroutine") = false) (hb : fn.body.isNone = false) (w : World) : (execOp ρ o).run P w = .ok (.enter f args) w := by
  subst ha
  have hr := run_fn (P := P) hf hn hb
  simp [execOp, ho, hx, resolve, invoke, hr, go_sem]
  rw [← Array.toList_map]
/-- A call of a function value that bears what it captured, at an operation. -/
theorem wp_fnC {P : Program} {w : World} {a : Act} {Q : Exit → Act → World → Prop} {o : Oper} {f : FuncId} {fn : Func} {x : Operand} {first cap args : Array Value} {K : Act → World → Prop} {R : Value → World → Prop} (ca : Array Operand) (ct : Array TypeId) (ho : o.op = .call { callee := .value x, args := ca, argTypes := ct }) (hx : a.eval x = .func (.func f) first cap) (ha : (ca.toList.map a.eval).toArray = args)
    (hf : P.funcs[f]? = some fn) (hn : (fn.name == "runtime.NumGoroutine") = false) (hb : fn.body.isNone = false)
    (h : Calls P f (first ++ args ++ cap) w fun e w'' => ∃ v, e = .returned v ∧ R v w'') (hk : ∀ v w'', R v w'' → K (a.put o.dst v) w'') : o.wp P a w K Q := by
  subst ha
  have he := run_fnvC (ρ := a.eval) ca ct ho hx rfl hf hn hb w
  unfold Oper.wp
  rw [he]
  exact h.mono fun e w'' ⟨v, h1, h2⟩ => by subst h1; exact hk v w'' h2
theorem three_pieces {W : World} {g1 g2 g3 gp : Nat} {seed x y : Text} (hP : Blk W gp 31 #[.slice (some ⟨g1, 0, none⟩) 32 32, .slice (some ⟨g2, 0, none⟩) 8 8, .slice (some ⟨g3, 0, none⟩) 8 8]) (h1 : Reads W 1 (some ⟨g1, 0, none⟩) 32 (cells8 seed)) (h2 : Reads W 1 (some ⟨g2, 0, none⟩) 8 (cells8 x)) (h3 : Reads W 1 (some ⟨g3, 0, none⟩) 8 (cells8 y)) (l1 : seed.length = 32) (l2 : x.length = 8) (l3 : y.length = 8) : Pieces W (some ⟨gp, 0, none⟩) [seed, x, y] := fun _ => by
  refine ⟨gp, 0, rfl, hP.lt, fun i z hz => ?_⟩
  match i with
  | 0 =>
    obtain rfl := Option.some.inj hz
    exact ⟨some ⟨g1, 0, none⟩, 32, by rw [hP.cell, l1]; rfl, by omega, by rw [l1]; exact h1, fun h => by cases h⟩
  | 1 =>
    obtain rfl := Option.some.inj hz
    exact ⟨some ⟨g2, 0, none⟩, 8, by rw [hP.cell, l2]; rfl, by omega, by rw [l2]; exact h2, fun h => by cases h⟩
  | 2 =>
    obtain rfl := Option.some.inj hz
    exact ⟨some ⟨g3, 0, none⟩, 8, by rw [hP.cell, l3]; rfl, by omega, by rw [l3]; exact h3, fun h => by cases h⟩
  | i + 3 => simp at hz

/-- A function value that tells of the spots of a size. -/
def AtF (dg : Nat × Nat → Text) (size : Nat) (w : World) (v : Value) : Prop :=
  ∃ (F : FuncId) (fn : Func) (first cap : Array Value), v = .func (.func F) first cap ∧ Tryd.prog.funcs[F]? = some fn ∧ (fn.name == "runtime.NumGoroutine") = false ∧ fn.body.isNone = false ∧
    ∀ w', Below w.heap.size w w' → ∀ p : Nat × Nat, p.1 ≤ 40 → (p.2 + 1) * 2 ^ p.1 ≤ size → Calls Tryd.prog F (first ++ #[.agg (pcells p).toArray] ++ cap) w' fun e w'' => e = .returned (.agg (cells8 (dg p)).toArray) ∧ Below w'.heap.size w' w''
theorem AtF.below {dg : Nat × Nat → Text} {size : Nat} {w w' : World} {v : Value} (h : AtF dg size w v) (hb : Below w.heap.size w w') : AtF dg size w' v := by
  obtain ⟨F, fn, first, cap, h1, h2, h3, h4, h5⟩ := h
  exact ⟨F, fn, first, cap, h1, h2, h3, h4, fun w2 hb2 => h5 w2 (hb.trans (hb2.mono hb.size))⟩

set_option maxRecDepth 100000 in
set_option maxHeartbeats 1000000 in
theorem told1_any (seed : Text) (hsd : seed.length = 32) (L I : Nat) (hL : L ≤ 40) (hI : I ≤ 1099511627776) (g : Nat) (w : World) (hg : Blk w g 23 (cells8 seed).toArray) :
    Calls Tryd.prog 88 #[.agg #[.int .i64 (L : Int), .int .i64 (I : Int)], .pointer (some ⟨g, 0, none⟩)] w fun e w' => e = .returned (.agg (cells8 (toldD seed (L, I))).toArray) ∧ Below w.heap.size w w' := by
  obtain ⟨x, hx⟩ : ∃ x, Hid (toldD seed (L, I) = x) := ⟨_, Lib.hid rfl⟩
  have hxl : x.length = 32 := by rw [← hx.out]; exact toldD_len _ _
  rw [hx.out]
  have F := Lib.hid (fit (x := x) hxl)
  have hE : Hid (∀ N : Nat, N ≤ 1099511627776 → ∀ w' g, w'.heap.size = g → Calls Tryd.prog 90 #[.int .i64 (N : Int)] w' fun e w'' => e = .returned (.slice (some ⟨g, 0, none⟩) 8 8) ∧ Below w'.heap.size w' w'' ∧ w''.ownsRow g 5 1 (.slice (some ⟨g, 0, none⟩) 8 8) 8 (cells8 (be8 N))) := fun N hN w' g hg => by
    subst hg
    exact eight_wrap (N : Int) N (by omega) (by simp [IntKind.wrap, IntKind.signed, IntKind.bits]; omega) w'
  have hO : Hid (∀ W A, Pieces W A [seed, be8 L, be8 I] → Calls Tryd.prog 89 #[.int .i64 32, .int .i64 99, .slice A 3 3] W fun e w' => e = .returned (.agg (cells8 x).toArray) ∧ Below W.heap.size W w') := fun W A hp => by
    rw [← hx.out]
    exact refOf_any [seed, be8 L, be8 I] 3 rfl A 3 32 99 (by omega) W (by simp [hsd, be8]) (by omega) hp
  have hLN : Hid (L ≤ 1099511627776) := by show _ ≤ _; omega
  replace hI := Lib.hid hI
  have hgl : Hid (g < w.heap.size) := hg.lt
  have hC : Hid (∀ w', Below (w.heap.size + 1) ((w.alloc (.cells #[.int .i64 (L : Int), .int .i64 (I : Int)] 129)).alloc (.cells Z32 23)) w' → w'.cell? ⟨w.heap.size, 0, none⟩ = some (.int .i64 (L : Int)) ∧ w'.cell? ⟨w.heap.size, 1, none⟩ = some (.int .i64 (I : Int))) := fun w' hb => by
    have hB : Blk ((w.alloc (.cells #[.int .i64 (L : Int), .int .i64 (I : Int)] 129)).alloc (.cells Z32 23)) w.heap.size 129 #[.int .i64 (L : Int), .int .i64 (I : Int)] := (Blk.new w _ _).alloc _
    exact ⟨(hb.cell (p := ⟨w.heap.size, 0, none⟩) (by simp only; omega)).trans (hB.cell 0), (hb.cell (p := ⟨w.heap.size, 1, none⟩) (by simp only; omega)).trans (hB.cell 1)⟩
  have hb0 : Hid (Below w.heap.size w ((w.alloc (.cells #[.int .i64 (L : Int), .int .i64 (I : Int)] 129)).alloc (.cells Z32 23))) := ((Below.refl _ w).alloc (Nat.le_refl _) _).alloc (by simp) _
  have hz0 : Hid (((w.alloc (.cells #[.int .i64 (L : Int), .int .i64 (I : Int)] 129)).alloc (.cells Z32 23)).heap.size = w.heap.size + 2) := by show _ = _; simp
  have s0 : Hid (Below (w.heap.size + 2) ((w.alloc (.cells #[.int .i64 (L : Int), .int .i64 (I : Int)] 129)).alloc (.cells Z32 23)) ((w.alloc (.cells #[.int .i64 (L : Int), .int .i64 (I : Int)] 129)).alloc (.cells Z32 23)).drew) := (Below.refl _ _).drew
  have hRb : Hid (Blk ((w.alloc (.cells #[.int .i64 (L : Int), .int .i64 (I : Int)] 129)).alloc (.cells Z32 23)) (w.heap.size + 1) 23 Z32) := by
    have := Blk.new (w.alloc (.cells #[.int .i64 (L : Int), .int .i64 (I : Int)] 129)) 23 Z32
    rwa [show (w.alloc (.cells #[.int .i64 (L : Int), .int .i64 (I : Int)] 129)).heap.size = w.heap.size + 1 by simp] at this
  have hgB : Hid (Blk ((w.alloc (.cells #[.int .i64 (L : Int), .int .i64 (I : Int)] 129)).alloc (.cells Z32 23)) g 23 (cells8 seed).toArray) := (hg.alloc _).alloc _
  replace hsd := Lib.hid hsd
  clear hL hxl hg
  go_enter Tryd.func88, Tryd.ntmps88
  go_wp2_with fail
  refine held_start (fun w' => Below (w.heap.size + 1) ((w.alloc (.cells #[.int .i64 (L : Int), .int .i64 (I : Int)] 129)).alloc (.cells Z32 23)) w') 10 rfl (by kernel_rfl) ?_
  refine held_take (i := 0) (v := .slice (some ⟨g, 0, none⟩) 32 32) rfl (by kernel_rfl) (by kernel_rfl) (by kernel_rfl) (fun _ _ _ h => h) (s0.out.mono (by omega)) (by rfl) (fun w' hw' => by go_simp) ?_
  (intro K hK; go_simp; refine hK _ ?_; clear hK K)
  refine held_take (i := 1) (v := .pointer (some ⟨w.heap.size, 0, none⟩)) rfl (by kernel_rfl) (by kernel_rfl) (by kernel_rfl) (fun _ _ _ h => h) (s0.out.mono (by omega)) (by rfl) (fun w' hw' => by go_simp) ?_
  (intro K hK; go_simp; refine hK _ ?_; clear hK K)
  refine held_take (i := 2) (v := .int .i64 (L : Int)) rfl (by kernel_rfl) (by kernel_rfl) (by kernel_rfl) (fun _ _ _ h => h) (s0.out.mono (by omega)) (by rfl) (fun w' hw' => by have h := (hC.out w' hw').1; go_simp) ?_
  (intro K hK; go_simp; refine hK _ ?_; clear hK K)
  refine held_take (i := 4) (v := .pointer (some ⟨w.heap.size, 1, none⟩)) rfl (by kernel_rfl) (by kernel_rfl) (by kernel_rfl) (fun _ _ _ h => h) (s0.out.mono (by omega)) (by rfl) (fun w' hw' => by go_simp) ?_
  (intro K hK; go_simp; refine hK _ ?_; clear hK K)
  refine held_take (i := 5) (v := .int .i64 (I : Int)) rfl (by kernel_rfl) (by kernel_rfl) (by kernel_rfl) (fun _ _ _ h => h) (s0.out.mono (by omega)) (by rfl) (fun w' hw' => by have h := (hC.out w' hw').2; go_simp) ?_
  (intro K hK; go_simp; refine hK _ ?_; clear hK K)
  refine held_only (i := 3) rfl (by kernel_rfl) (by rfl) (fun K hK => ?_)
  refine wp_fn (R := fun v w'' => v = .slice (some ⟨w.heap.size + 2, 0, none⟩) 8 8 ∧ Below (w.heap.size + 2) ((w.alloc (.cells #[.int .i64 (L : Int), .int .i64 (I : Int)] 129)).alloc (.cells Z32 23)) w'' ∧ w''.ownsRow (w.heap.size + 2) 5 1 (.slice (some ⟨w.heap.size + 2, 0, none⟩) 8 8) 8 (cells8 (be8 L))) (args := #[.int .i64 (L : Int)]) _ _ rfl rfl Tryd.func90 (by kernel_rfl) (by kernel_rfl) ((hE.out L hLN.out ((w.alloc (.cells #[.int .i64 (L : Int), .int .i64 (I : Int)] 129)).alloc (.cells Z32 23)).drew (w.heap.size + 2) hz0.out).mono fun e w'' ⟨he, hb, ho⟩ => ⟨_, he, rfl, s0.out.trans (hb.mono (by rw [show ((w.alloc (.cells #[.int .i64 (L : Int), .int .i64 (I : Int)] 129)).alloc (.cells Z32 23)).drew.heap.size = w.heap.size + 2 from hz0.out]; exact Nat.le_refl _)), ho⟩) ?_
  rintro q1 w1 ⟨rfl, s1, o1⟩
  obtain ⟨_, _, e1, -, -, r1, -⟩ := own_reads o1
  injection e1 with e11 e12 e13
  subst e11 e13
  replace s1 := Lib.hid s1
  replace r1 := Lib.hid r1
  have l1 : Hid (w.heap.size + 3 ≤ w1.heap.size) := (o1.lt _ rfl).2
  clear o1
  go_simp
  refine hK _ _ (s1.out.mono (by omega)) ?_
  clear hK K
  refine held_only (i := 6) rfl (by kernel_rfl) (by rfl) (fun K hK => ?_)
  refine wp_fn (R := fun v w'' => v = .slice (some ⟨w1.heap.size, 0, none⟩) 8 8 ∧ Below w1.heap.size w1 w'' ∧ w''.ownsRow w1.heap.size 5 1 (.slice (some ⟨w1.heap.size, 0, none⟩) 8 8) 8 (cells8 (be8 I))) (args := #[.int .i64 (I : Int)]) _ _ rfl rfl Tryd.func90 (by kernel_rfl) (by kernel_rfl) ((hE.out I hI.out w1 w1.heap.size rfl).mono fun e w'' ⟨he, hb, ho⟩ => ⟨_, he, rfl, hb, ho⟩) ?_
  rintro q2 w2 ⟨rfl, b2, o2⟩
  obtain ⟨_, _, e2, -, -, r2, -⟩ := own_reads o2
  injection e2 with e21 e22 e23
  subst e21 e23
  replace r2 := Lib.hid r2
  have s2 : Hid (Below (w.heap.size + 2) ((w.alloc (.cells #[.int .i64 (L : Int), .int .i64 (I : Int)] 129)).alloc (.cells Z32 23)) w2) := s1.out.trans (b2.mono (by have := l1.out; omega))
  have r1' := Lib.hid (r1.out.below b2)
  have l2 : Hid (w.heap.size + 3 ≤ w2.heap.size) := by have := b2.size; have := l1.out; show _ ≤ _; omega
  clear o2 b2 r1
  go_simp
  refine hK _ _ (s2.out.mono (by omega)) ?_
  clear hK K
  have hP : Hid (Pieces (w2.alloc (.cells #[.slice (some ⟨g, 0, none⟩) 32 32, .slice (some ⟨w.heap.size + 2, 0, none⟩) 8 8, .slice (some ⟨w1.heap.size, 0, none⟩) 8 8] 31)) (some ⟨w2.heap.size, 0, none⟩) [seed, be8 L, be8 I]) := by
    have hg2 := (s2.out.block g (by have := hgl.out; omega)).trans hgB.out
    exact three_pieces (Blk.new w2 _ _) (Reads.alloc (by have := rowReads hg2; rwa [hsd.out] at this) _) (r1'.out.alloc _) (r2.out.alloc _) hsd.out rfl rfl
  have s2' : Hid (Below (w.heap.size + 2) ((w.alloc (.cells #[.int .i64 (L : Int), .int .i64 (I : Int)] 129)).alloc (.cells Z32 23)) (w2.alloc (.cells #[.slice (some ⟨g, 0, none⟩) 32 32, .slice (some ⟨w.heap.size + 2, 0, none⟩) 8 8, .slice (some ⟨w1.heap.size, 0, none⟩) 8 8] 31))) := s2.out.alloc (by have := l2.out; omega) _
  refine held_only (i := 7) rfl (by kernel_rfl) (by rfl) (fun K hK => ?_)
  go_simp
  refine hK _ _ (s2'.out.mono (by omega)) ?_
  clear hK K
  refine held_only (i := 8) rfl (by kernel_rfl) (by rfl) (fun K hK => ?_)
  refine wp_fn (R := fun v w'' => v = .agg (cells8 x).toArray ∧ Below (w.heap.size + 2) ((w.alloc (.cells #[.int .i64 (L : Int), .int .i64 (I : Int)] 129)).alloc (.cells Z32 23)) w'') (args := #[.int .i64 32, .int .i64 99, .slice (some ⟨w2.heap.size, 0, none⟩) 3 3]) _ _ rfl rfl Tryd.func89 (by kernel_rfl) (by kernel_rfl) ((hO.out _ _ hP.out).mono fun e w'' ⟨he, hb⟩ => ⟨_, he, rfl, s2'.out.trans (hb.mono (by have := l2.out; simp; omega))⟩) ?_
  rintro q3 w3 ⟨rfl, s3⟩
  replace s3 := Lib.hid s3
  have hR3 : Hid (Blk w3 (w.heap.size + 1) 23 Z32) := (s3.out.block _ (by omega)).trans hRb.out
  clear hP s2'
  go_simp
  refine hK _ _ (s3.out.mono (by omega)) ?_
  clear hK K
  refine held_only (i := 9) rfl (by kernel_rfl) (by rfl) (fun K hK => ?_)
  refine wp_store_whole 23 (.tmp 3) (.tmp 12) rfl (w.heap.size + 1) (cells8 x).toArray rfl rfl 23 Z32 hR3.out F.out.size F.out.zero F.out.one ?_
  intro w9 B9 k9
  have s9 : Hid (Below (w.heap.size + 1) ((w.alloc (.cells #[.int .i64 (L : Int), .int .i64 (I : Int)] 129)).alloc (.cells Z32 23)) w9) := (s3.out.mono (by omega)).trans (Kept.below_of k9 (by omega) (by have := s3.out.size; have := hz0.out; omega))
  go_simp
  refine hK _ _ s9.out ?_
  clear hK K
  refine held_end (by kernel_rfl) ?_
  have w0b : Hid (Below w.heap.size w w9) := hb0.out.trans (s9.out.mono (by omega))
  go_wp2_with fail
  refine bodyPost_ret (results_cell_row rfl _ _ (w.heap.size + 1) 23 (cells8 x).toArray (0, 0) _ rfl B9 Tryd.underlying23 rfl F.out.size) rfl ?_
  exact ⟨rfl, w0b.out⟩

theorem told_any (seed : Text) (w : World) :
    Calls Tryd.prog 40 #[.agg (cells8 seed).toArray] w fun e w' => e = .returned (.func (.func 88) #[] #[.pointer (some ⟨w.heap.size, 0, none⟩)]) ∧ w' = w.alloc (.cells (cells8 seed).toArray 23) := by
  have hmf : ∀ (fn : Fn) (first cap : Array Value) (w : World), (Instr.makeFunc fn first cap).run Tryd.prog w = .ok (.func fn first cap) w := fun _ _ _ _ => rfl
  go_enter Tryd.func40, Tryd.ntmps40
  go_wp2_with fail
  go_ret
  exact ⟨rfl, rfl⟩
theorem told_at (seed : Text) (hsd : seed.length = 32) (g : Nat) (w : World) (hg : Blk w g 23 (cells8 seed).toArray) (size : Nat) (hs : size ≤ 1099511627776) :
    AtF (toldD seed) size w (.func (.func 88) #[] #[.pointer (some ⟨g, 0, none⟩)]) :=
  ⟨_, _, _, _, rfl, Tryd.func88, by kernel_rfl, by kernel_rfl, fun w' hb p h1 h2 => told1_any seed hsd p.1 p.2 h1 (by
    have := Nat.two_pow_pos p.1
    have h3 := Nat.le_mul_of_pos_right (p.2 + 1) this
    omega) g w' ((hb.block g hg.lt).trans hg)⟩
end Go.Proofs.YtgldkfaiofkhbaaDoor.Told

namespace Go.Proofs.YtgldkfaiofkhbaaDoor.Ask
open Go Go.RowKit Go.Proofs.YtgldkfaiofkhbaaDoor Go.Proofs.YtgldkfaiofkhbaaDoor.Digest Go.Proofs.YtgldkfaiofkhbaaDoor.Mem Go.Proofs.YtgldkfaiofkhbaaDoor.Sha Go.Proofs.YtgldkfaiofkhbaaDoor.ShaWalk Go.Proofs.YtgldkfaiofkhbaaDoor.Bytes Go.Proofs.YtgldkfaiofkhbaaDoor.HashMem Go.Proofs.YtgldkfaiofkhbaaDoor.DigestMem Go.Proofs.YtgldkfaiofkhbaaDoor.DigestTop Go.Proofs.YtgldkfaiofkhbaaDoor.RefTop Go.Proofs.YtgldkfaiofkhbaaDoor.QuietTail Go.Proofs.YtgldkfaiofkhbaaDoor.Grown Go.Proofs.YtgldkfaiofkhbaaDoor.Chain Go.Proofs.YtgldkfaiofkhbaaDoor.TreeMath Go.Proofs.YtgldkfaiofkhbaaDoor.TreeMem Go.Proofs.YtgldkfaiofkhbaaDoor.TreeRoot Go.Proofs.YtgldkfaiofkhbaaDoor.Append Go.Proofs.YtgldkfaiofkhbaaDoor.Book Go.Proofs.YtgldkfaiofkhbaaDoor.Held Go.Proofs.YtgldkfaiofkhbaaDoor.RefOf Go.Proofs.YtgldkfaiofkhbaaDoor.Want Go.Proofs.YtgldkfaiofkhbaaDoor.WayP Go.Proofs.YtgldkfaiofkhbaaDoor.AskP Go.Proofs.YtgldkfaiofkhbaaDoor.Octet Go.Proofs.YtgldkfaiofkhbaaDoor.Octet2 Go.Proofs.YtgldkfaiofkhbaaDoor.Own Go.Proofs.YtgldkfaiofkhbaaDoor.Ref17 Go.Proofs.YtgldkfaiofkhbaaDoor.Eight Go.Proofs.YtgldkfaiofkhbaaDoor.Told

theorem run_ask_z {I L N : Nat} (h : (I + 1) * 2 ^ L = N) (hN : N ≤ 1099511627776) : wrap64 (((I : Int) + 1) * 2 ^ L) = (N : Int) := by
  have h1 : (((I : Int) + 1) * 2 ^ L) = (N : Int) := by rw [← h]; simp
  rw [h1]
  exact IntWalk.wrap64_in _ (by omega)
theorem run_ask_z2 {I L N : Nat} (h : (I + 1) * 2 ^ L = N) (hN : N ≤ 1099511627776) : IntKind.i64.wrap (((I : Int) + 1) * 2 ^ L) = (N : Int) := by
  have h1 : (((I : Int) + 1) * 2 ^ L) = (N : Int) := by rw [← h]; simp
  rw [h1]
  exact IntWalk.i64_in _ (by omega)
theorem spot_at {w : World} {g : Nat} {L I : Int} (h : w.cell? ⟨g, 0, none⟩ = some (.int .i64 L) ∧ w.cell? ⟨g, 1, none⟩ = some (.int .i64 I)) (j : Nat) (u : Value) (hu : [Value.int .i64 L, .int .i64 I][j]? = some u) : w.cell? ⟨g, 0 + j, none⟩ = some u := by
  match j with
  | 0 => rw [← hu]; exact h.1
  | 1 => rw [← hu]; exact h.2
  | j + 2 => simp at hu
set_option maxRecDepth 100000 in
set_option maxHeartbeats 4000000 in
theorem ask_any (dg : Nat × Nat → Text) (hdg : ∀ p, (dg p).length = 32) (size : Nat) (hs : size ≤ 1099511627776) (v : Value) (gw : Nat) (w : World) (hgw : Blk w gw 93 #[v, .int .i64 (size : Int), .bool false]) (hv : AtF dg size w v)
    (L I : Nat) (hL : L ≤ 40) (hin : (I + 1) * 2 ^ L ≤ size) :
    Calls Tryd.prog 41 #[.pointer (some ⟨gw, 0, none⟩), .agg #[.int .i64 (L : Int), .int .i64 (I : Int)]] w fun e w' => e = .returned (.agg (cells8 (dg (L, I))).toArray) ∧ Below w.heap.size w w' := by
  obtain ⟨x, hx⟩ : ∃ x, Hid (dg (L, I) = x) := ⟨_, Lib.hid rfl⟩
  have hxl : x.length = 32 := by rw [← hx.out]; exact hdg _
  have F := Lib.hid (fit (x := x) hxl)
  obtain ⟨N, hN⟩ : ∃ N, Hid ((I + 1) * 2 ^ L = N) := ⟨_, Lib.hid rfl⟩
  have hNs : N ≤ size := by rw [← hN.out]; exact hin
  have z1 := run_ask_z hN.out (by omega)
  have hI : I + 1 ≤ N := by rw [← hN.out]; exact Nat.le_mul_of_pos_right _ (Nat.two_pow_pos L)
  have y1 : decide ((L : Int) < 0) = false := decide_eq_false (by omega)
  have y2 : decide ((40 : Int) < (L : Int)) = false := decide_eq_false (by omega)
  have y3 : decide ((I : Int) < 0) = false := decide_eq_false (by omega)
  have y4 : decide ((1099511627776 : Int) < (I : Int)) = false := decide_eq_false (by omega)
  have y5 : decide ((size : Int) < (N : Int)) = false := decide_eq_false (by omega)
  have u1 : (0 : Int) ≤ (L : Int) := by omega
  have u2 : (L : Int) ≤ 40 := by omega
  have u3 : (0 : Int) ≤ (I : Int) := by omega
  have u4 : (I : Int) < 1099511627776 := by omega
  have z0 : IntKind.i64.wrap ((I : Int) + 1) = (I : Int) + 1 := IntWalk.i64_in _ (by omega)
  have z2 := run_ask_z2 hN.out (by omega)
  have hNq : Hid (N ≤ size) := hNs
  have hcall := Lib.hid hv
  have hfin := Lib.hid hin
  have hL0 := Lib.hid hL
  have hC : Hid (∀ w', Below (w.heap.size + 1) ((w.alloc (.cells #[.int .i64 (L : Int), .int .i64 (I : Int)] 129)).alloc (.cells Z32 23)) w' → (w'.cell? ⟨w.heap.size, 0, none⟩ = some (.int .i64 (L : Int)) ∧ w'.cell? ⟨w.heap.size, 1, none⟩ = some (.int .i64 (I : Int))) ∧ (w'.cell? ⟨gw, 0, none⟩ = some v ∧ w'.cell? ⟨gw, 1, none⟩ = some (.int .i64 (size : Int)))) := fun w' hb => by
    have hB : Blk ((w.alloc (.cells #[.int .i64 (L : Int), .int .i64 (I : Int)] 129)).alloc (.cells Z32 23)) w.heap.size 129 #[.int .i64 (L : Int), .int .i64 (I : Int)] := (Blk.new w _ _).alloc _
    have hW : Blk ((w.alloc (.cells #[.int .i64 (L : Int), .int .i64 (I : Int)] 129)).alloc (.cells Z32 23)) gw 93 #[v, .int .i64 (size : Int), .bool false] := (hgw.alloc _).alloc _
    have hlt := hgw.lt
    exact ⟨⟨(hb.cell (p := ⟨w.heap.size, 0, none⟩) (by simp only; omega)).trans (hB.cell 0), (hb.cell (p := ⟨w.heap.size, 1, none⟩) (by simp only; omega)).trans (hB.cell 1)⟩, (hb.cell (p := ⟨gw, 0, none⟩) (by simp only; omega)).trans (hW.cell 0), (hb.cell (p := ⟨gw, 1, none⟩) (by simp only; omega)).trans (hW.cell 1)⟩
  have hb0 : Hid (Below w.heap.size w ((w.alloc (.cells #[.int .i64 (L : Int), .int .i64 (I : Int)] 129)).alloc (.cells Z32 23))) := ((Below.refl _ w).alloc (Nat.le_refl _) _).alloc (by simp) _
  have hz0 : Hid (((w.alloc (.cells #[.int .i64 (L : Int), .int .i64 (I : Int)] 129)).alloc (.cells Z32 23)).heap.size = w.heap.size + 2) := by show _ = _; simp
  have s0 : Hid (Below (w.heap.size + 2) ((w.alloc (.cells #[.int .i64 (L : Int), .int .i64 (I : Int)] 129)).alloc (.cells Z32 23)) ((w.alloc (.cells #[.int .i64 (L : Int), .int .i64 (I : Int)] 129)).alloc (.cells Z32 23)).drew) := (Below.refl _ _).drew
  have hRb : Hid (Blk ((w.alloc (.cells #[.int .i64 (L : Int), .int .i64 (I : Int)] 129)).alloc (.cells Z32 23)) (w.heap.size + 1) 23 Z32) := by
    have := Blk.new (w.alloc (.cells #[.int .i64 (L : Int), .int .i64 (I : Int)] 129)) 23 Z32
    rwa [show (w.alloc (.cells #[.int .i64 (L : Int), .int .i64 (I : Int)] 129)).heap.size = w.heap.size + 1 by simp] at this
  clear hxl hin hv hgw hs hL hNs hI hdg
  rw [hx.out]
  go_enter Tryd.func41, Tryd.ntmps41
  go_wp2_with fail
  refine q_region (fun w' => Below (w.heap.size + 2) ((w.alloc (.cells #[.int .i64 (L : Int), .int .i64 (I : Int)] 129)).alloc (.cells Z32 23)) w') (by kernel_rfl) (by kernel_rfl) s0.out ?_
  refine q_val (v := .pointer (some ⟨w.heap.size, 0, none⟩)) rfl (fun w' hw' => by go_simp) ?_
  (intro K hK; go_simp; refine hK _ ?_; clear hK K)
  refine q_val (v := .int .i64 (L : Int)) rfl (fun w' hw' => by have h := hC.out w' (hw'.mono (by omega)); obtain ⟨⟨h1, h2⟩, h3, h4⟩ := h; go_simp) ?_
  (intro K hK; go_simp; refine hK _ ?_; clear hK K)
  refine q_val (v := .bool false) rfl (fun w' hw' => by go_simp) ?_
  (intro K hK; go_simp; refine hK _ ?_; clear hK K)
  refine q_val (v := .bool false) rfl (fun w' hw' => by go_simp) ?_
  (intro K hK; go_simp; refine hK _ ?_; clear hK K)
  refine q_val (v := .pointer (some ⟨w.heap.size, 0, none⟩)) rfl (fun w' hw' => by go_simp) ?_
  (intro K hK; go_simp; refine hK _ ?_; clear hK K)
  refine q_val (v := .int .i64 (L : Int)) rfl (fun w' hw' => by have h := hC.out w' (hw'.mono (by omega)); obtain ⟨⟨h1, h2⟩, h3, h4⟩ := h; go_simp) ?_
  (intro K hK; go_simp; refine hK _ ?_; clear hK K)
  refine q_val (v := .bool false) rfl (fun w' hw' => by go_simp) ?_
  (intro K hK; go_simp; refine hK _ ?_; clear hK K)
  refine q_val (v := .bool false) rfl (fun w' hw' => by go_simp) ?_
  (intro K hK; go_simp; refine hK _ ?_; clear hK K)
  refine q_val (v := .bool false) rfl (fun w' hw' => by go_simp) ?_
  (intro K hK; go_simp; refine hK _ ?_; clear hK K)
  refine q_val (v := .pointer (some ⟨w.heap.size, 1, none⟩)) rfl (fun w' hw' => by go_simp) ?_
  (intro K hK; go_simp; refine hK _ ?_; clear hK K)
  refine q_val (v := .int .i64 (I : Int)) rfl (fun w' hw' => by have h := hC.out w' (hw'.mono (by omega)); obtain ⟨⟨h1, h2⟩, h3, h4⟩ := h; go_simp) ?_
  (intro K hK; go_simp; refine hK _ ?_; clear hK K)
  refine q_val (v := .bool false) rfl (fun w' hw' => by go_simp) ?_
  (intro K hK; go_simp; refine hK _ ?_; clear hK K)
  refine q_val (v := .bool false) rfl (fun w' hw' => by go_simp) ?_
  (intro K hK; go_simp; refine hK _ ?_; clear hK K)
  refine q_val (v := .bool false) rfl (fun w' hw' => by go_simp) ?_
  (intro K hK; go_simp; refine hK _ ?_; clear hK K)
  refine q_val (v := .pointer (some ⟨w.heap.size, 1, none⟩)) rfl (fun w' hw' => by go_simp) ?_
  (intro K hK; go_simp; refine hK _ ?_; clear hK K)
  refine q_val (v := .int .i64 (I : Int)) rfl (fun w' hw' => by have h := hC.out w' (hw'.mono (by omega)); obtain ⟨⟨h1, h2⟩, h3, h4⟩ := h; go_simp) ?_
  (intro K hK; go_simp; refine hK _ ?_; clear hK K)
  refine q_val (v := .bool false) rfl (fun w' hw' => by go_simp) ?_
  (intro K hK; go_simp; refine hK _ ?_; clear hK K)
  refine q_val (v := .bool false) rfl (fun w' hw' => by go_simp) ?_
  (intro K hK; go_simp; refine hK _ ?_; clear hK K)
  refine q_val (v := .bool false) rfl (fun w' hw' => by go_simp) ?_
  (intro K hK; go_simp; refine hK _ ?_; clear hK K)
  refine q_val (v := .pointer (some ⟨w.heap.size, 1, none⟩)) rfl (fun w' hw' => by go_simp) ?_
  (intro K hK; go_simp; refine hK _ ?_; clear hK K)
  refine q_val (v := .int .i64 (I : Int)) rfl (fun w' hw' => by have h := hC.out w' (hw'.mono (by omega)); obtain ⟨⟨h1, h2⟩, h3, h4⟩ := h; go_simp) ?_
  (intro K hK; go_simp; refine hK _ ?_; clear hK K)
  refine q_val (v := .int .i64 ((I : Int) + 1)) rfl (fun w' hw' => by go_simp) ?_
  (intro K hK; go_simp; refine hK _ ?_; clear hK K)
  refine q_val (v := .pointer (some ⟨w.heap.size, 0, none⟩)) rfl (fun w' hw' => by go_simp) ?_
  (intro K hK; go_simp; refine hK _ ?_; clear hK K)
  refine q_val (v := .int .i64 (L : Int)) rfl (fun w' hw' => by have h := hC.out w' (hw'.mono (by omega)); obtain ⟨⟨h1, h2⟩, h3, h4⟩ := h; go_simp) ?_
  (intro K hK; go_simp; refine hK _ ?_; clear hK K)
  refine q_val (v := .int .i64 (N : Int)) rfl (fun w' hw' => by go_simp) ?_
  (intro K hK; go_simp; refine hK _ ?_; clear hK K)
  refine q_val (v := .pointer (some ⟨gw, 0, none⟩)) rfl (fun w' hw' => by go_simp) ?_
  (intro K hK; go_simp; refine hK _ ?_; clear hK K)
  refine q_val (v := .pointer (some ⟨gw, 0, none⟩)) rfl (fun w' hw' => by go_simp) ?_
  (intro K hK; go_simp; refine hK _ ?_; clear hK K)
  refine q_val (v := .pointer (some ⟨gw, 1, none⟩)) rfl (fun w' hw' => by go_simp) ?_
  (intro K hK; go_simp; refine hK _ ?_; clear hK K)
  refine q_val (v := .int .i64 (size : Int)) rfl (fun w' hw' => by have h := hC.out w' (hw'.mono (by omega)); obtain ⟨⟨h1, h2⟩, h3, h4⟩ := h; go_simp) ?_
  (intro K hK; go_simp; refine hK _ ?_; clear hK K)
  refine q_val (v := .bool false) rfl (fun w' hw' => by (go_simp; exact hNq.out)) ?_
  (intro K hK; go_simp; refine hK _ ?_; clear hK K)
  refine q_val (v := .bool false) rfl (fun w' hw' => by go_simp) ?_
  (intro K hK; go_simp; refine hK _ ?_; clear hK K)
  refine q_nil ?_
  intro w1 s12
  have hRw : Hid (Blk w1.drew (w.heap.size + 1) 23 Z32) := (s12.block _ (by omega)).trans hRb.out
  have s1 : Hid (Below (w.heap.size + 1) ((w.alloc (.cells #[.int .i64 (L : Int), .int .i64 (I : Int)] 129)).alloc (.cells Z32 23)) w1) := s12.mono (by omega)
  clear s12
  go_wp2_with fail
  have s1d : Hid (Below (w.heap.size + 1) ((w.alloc (.cells #[.int .i64 (L : Int), .int .i64 (I : Int)] 129)).alloc (.cells Z32 23)) w1.drew) := s1.out.drew
  obtain ⟨Fi, fn, first, cap, rfl, hf1, hf2, hf3, hf4⟩ := hcall.out
  replace hf4 := Lib.hid hf4
  replace hC := hC
  refine held_start (fun w' => Below (w.heap.size + 1) ((w.alloc (.cells #[.int .i64 (L : Int), .int .i64 (I : Int)] 129)).alloc (.cells Z32 23)) w') 7 rfl (by kernel_rfl) ?_
  refine held_take (i := 0) (v := .pointer (some ⟨gw, 0, none⟩)) rfl (by kernel_rfl) (by kernel_rfl) (by kernel_rfl) (fun _ _ _ h => h) s1d.out (by rfl) (fun w' hw' => by go_simp) ?_
  (intro K hK; go_simp; refine hK _ ?_; clear hK K)
  refine held_take (i := 1) (v := .pointer (some ⟨gw, 0, none⟩)) rfl (by kernel_rfl) (by kernel_rfl) (by kernel_rfl) (fun _ _ _ h => h) s1d.out (by rfl) (fun w' hw' => by go_simp) ?_
  (intro K hK; go_simp; refine hK _ ?_; clear hK K)
  refine held_take (i := 2) (v := .pointer (some ⟨gw, 0, none⟩)) rfl (by kernel_rfl) (by kernel_rfl) (by kernel_rfl) (fun _ _ _ h => h) s1d.out (by rfl) (fun w' hw' => by go_simp) ?_
  (intro K hK; go_simp; refine hK _ ?_; clear hK K)
  refine held_take (i := 3) (v := .func (.func Fi) first cap) rfl (by kernel_rfl) (by kernel_rfl) (by kernel_rfl) (fun _ _ _ h => h) s1d.out (by rfl) (fun w' hw' => by have h := hC.out w' hw'; obtain ⟨⟨h1, h2⟩, h3, h4⟩ := h; go_simp) ?_
  (intro K hK; go_simp; refine hK _ ?_; clear hK K)
  refine held_take (i := 4) (v := .agg ([.int .i64 (L : Int), .int .i64 (I : Int)]).toArray) rfl (by kernel_rfl) (by kernel_rfl) (by kernel_rfl) (fun _ _ _ h => h) s1d.out (by rfl) (fun w' hw' => exec_part 129 (.tmp 3) rfl (w.heap.size) (0) rfl ([.int .i64 (L : Int), .int .i64 (I : Int)]) _ (fun j u hu => spot_at (hC.out w' hw').1 j u hu) Tryd.underlying129 rfl rfl) ?_
  (intro K hK; go_simp; refine hK _ ?_; clear hK K)
  refine held_only (i := 5) rfl (by kernel_rfl) (by rfl) (fun K hK => ?_)
  refine wp_fnC (R := fun v w'' => v = .agg (cells8 x).toArray ∧ Below w1.drew.heap.size w1.drew w'') (args := #[.agg (pcells (L, I)).toArray]) _ _ rfl rfl rfl hf1 hf2 hf3 ((hf4.out w1.drew (hb0.out.trans (s1d.out.mono (by omega))) (L, I) hL0.out hfin.out).mono fun e w'' ⟨he, hb⟩ => ⟨_, he.trans (by rw [hx.out]), rfl, hb⟩) ?_
  rintro q3 w3 ⟨rfl, s3⟩
  have hR3 : Hid (Blk w3 (w.heap.size + 1) 23 Z32) := (s3.block _ (Blk.lt hRw.out)).trans hRw.out
  have s3' : Hid (Below (w.heap.size + 1) ((w.alloc (.cells #[.int .i64 (L : Int), .int .i64 (I : Int)] 129)).alloc (.cells Z32 23)) w3) := s1d.out.trans (s3.mono (by have := s1d.out.size; have := hz0.out; omega))
  clear s3
  go_simp
  refine hK _ _ s3'.out ?_
  clear hK K
  refine held_only (i := 6) rfl (by kernel_rfl) (by rfl) (fun K hK => ?_)
  refine wp_store_whole 23 (.tmp 4) (.tmp 45) rfl (w.heap.size + 1) (cells8 x).toArray rfl rfl 23 Z32 hR3.out F.out.size F.out.zero F.out.one ?_
  intro w9 B9 k9
  have s9 : Hid (Below (w.heap.size + 1) ((w.alloc (.cells #[.int .i64 (L : Int), .int .i64 (I : Int)] 129)).alloc (.cells Z32 23)) w9) := s3'.out.trans (Kept.below_of k9 (by omega) (by have := s3'.out.size; have := hz0.out; omega))
  go_simp
  refine hK _ _ s9.out ?_
  clear hK K
  refine held_end (by kernel_rfl) ?_
  have w0b : Hid (Below w.heap.size w w9) := hb0.out.trans (s9.out.mono (by omega))
  go_wp2_with fail
  refine bodyPost_ret (results_cell_row rfl _ _ (w.heap.size + 1) 23 (cells8 x).toArray (0, 0) _ rfl B9 Tryd.underlying23 rfl F.out.size) rfl ?_
  exact ⟨rfl, w0b.out⟩
theorem ask_at (dg : Nat × Nat → Text) (hdg : ∀ p, (dg p).length = 32) (size : Nat) (hs : size ≤ 1099511627776) (v : Value) (gw : Nat) (w : World) (hgw : Blk w gw 93 #[v, .int .i64 (size : Int), .bool false]) (hv : AtF dg size w v) :
    AtF dg size w (.func (.func 41) #[.pointer (some ⟨gw, 0, none⟩)] #[]) :=
  ⟨_, _, _, _, rfl, Tryd.func41, by kernel_rfl, by kernel_rfl, fun w' hb p h1 h2 => ask_any dg hdg size hs v gw w' ((hb.block gw hgw.lt).trans hgw) (hv.below hb) p.1 p.2 h1 h2⟩
end Go.Proofs.YtgldkfaiofkhbaaDoor.Ask

namespace Go.Proofs.YtgldkfaiofkhbaaDoor.AskW
open Go Go.RowKit Go.Proofs.YtgldkfaiofkhbaaDoor Go.Proofs.YtgldkfaiofkhbaaDoor.Digest Go.Proofs.YtgldkfaiofkhbaaDoor.Mem Go.Proofs.YtgldkfaiofkhbaaDoor.Sha Go.Proofs.YtgldkfaiofkhbaaDoor.ShaWalk Go.Proofs.YtgldkfaiofkhbaaDoor.Bytes Go.Proofs.YtgldkfaiofkhbaaDoor.HashMem Go.Proofs.YtgldkfaiofkhbaaDoor.DigestMem Go.Proofs.YtgldkfaiofkhbaaDoor.DigestTop Go.Proofs.YtgldkfaiofkhbaaDoor.RefTop Go.Proofs.YtgldkfaiofkhbaaDoor.QuietTail Go.Proofs.YtgldkfaiofkhbaaDoor.Grown Go.Proofs.YtgldkfaiofkhbaaDoor.Chain Go.Proofs.YtgldkfaiofkhbaaDoor.TreeMath Go.Proofs.YtgldkfaiofkhbaaDoor.TreeMem Go.Proofs.YtgldkfaiofkhbaaDoor.TreeRoot Go.Proofs.YtgldkfaiofkhbaaDoor.TreeFold Go.Proofs.YtgldkfaiofkhbaaDoor.Append Go.Proofs.YtgldkfaiofkhbaaDoor.Book Go.Proofs.YtgldkfaiofkhbaaDoor.TreeRefRoot Go.Proofs.YtgldkfaiofkhbaaDoor.Held Go.Proofs.YtgldkfaiofkhbaaDoor.Want Go.Proofs.YtgldkfaiofkhbaaDoor.WayP Go.Proofs.YtgldkfaiofkhbaaDoor.SpotsMath Go.Proofs.YtgldkfaiofkhbaaDoor.SpotsWalk Go.Proofs.YtgldkfaiofkhbaaDoor.AskP Go.Proofs.YtgldkfaiofkhbaaDoor.Told Go.Proofs.YtgldkfaiofkhbaaDoor.WayRows

theorem run_fnA {F : FuncId} {fn : Func} (hf : Tryd.prog.funcs[F]? = some fn) (hn : (fn.name == "runtime.NumGoroutine") = false) (hb : fn.body.isNone = false) : ∀ (args : Array Value) (w : World), (callFunc F args).run Tryd.prog w = .ok (.enter F args) w := fun args w => run_fn hf hn hb args w
theorem flat_cells {S : List (Nat × Nat)} {k : Nat} {p : Nat × Nat} {w : World} {A : Option Addr} {n : Nat} (hr : Reads w 2 A n (flat S)) (hn : S.length = n) (h : S[k]? = some p) : ∃ b o, A = some ⟨b, o, none⟩ ∧ b < w.heap.size ∧ ∀ w', Below w.heap.size w w' → ∀ j v, (pcells p)[j]? = some v → w'.cell? ⟨b, o + k * 2 + j, none⟩ = some v := by
  have hk : k < S.length := (List.getElem?_eq_some_iff.1 h).1
  obtain ⟨b, o, hA, hb, hc⟩ := hr.at_ (by omega)
  obtain ⟨h0, h1⟩ := flat_get S k p h
  refine ⟨b, o, hA, hb, fun w' hw j v hv => ?_⟩
  match j with
  | 0 =>
    obtain rfl := Option.some.inj hv
    have := (hw.cell (p := ⟨b, o + k * 2, none⟩) hb).trans (hc _ _ h0)
    exact this
  | 1 =>
    obtain rfl := Option.some.inj hv
    have := (hw.cell (p := ⟨b, o + k * 2 + 1, none⟩) hb).trans (hc _ _ h1)
    exact this
  | j + 2 => simp [pcells] at hv
theorem onB {w w' : World} {g : Nat} {t : TypeId} {cs : Array Value} (h : Blk w g t cs) (hb : Below w.heap.size w w') : Blk w' g t cs := (hb.block g h.lt).trans h
theorem base_on {w w' : World} (h : Base w) (hb : Below w.heap.size w w') : Base w' := h.below hb h.1
theorem sizeSp : (Tryd.prog.info? 129).map (·.size) = some 2 := by kernel_rfl
theorem own_low {w : World} {B B' : Nat} {e : TypeId} {size n : Nat} {v : Value} {xs : List Value} (h : w.ownsRow B e size v n xs) (hB : B' ≤ B) : w.ownsRow B' e size v n xs := ⟨h.1, h.2.imp id fun ⟨g, cap, cur, h1, h2, h3⟩ => ⟨g, cap, cur, h1, Nat.le_trans hB h2, h3⟩⟩
set_option maxRecDepth 100000 in
set_option maxHeartbeats 2000000 in
theorem digestOf_any (s : Int) (dg : Nat × Nat → Text) (hdg : ∀ p, (dg p).length = 32) (size : Nat) (hs : size ≤ 1099511627776) (p : Nat × Nat) (hps : p.2 ≤ size) (hpl : p.1 ≤ p.2) (fv : Value) (ga gs : Nat) (w : World) (hB : Base w) (hT : TabAt 3 Lib.deBruijn64tab w) (hg : 3 < w.heap.size)
    (hga : Blk w ga 61 #[fv]) (hgs : Blk w gs 3 #[.int .i64 s]) (hfv : AtF dg size w fv) :
    Calls Tryd.prog 108 #[.agg #[.int .i64 (p.1 : Int), .int .i64 (p.2 : Int)], .pointer (some ⟨ga, 0, none⟩), .pointer (some ⟨gs, 0, none⟩)] w fun e w' => e = .returned (.agg (cells8 (partD s dg p)).toArray) ∧ Below w.heap.size w w' := by
  obtain ⟨i0, ii, iz0, iz1, iz2⟩ := info_partsN info32
  obtain ⟨x, hx⟩ : ∃ x, Hid (partD s dg p = x) := ⟨_, Lib.hid rfl⟩
  obtain ⟨S, hS⟩ : ∃ S, Hid (spots (p.2 - p.1) p.1 p.2 = S) := ⟨_, Lib.hid rfl⟩
  have hxl : x.length = 32 := by rw [← hx.out]; exact foldOf_len s _ (digs_map hdg _)
  have F := Lib.hid (fit (x := x) hxl)
  have hxS : Hid (foldOf s (S.map dg) = x) := by rw [← hx.out, ← hS.out]; rfl
  rw [hx.out]
  have hin : Hid (∀ q ∈ S, q.1 ≤ 40 ∧ (q.2 + 1) * 2 ^ q.1 ≤ size) := fun q hq => by
    have := spots_inside (p.2 - p.1) p.1 p.2 q (by rw [hS.out]; exact hq)
    exact ⟨this.1, by omega⟩
  have hSp : Hid (∀ w', TabAt 3 Lib.deBruijn64tab w' → 3 < w'.heap.size → Calls Tryd.prog 109 #[.int .i64 (p.1 : Int), .int .i64 (p.2 : Int)] w' fun e w'' => ∃ v, e = .returned v ∧ w''.ownsRow w'.heap.size 129 2 v S.length (flat S) ∧ Below w'.heap.size w' w'') := fun w' h1 h2 => by
    have := tree_spots (p.1 : Int) (p.2 : Int) (by omega) (by omega) (by omega) (by omega) w' h1 h2
    rw [spotsZ_in (by omega), hS.out] at this
    exact this
  obtain ⟨m, hm⟩ : ∃ m, Hid (S.length = m) := ⟨_, Lib.hid rfl⟩
  rw [hm.out] at hSp
  have hm40 : Hid (m ≤ 1099511627776) := by
    have := spots_len (p.2 - p.1) p.1 p.2
    rw [hS.out, hm.out] at this
    show _ ≤ _
    omega
  have hb0 : Hid (Below w.heap.size w ((w.alloc (.cells #[.int .i64 (p.1 : Int), .int .i64 (p.2 : Int)] 176)).alloc (.cells Z32 23))) := ((Below.refl _ w).alloc (Nat.le_refl _) _).alloc (by simp) _
  have hz0 : Hid (((w.alloc (.cells #[.int .i64 (p.1 : Int), .int .i64 (p.2 : Int)] 176)).alloc (.cells Z32 23)).heap.size = w.heap.size + 2) := by show _ = _; simp
  have hR0 : Hid (Blk ((w.alloc (.cells #[.int .i64 (p.1 : Int), .int .i64 (p.2 : Int)] 176)).alloc (.cells Z32 23)) (w.heap.size + 1) 23 Z32) := by
    have := Blk.new (w.alloc (.cells #[.int .i64 (p.1 : Int), .int .i64 (p.2 : Int)] 176)) 23 Z32
    rwa [show (w.alloc (.cells #[.int .i64 (p.1 : Int), .int .i64 (p.2 : Int)] 176)).heap.size = w.heap.size + 1 by simp] at this
  have hS0 := Lib.hid (hSp.out ((w.alloc (.cells #[.int .i64 (p.1 : Int), .int .i64 (p.2 : Int)] 176)).alloc (.cells Z32 23)) (tab_below hT hg hb0.out) (by rw [hz0.out]; omega))
  have hB0 := Lib.hid (base_on hB hb0.out)
  have hA0 := Lib.hid (onB hga hb0.out)
  have hG0 := Lib.hid (onB hgs hb0.out)
  have hF0 := Lib.hid (hfv.below hb0.out)
  replace hdg := Lib.hid hdg
  clear hSp hT hg hga hgs hfv hxl hs hps hpl hB hS hx
  go_enter Tryd.func108, Tryd.ntmps108
  go_wp2_with fail
  refine hS0.out.mono ?_
  rintro e w1 ⟨v1, rfl, o1, b1⟩
  obtain ⟨A1, c1, rfl, -, -, -, r1, -⟩ := Own.reads o1
  replace r1 := Lib.hid r1
  replace b1 := Lib.hid b1
  clear o1
  go_wp2_with fail
  have hF1 := Lib.hid (hF0.out.below b1.out)
  have hA1 := Lib.hid (onB hA0.out b1.out)
  have hG1 := Lib.hid (onB hG0.out b1.out)
  have hB1 := Lib.hid (base_on hB0.out b1.out)
  have hR1 := Lib.hid (onB hR0.out b1.out)
  have hb1 : Hid (Below w.heap.size w w1) := hb0.out.trans (b1.out.mono (by rw [hz0.out]; omega))
  obtain ⟨Fi, fn, first, cap, rfl, hf1, hf2, hf3, hf4⟩ := hF1.out
  have hcf := Lib.hid (run_fnA hf1 hf2 hf3)
  replace hf4 := Lib.hid hf4
  clear hF0 hF1 hA0 hG0 hB0 hR0 hS0 hf1 hf2 hf3 hb0 hz0 b1
  go_loopw [5, 14] (fun u v wr => ∃ (j : Nat) (uu : Value), u = uu ∧ v = .int .i64 (j : Int) ∧ Hid (j ≤ m) ∧ Hid (wr.ownsRow w1.heap.size 23 32 uu j (((S.take j).map dg).flatMap cells8)) ∧ Hid (Below w1.heap.size w1 wr)) (fun _ v _ => m - (intOf v).toNat)
  case atStart => exact ⟨0, _, rfl, rfl, Nat.zero_le _, World.ownsRow_nil _ _ _ _, Below.refl _ _⟩
  case round =>
    obtain ⟨j, uu, huu, rfl, hj, hO, hb⟩ := hrel
    rw [huu]
    clear huu
    have hwz : Hid (w1.heap.size ≤ wr.heap.size) := hb.out.size
    have hA2 := Lib.hid (onB hA1.out hb.out)
    by_cases hlt : j < m
    · have y1 : (j : Int) < (m : Int) := by omega
      have y2 : (0 : Int) ≤ (j : Int) := by omega
      have y3 : IntKind.i64.wrap ((j : Int) + 1) = (j : Int) + 1 := IntWalk.i64_in _ (by have := hm40.out; omega)
      obtain ⟨q, hq⟩ : ∃ q, Hid (S[j]? = some q) := ⟨_, List.getElem?_eq_getElem (by rw [hm.out]; exact hlt)⟩
      have hqi := Lib.hid (hin.out q (List.mem_of_getElem? hq.out))
      obtain ⟨b, o, rfl, hbl, hc⟩ := flat_cells r1.out hm.out hq.out
      replace hc := Lib.hid (hc wr hb.out)
      have hcA : wr.cell? ⟨ga, 0, none⟩ = some (.func (.func Fi) first cap) := by rw [hA2.out.cell 0]; rfl
      have hql : Hid ((pcells q).length = 2) := rfl
      have hq1 : Hid ((pcells q).toArray.all (fun v => v.oneCell') = true) := by show _ = _; rw [List.all_toArray]; exact List.all_eq_true.2 (pcells_one q)
      obtain ⟨d, hd⟩ : ∃ d, Hid (dg q = d) := ⟨_, Lib.hid rfl⟩
      have hdl : Hid (d.length = 32) := by show _ = _; rw [← hd.out]; exact hdg.out q
      have hCall := Lib.hid (fun w' (hb' : Below w1.heap.size w1 w') => hf4.out w' hb' q hqi.out.1 hqi.out.2)
      rw [hd.out] at hCall
      have hup : Hid (((S.take (j + 1)).map dg).flatMap cells8 = ((S.take j).map dg).flatMap cells8 ++ cells8 d) := by
        show _ = _
        rw [map_snoc dg S j q hq.out, List.flatMap_append, List.flatMap_singleton, hd.out]
      have hjm : Hid (j + 1 ≤ m) := by show _ ≤ _; omega
      clear hlt hqi hq hd
      go_wp2_with (first
        | ((with_reducible change wpList _ _ _ ({ dst := some 17, op := _, type := _, pos := _, after := _, guard := _ } :: _) _ _); refine wpList_load_part (o := ⟨some 17, _, _, _, _, _⟩) rfl 129 (.tmp 16) rfl (b) ((o + j * 2)) rfl (pcells q) _ hc.out Tryd.underlying129 rfl rfl ?_)
        | ((with_reducible change wpList _ _ _ ({ dst := none, op := Op.store 129 _ _, type := _, pos := _, after := _, guard := _ } :: _) _ _); refine wpList_store_whole (o := ⟨none, _, _, _, _, _⟩) rfl 129 (.tmp 7) (.tmp 17) rfl (wr.heap.size) ((pcells q).toArray) rfl rfl 129 _ (Blk.new wr _ _) sizeSp rfl hq1.out ?_; intro w2 B2 k2; have b2 : Hid (Below wr.heap.size wr w2) := kept_fresh k2; replace B2 := Lib.hid B2; have hcA2 : w2.cell? ⟨ga, 0, none⟩ = some (.func (.func Fi) first cap) := (b2.out.cell (p := ⟨ga, 0, none⟩) hA2.out.lt).trans hcA; clear k2)
        | ((with_reducible change wpList _ _ _ ({ dst := some 20, op := _, type := _, pos := _, after := _, guard := _ } :: _) _ _); refine wpList_load_row (o := ⟨some 20, _, _, _, _, _⟩) rfl 129 (.tmp 7) rfl (wr.heap.size) rfl 129 ((pcells q).toArray) (0, 0) _ B2.out Tryd.underlying129 rfl sizeSp ?_))
      rw [hcf.out]
      refine Calls.mono (hCall.out w2 (hb.out.trans (b2.out.mono hwz.out))) ?_
      rintro e w3 ⟨rfl, b3⟩
      have b3' : Hid (Below wr.heap.size wr w3) := b2.out.trans (b3.mono b2.out.size)
      have hO3 := Lib.hid (own_below hO.out b3'.out)
      have hb3 : Hid (Below w1.heap.size w1 w3) := hb.out.trans (b3'.out.mono hwz.out)
      have q1 : Hid (∀ v ∈ [cells8 d], v.length = 32) := by intro v hv; simp only [List.mem_singleton] at hv; rw [hv, cells8_len, hdl.out]
      have x1 : Hid ([cells8 d].flatten.toArray = (cells8 d).toArray) := by show _ = _; simp
      have hnew : Hid (Reads (w3.alloc (.cells (cells8 d).toArray 23)) 32 (some ⟨w3.heap.size, 0, none⟩) 1 (cells8 d)) := Blk.reads (Blk.new w3 23 (cells8 d).toArray) 0 _ (by rw [cells8_len, hdl.out]) (fun k u hu => by rw [Nat.zero_add, List.getElem?_toArray]; exact hu)
      have hO4 : Hid ((w3.alloc (.cells (cells8 d).toArray 23)).ownsRow w1.heap.size 23 32 uu j (((S.take j).map dg).flatMap cells8)) := own_below hO3.out (Below.heap_below _ _)
      have hb4 : Hid (Below w1.heap.size w1 (w3.alloc (.cells (cells8 d).toArray 23))) := hb3.out.alloc hb3.out.size _
      have hs4 : Hid (w1.heap.size ≤ (w3.alloc (.cells (cells8 d).toArray 23)).heap.size) := hb4.out.size
      have hc1 : Hid (j + 1 ≤ maxLen) := by have := hm40.out; have := hjm.out; show _ ≤ _; unfold maxLen; omega
      have hc3 : Hid ((j + 1) * 32 ≤ 140737488355328) := by have := hm40.out; have := hjm.out; show _ ≤ _; omega
      clear b3 B2 b2 hcA2 hcA hCall hA2 hO hO3 hb hb3 b3' hc
      go_wp2_with (first
        | ((with_reducible change wpList _ _ _ ({ dst := some 22, op := _, type := _, pos := _, after := _, guard := _ } :: _) _ _); refine wpList_buildAggs (o := ⟨some 22, _, _, _, _, _⟩) rfl 42 23 1 _ rfl 32 (by decide) [cells8 d] Tryd.underlying42 size31 zero31 rfl (by decide) (by decide) q1.out rfl ?_; rw [x1.out])
        | ((with_reducible change wpList _ _ _ ({ dst := some 23, op := _, type := _, pos := _, after := _, guard := _ } :: _) _ _); refine wpList_append_src _ (o := ⟨some 23, _, _, _, _, _⟩) rfl (.tmp 18) (.tmp 22) 42 rfl w1.heap.size 23 i0 (.agg Z32) 32 32 Tryd.underlying42 ii iz0 iz1 iz2 rfl (by decide) uu j (((S.take j).map dg).flatMap cells8) rfl hO4.out (some ⟨w3.heap.size, 0, none⟩) 1 1 (cells8 d) rfl hnew.out (fun e => by cases e) (cells8_one d) hc1.out hc3.out hs4.out ?_; intro v5 w5 hG; have hO5 : Hid (w5.ownsRow w1.heap.size 23 32 v5 (j + 1) (((S.take (j + 1)).map dg).flatMap cells8)) := (by show World.ownsRow _ _ _ _ _ _ _; rw [hup.out]; exact hG.own); have hb5 : Hid (Below w1.heap.size w1 w5) := hG.below hb4.out hs4.out (fun k e => (hO4.out.lt k e).1); clear hG))
      go_roundw
      case rel => exact ⟨j + 1, v5, rfl, by go_num, hjm.out, hO5.out, hb5.out⟩
      case measure => (have := hjm.out; simp [intOf]; omega)
    · have z1 : decide ((j : Int) < (m : Int)) = false := decide_eq_false (by omega)
      obtain rfl : j = m := by have := hj.out; omega
      rw [show S.take j = S from List.take_of_length_le (by rw [hm.out]; exact Nat.le_refl _)] at hO
      obtain ⟨A5, c5, rfl, -, -, -, r5, -⟩ := Own.reads hO.out
      have hrd := Lib.hid (own_rd hO.out (digs_map hdg.out S) (by rw [List.length_map, hm.out]) A5 c5 rfl)
      have hfold := Lib.hid (fold_any s (S.map dg) j (by have := hm40.out; omega) A5 c5 wr (base_on hB1.out hb.out) hrd.out)
      rw [hxS.out] at hfold
      have hRr := Lib.hid (onB hR1.out hb.out)
      have hcS : wr.cell? ⟨gs, 0, none⟩ = some (.int .i64 s) := by rw [(onB hG1.out hb.out).cell 0]; rfl
      have hbw : Hid (Below w.heap.size w wr) := hb1.out.trans (hb.out.mono hb1.out.size)
      clear hlt hj hO r5 hrd hA2 hb hb1 hA1 hG1 hB1 hR1 hf4
      go_wp2_with (first
        | (go_at_call 110; refine hfold.out.mono ?_; rintro e w6 ⟨rfl, b6⟩; have hR6 := Lib.hid (onB hRr.out b6); have hb6 : Hid (Below w.heap.size w w6) := hbw.out.trans (b6.mono hbw.out.size); clear b6)
        | ((with_reducible change wpList _ _ _ ({ dst := none, op := Op.store 23 _ _, type := _, pos := _, after := _, guard := _ } :: _) _ _); refine wpList_store_row (o := ⟨none, _, _, _, _, _⟩) rfl 23 (.tmp 4) (.tmp 27) rfl ((w.heap.size + 1)) ((cells8 x).toArray) rfl rfl 23 (Z32) hR6.out F.out.size F.out.zero F.out.one ?_))
      refine bodyPost_ret (results_cell_row rfl _ _ (w.heap.size + 1) 23 (cells8 x).toArray (0, 0) _ rfl (setRow_heap _ _ _ _ _ _ hR6.out) Tryd.underlying23 rfl F.out.size) rfl ?_
      exact ⟨rfl, below_setRow hb6.out (by omega) _⟩
theorem flatP_cells {ps : List (Nat × Nat)} {k : Nat} {p : Nat × Nat} {w : World} {A : Option Addr} {n : Nat} (hr : Reads w 2 A n (flatP ps)) (hn : ps.length = n) (h : ps[k]? = some p) : ∃ b o, A = some ⟨b, o, none⟩ ∧ b < w.heap.size ∧ ∀ w', Below w.heap.size w w' → ∀ j v, (pcells p)[j]? = some v → w'.cell? ⟨b, o + k * 2 + j, none⟩ = some v := flat_cells hr hn h
set_option maxRecDepth 100000 in
set_option maxHeartbeats 2000000 in
theorem asked_any (s : Int) (dg : Nat × Nat → Text) (hdg : ∀ p, (dg p).length = 32) (size : Nat) (hs : size ≤ 1099511627776) (ps : List (Nat × Nat)) (hps : ∀ p ∈ ps, p.1 ≤ p.2 ∧ p.2 ≤ size) (m : Nat) (hm : ps.length = m) (hm40 : m ≤ 1099511627776) (A : Option Addr) (c : Nat) (fv : Value) (w : World) (hB : Base w) (hT : TabAt 3 Lib.deBruijn64tab w) (hg : 3 < w.heap.size)
    (hr : Reads w 2 A m (flatP ps)) (hfv : AtF dg size w fv) :
    Calls Tryd.prog 62 #[.int .i64 s, .slice A m c, fv] w fun e w' => ∃ v, e = .returned v ∧ w'.ownsRow w.heap.size 23 32 v m ((partsD s dg ps).flatMap cells8) ∧ Below w.heap.size w w' := by
  obtain ⟨i0, ii, iz0, iz1, iz2⟩ := info_partsN info32
  obtain ⟨Fi, fn, first, cap, rfl, hf1, hf2, hf3, hf4⟩ := id hfv
  obtain ⟨pd, hpd⟩ : ∃ pd, Hid (partD s dg = pd) := ⟨_, Lib.hid rfl⟩
  have hpl : Hid (∀ p, (pd p).length = 32) := fun p => by rw [← hpd.out]; exact foldOf_len s _ (digs_map hdg _)
  have hpD : Hid (partsD s dg ps = ps.map pd) := by show _ = _; rw [← hpd.out]; rfl
  rw [hpD.out]
  have hb0 : Hid (Below w.heap.size w ((w.alloc (.cells #[.int .i64 s] 3)).alloc (.cells #[.func (.func Fi) first cap] 61))) := ((Below.refl _ w).alloc (Nat.le_refl _) _).alloc (by simp) _
  have hz0 : Hid (((w.alloc (.cells #[.int .i64 s] 3)).alloc (.cells #[.func (.func Fi) first cap] 61)).heap.size = w.heap.size + 2) := by show _ = _; simp
  have hG0 : Hid (Blk ((w.alloc (.cells #[.int .i64 s] 3)).alloc (.cells #[.func (.func Fi) first cap] 61)) w.heap.size 3 #[.int .i64 s]) := (Blk.new w _ _).alloc _
  have hA0 : Hid (Blk ((w.alloc (.cells #[.int .i64 s] 3)).alloc (.cells #[.func (.func Fi) first cap] 61)) (w.heap.size + 1) 61 #[.func (.func Fi) first cap]) := by
    have := Blk.new (w.alloc (.cells #[.int .i64 s] 3)) 61 #[.func (.func Fi) first cap]
    rwa [show (w.alloc (.cells #[.int .i64 s] 3)).heap.size = w.heap.size + 1 by simp] at this
  have hDig : Hid (∀ w', Below (w.heap.size + 2) ((w.alloc (.cells #[.int .i64 s] 3)).alloc (.cells #[.func (.func Fi) first cap] 61)) w' → ∀ p : Nat × Nat, p.1 ≤ p.2 → p.2 ≤ size → Calls Tryd.prog 108 #[.agg (pcells p).toArray, .pointer (some ⟨w.heap.size + 1, 0, none⟩), .pointer (some ⟨w.heap.size, 0, none⟩)] w' fun e w'' => e = .returned (.agg (cells8 (pd p)).toArray) ∧ Below w'.heap.size w' w'') := fun w' hb p h1 h2 => by
    have hbw := hb0.out.trans (hb.mono (by omega))
    rw [← hpd.out]
    exact digestOf_any s dg hdg size hs p h2 h1 (.func (.func Fi) first cap) _ _ w' (base_on hB hbw) (tab_below hT hg hbw) (by have := hbw.size; omega) (onB hA0.out (hb.mono (by rw [hz0.out]; exact Nat.le_refl _))) (onB hG0.out (hb.mono (by rw [hz0.out]; exact Nat.le_refl _))) (hfv.below hbw)
  have r0 := Lib.hid (hr.below hb0.out)
  have hO0 : Hid (((w.alloc (.cells #[.int .i64 s] 3)).alloc (.cells #[.func (.func Fi) first cap] 61)).ownsRow (w.heap.size + 2) 23 32 (.slice none 0 0) 0 (((ps.take 0).map pd).flatMap cells8)) := World.ownsRow_nil _ _ _ _
  have hmf : ∀ (fn : Fn) (first cap : Array Value) (w : World), (Instr.makeFunc fn first cap).run Tryd.prog w = .ok (.func fn first cap) w := fun _ _ _ _ => rfl
  have hcf := Lib.hid (run_fnA (F := 108) Tryd.func108 (by kernel_rfl) (by kernel_rfl))
  replace hm := Lib.hid hm
  replace hm40 := Lib.hid hm40
  replace hps := Lib.hid hps
  clear hdg hs hB hT hg hr hfv hf1 hf2 hf3 hf4 hA0 hG0 hpD hpd
  go_enter Tryd.func62, Tryd.ntmps62
  go_wp2_with fail
  go_loopw [8, 14] (fun u v wr => ∃ (j : Nat) (uu : Value), u = uu ∧ v = .int .i64 (j : Int) ∧ Hid (j ≤ m) ∧ Hid (wr.ownsRow (w.heap.size + 2) 23 32 uu j (((ps.take j).map pd).flatMap cells8)) ∧ Hid (Below (w.heap.size + 2) ((w.alloc (.cells #[.int .i64 s] 3)).alloc (.cells #[.func (.func Fi) first cap] 61)) wr)) (fun _ v _ => m - (intOf v).toNat)
  case atStart => exact ⟨0, _, rfl, rfl, Nat.zero_le _, hO0.out, Below.refl _ _⟩
  case round =>
    clear hO0
    obtain ⟨j, uu, huu, rfl, hj, hO, hb⟩ := hrel
    rw [huu]
    clear huu
    have hwz : Hid (w.heap.size + 2 ≤ wr.heap.size) := by have := hb.out.size; have := hz0.out; show _ ≤ _; omega
    by_cases hlt : j < m
    · have y1 : (j : Int) < (m : Int) := by omega
      have y2 : (0 : Int) ≤ (j : Int) := by omega
      have y3 : IntKind.i64.wrap ((j : Int) + 1) = (j : Int) + 1 := IntWalk.i64_in _ (by have := hm40.out; omega)
      obtain ⟨q, hq⟩ : ∃ q, Hid (ps[j]? = some q) := ⟨_, List.getElem?_eq_getElem (by rw [hm.out]; exact hlt)⟩
      have hqi := Lib.hid (hps.out q (List.mem_of_getElem? hq.out))
      obtain ⟨b, o, rfl, hbl, hc⟩ := flatP_cells r0.out hm.out hq.out
      replace hc := Lib.hid (hc wr (hb.out.mono (by rw [hz0.out]; exact Nat.le_refl _)))
      have hql : Hid ((pcells q).length = 2) := rfl
      have hq1 : Hid ((pcells q).toArray.all (fun v => v.oneCell') = true) := by show _ = _; rw [List.all_toArray]; exact List.all_eq_true.2 (pcells_one q)
      obtain ⟨d, hd⟩ : ∃ d, Hid (pd q = d) := ⟨_, Lib.hid rfl⟩
      have hdl : Hid (d.length = 32) := by show _ = _; rw [← hd.out]; exact hpl.out q
      have hCall := Lib.hid (fun w' (hb' : Below (w.heap.size + 2) ((w.alloc (.cells #[.int .i64 s] 3)).alloc (.cells #[.func (.func Fi) first cap] 61)) w') => hDig.out w' hb' q hqi.out.1 hqi.out.2)
      rw [hd.out] at hCall
      have hup : Hid (((ps.take (j + 1)).map pd).flatMap cells8 = ((ps.take j).map pd).flatMap cells8 ++ cells8 d) := by
        show _ = _
        rw [map_snoc pd ps j q hq.out, List.flatMap_append, List.flatMap_singleton, hd.out]
      have hjm : Hid (j + 1 ≤ m) := by show _ ≤ _; omega
      clear hlt hqi hq hd
      go_wp2_with (first
        | ((with_reducible change wpList _ _ _ ({ dst := some 17, op := _, type := _, pos := _, after := _, guard := _ } :: _) _ _); refine wpList_load_part (o := ⟨some 17, _, _, _, _, _⟩) rfl 176 (.tmp 16) rfl (b) ((o + j * 2)) rfl (pcells q) _ hc.out Tryd.underlying176 rfl rfl ?_)
        | ((with_reducible change wpList _ _ _ ({ dst := none, op := Op.store 176 _ _, type := _, pos := _, after := _, guard := _ } :: _) _ _); refine wpList_store_whole (o := ⟨none, _, _, _, _, _⟩) rfl 176 (.tmp 10) (.tmp 17) rfl (wr.heap.size) ((pcells q).toArray) rfl rfl 176 _ (Blk.new wr _ _) sizeP rfl hq1.out ?_; intro w2 B2 k2; have b2 : Hid (Below wr.heap.size wr w2) := kept_fresh k2; replace B2 := Lib.hid B2; clear k2)
        | ((with_reducible change wpList _ _ _ ({ dst := some 20, op := _, type := _, pos := _, after := _, guard := _ } :: _) _ _); refine wpList_load_row (o := ⟨some 20, _, _, _, _, _⟩) rfl 176 (.tmp 10) rfl (wr.heap.size) rfl 176 ((pcells q).toArray) (0, 0) _ B2.out Tryd.underlying176 rfl sizeP ?_))
      first | rw [hcf.out] | skip
      refine Calls.mono (hCall.out w2 (hb.out.trans (b2.out.mono hwz.out))) ?_
      rintro e w3 ⟨rfl, b3⟩
      have b3' : Hid (Below wr.heap.size wr w3) := b2.out.trans (b3.mono b2.out.size)
      have hO3 := Lib.hid (own_below hO.out b3'.out)
      have hb3 : Hid (Below (w.heap.size + 2) ((w.alloc (.cells #[.int .i64 s] 3)).alloc (.cells #[.func (.func Fi) first cap] 61)) w3) := hb.out.trans (b3'.out.mono hwz.out)
      have q1 : Hid (∀ v ∈ [cells8 d], v.length = 32) := by intro v hv; simp only [List.mem_singleton] at hv; rw [hv, cells8_len, hdl.out]
      have x1 : Hid ([cells8 d].flatten.toArray = (cells8 d).toArray) := by show _ = _; simp
      have hnew : Hid (Reads (w3.alloc (.cells (cells8 d).toArray 23)) 32 (some ⟨w3.heap.size, 0, none⟩) 1 (cells8 d)) := Blk.reads (Blk.new w3 23 (cells8 d).toArray) 0 _ (by rw [cells8_len, hdl.out]) (fun k u hu => by rw [Nat.zero_add, List.getElem?_toArray]; exact hu)
      have hO4 : Hid ((w3.alloc (.cells (cells8 d).toArray 23)).ownsRow (w.heap.size + 2) 23 32 uu j (((ps.take j).map pd).flatMap cells8)) := own_below hO3.out (Below.heap_below _ _)
      have hs4 : Hid (w.heap.size + 2 ≤ (w3.alloc (.cells (cells8 d).toArray 23)).heap.size) := by have := hwz.out; have := b3'.out.size; show _ ≤ _; simp; omega
      have hb4 : Hid (Below (w.heap.size + 2) ((w.alloc (.cells #[.int .i64 s] 3)).alloc (.cells #[.func (.func Fi) first cap] 61)) (w3.alloc (.cells (cells8 d).toArray 23))) := hb3.out.alloc (by have := hwz.out; have := b3'.out.size; omega) _
      have hc1 : Hid (j + 1 ≤ maxLen) := by have := hm40.out; have := hjm.out; show _ ≤ _; unfold maxLen; omega
      have hc3 : Hid ((j + 1) * 32 ≤ 140737488355328) := by have := hm40.out; have := hjm.out; show _ ≤ _; omega
      clear b3 B2 b2 hCall hO hO3 hb hb3 b3' hc
      go_wp2_with (first
        | ((with_reducible change wpList _ _ _ ({ dst := some 22, op := _, type := _, pos := _, after := _, guard := _ } :: _) _ _); refine wpList_buildAggs (o := ⟨some 22, _, _, _, _, _⟩) rfl 42 23 1 _ rfl 32 (by decide) [cells8 d] Tryd.underlying42 size31 zero31 rfl (by decide) (by decide) q1.out rfl ?_; rw [x1.out])
        | ((with_reducible change wpList _ _ _ ({ dst := some 23, op := _, type := _, pos := _, after := _, guard := _ } :: _) _ _); refine wpList_append_src _ (o := ⟨some 23, _, _, _, _, _⟩) rfl (.tmp 18) (.tmp 22) 42 rfl (w.heap.size + 2) 23 i0 (.agg Z32) 32 32 Tryd.underlying42 ii iz0 iz1 iz2 rfl (by decide) uu j (((ps.take j).map pd).flatMap cells8) rfl hO4.out (some ⟨w3.heap.size, 0, none⟩) 1 1 (cells8 d) rfl hnew.out (fun e => by cases e) (cells8_one d) hc1.out hc3.out hs4.out ?_; intro v5 w5 hG; have hO5 : Hid (w5.ownsRow (w.heap.size + 2) 23 32 v5 (j + 1) (((ps.take (j + 1)).map pd).flatMap cells8)) := (by show World.ownsRow _ _ _ _ _ _ _; rw [hup.out]; exact hG.own); have hb5 : Hid (Below (w.heap.size + 2) ((w.alloc (.cells #[.int .i64 s] 3)).alloc (.cells #[.func (.func Fi) first cap] 61)) w5) := hG.below hb4.out hs4.out (fun k e => (hO4.out.lt k e).1); clear hG))
      go_roundw
      case rel => exact ⟨j + 1, v5, rfl, by go_num, hjm.out, hO5.out, hb5.out⟩
      case measure => (have := hjm.out; simp [intOf]; omega)
    · have z1 : decide ((j : Int) < (m : Int)) = false := decide_eq_false (by omega)
      obtain rfl : j = m := by have := hj.out; omega
      rw [show ps.take j = ps from List.take_of_length_le (by rw [hm.out]; exact Nat.le_refl _)] at hO
      have hbw : Hid (Below w.heap.size w wr) := hb0.out.trans (hb.out.mono (by omega))
      have hOw : Hid (wr.ownsRow w.heap.size 23 32 uu j ((ps.map pd).flatMap cells8)) := own_low hO.out (by omega)
      clear hlt hj hO hb hDig r0
      go_wp2_with fail
      go_ret
      exact ⟨_, rfl, hOw.out, hbw.out⟩
end Go.Proofs.YtgldkfaiofkhbaaDoor.AskW

namespace Go.Proofs.YtgldkfaiofkhbaaDoor.ProveW
open Go Go.RowKit Go.Proofs.YtgldkfaiofkhbaaDoor Go.Proofs.YtgldkfaiofkhbaaDoor.Digest Go.Proofs.YtgldkfaiofkhbaaDoor.Mem Go.Proofs.YtgldkfaiofkhbaaDoor.Sha Go.Proofs.YtgldkfaiofkhbaaDoor.ShaWalk Go.Proofs.YtgldkfaiofkhbaaDoor.Bytes Go.Proofs.YtgldkfaiofkhbaaDoor.HashMem Go.Proofs.YtgldkfaiofkhbaaDoor.DigestMem Go.Proofs.YtgldkfaiofkhbaaDoor.DigestTop Go.Proofs.YtgldkfaiofkhbaaDoor.RefTop Go.Proofs.YtgldkfaiofkhbaaDoor.QuietTail Go.Proofs.YtgldkfaiofkhbaaDoor.Grown Go.Proofs.YtgldkfaiofkhbaaDoor.Chain Go.Proofs.YtgldkfaiofkhbaaDoor.TreeMath Go.Proofs.YtgldkfaiofkhbaaDoor.TreeMem Go.Proofs.YtgldkfaiofkhbaaDoor.TreeRoot Go.Proofs.YtgldkfaiofkhbaaDoor.TreeFold Go.Proofs.YtgldkfaiofkhbaaDoor.Append Go.Proofs.YtgldkfaiofkhbaaDoor.Book Go.Proofs.YtgldkfaiofkhbaaDoor.TreeRefRoot Go.Proofs.YtgldkfaiofkhbaaDoor.Held Go.Proofs.YtgldkfaiofkhbaaDoor.WayP Go.Proofs.YtgldkfaiofkhbaaDoor.SpotsMath Go.Proofs.YtgldkfaiofkhbaaDoor.SpotsWalk Go.Proofs.YtgldkfaiofkhbaaDoor.AskP Go.Proofs.YtgldkfaiofkhbaaDoor.Told Go.Proofs.YtgldkfaiofkhbaaDoor.AskW Go.Proofs.YtgldkfaiofkhbaaDoor.WayRows Go.Proofs.YtgldkfaiofkhbaaDoor.RowsP Go.Proofs.YtgldkfaiofkhbaaDoor.Subs Go.Proofs.YtgldkfaiofkhbaaDoor.ProveP Go.Proofs.YtgldkfaiofkhbaaDoor.Joint

theorem eq_nil (w : World) : (binOp .eql 61 .nilFunc .nilFunc).run Tryd.prog w = .ok (.bool true) w := by kernel_rfl
theorem eq_fn (F : FuncId) (first cap : Array Value) (w : World) : (binOp .eql 61 (.func (.func F) first cap) .nilFunc).run Tryd.prog w = .ok (.bool false) w := by kernel_rfl
theorem way_post (x y : Nat) (hs : x ≤ 1099511627776) (hi : y < x) (w : World) : Calls Tryd.prog 63 #[.int .i64 (x : Int), .int .i64 (y : Int)] w fun e w' => ∃ v, e = .returned v ∧ w'.ownsRow w.heap.size 176 2 v (wayR 0 x y).length (flatP (wayR 0 x y)) ∧ Below w.heap.size w w' :=
  (WayX.way_rows x y hs hi w).mono fun e w' ⟨v, ps, h1, h2, h3, h4⟩ => by subst h2; exact ⟨v, h1, h3, h4⟩
theorem parts_post (x y : Nat) (hi : x ≤ y) (hs : y ≤ 1099511627776) (w : World) : Calls Tryd.prog 71 #[.int .i64 (x : Int), .int .i64 (y : Int)] w fun e w' => ∃ v, e = .returned v ∧ w'.ownsRow w.heap.size 176 2 v (partsOf x y).length (flatP (partsOf x y)) ∧ Below w.heap.size w w' := parts_any x y hi hs w

set_option maxRecDepth 100000 in
set_option maxHeartbeats 2000000 in
theorem treeIncl_nil (s a b : Int) (w : World) : Calls Tryd.prog 16 #[.int .i64 s, .int .i64 a, .int .i64 b, .nilFunc] w fun e w' => e = .returned (.tuple #[.slice none 0 0, .int .i64 1]) ∧ w = w' := by
  have hn := eq_nil
  go_enter Tryd.func16, Tryd.ntmps16
  go_wp2_with fail
  go_ret2
  exact ⟨rfl, rfl⟩
set_option maxRecDepth 100000 in
set_option maxHeartbeats 2000000 in
theorem treeIncl_any (s : Int) (dg : Nat × Nat → Text) (hdg : ∀ p, (dg p).length = 32) (a b : Int) (Fi : FuncId) (first cap : Array Value) (w : World) (hB : Base w) (hT : TabAt 3 Lib.deBruijn64tab w) (hg : 3 < w.heap.size)
    (hfv : ∀ n : Nat, n ≤ 1099511627776 → a = (n : Int) → AtF dg n w (.func (.func Fi) first cap)) :
    Calls Tryd.prog 16 #[.int .i64 s, .int .i64 a, .int .i64 b, .func (.func Fi) first cap] w fun e w' => ∃ v n, e = .returned (.tuple #[v, .int .i64 (inclE a b)]) ∧ (inclRows a b).length = n ∧ w'.ownsRow w.heap.size 23 32 v n ((partsD s dg (inclRows a b)).flatMap cells8) ∧ Below w.heap.size w w' := by
  have hn := eq_fn Fi first cap
  obtain ⟨Fx, hFx⟩ : ∃ Fx, Value.func (.func Fi) first cap = Fx := ⟨_, rfl⟩
  by_cases h : insideB a b = true
  · have hh := inside_true h
    obtain ⟨x, rfl⟩ : ∃ x : Nat, a = (x : Int) := ⟨a.toNat, by omega⟩
    obtain ⟨y, rfl⟩ : ∃ y : Nat, b = (y : Int) := ⟨b.toNat, by omega⟩
    have hin := Lib.hid (inclRows_in (size := (x : Int)) (i := (y : Int)))
    have hlen := Lib.hid (inclRows_len (x : Int) (y : Int))
    have hrw : Hid (inclRows (x : Int) (y : Int) = wayR 0 x y) := by show _ = _; unfold inclRows; rw [if_pos h]; rfl
    have hE : inclE (x : Int) (y : Int) = 0 := by unfold inclE; rw [if_pos h]
    rw [hE]
    rw [hrw.out] at hin hlen ⊢
    obtain ⟨ps, hps⟩ : ∃ ps, Hid (wayR 0 x y = ps) := ⟨_, Lib.hid rfl⟩
    rw [hps.out] at hin hlen ⊢
    have hI := Lib.hid (fun w' => inside_any (x : Int) (y : Int) w')
    have hW := Lib.hid ((way_post x y (by omega) (by omega) w))
    rw [hps.out] at hW
    have hA := Lib.hid (fun n (hn : ps.length = n) A c w' (hr : Reads w' 2 A n (flatP ps)) (hb : Below w.heap.size w w') => asked_any s dg hdg x (by omega) ps (fun p hp => hin.out p hp) n hn (by rw [← hn]; exact hlen.out) A c _ w' (base_on hB hb) (tab_below hT hg hb) (by have := hb.size; omega) hr ((hfv x (by omega) rfl).below hb))
    rw [h] at hI
    clear hh hin hlen hrw hE hdg hB hT hg hfv hps h hFx
    go_enter Tryd.func16, Tryd.ntmps16
    go_wp2_with (first
      | (go_at_call 61; refine (hI.out _).mono ?_; rintro e w1 ⟨rfl, rfl⟩)
      | (go_at_call 63; refine hW.out.mono ?_; rintro e w1 ⟨v1, rfl, o1, b1⟩; obtain ⟨A1, c1, rfl, -, -, -, r1, -⟩ := Own.reads o1; replace r1 := Lib.hid r1; replace b1 := Lib.hid b1; clear o1)
      | (go_at_call 62; refine (hA.out _ rfl _ _ _ r1.out b1.out).mono ?_; rintro e w2 ⟨v2, rfl, o2, b2⟩; have ob : Hid (w2.ownsRow w.heap.size 23 32 v2 ps.length ((partsD s dg ps).flatMap cells8)) := own_low o2 b1.out.size; have bb : Hid (Below w.heap.size w w2) := b1.out.trans (b2.mono b1.out.size); clear o2 b2))
    go_ret2
    exact ⟨_, _, rfl, rfl, ob.out, bb.out⟩
  · have h' : insideB a b = false := by simpa using h
    have hrw : inclRows a b = [] := by unfold inclRows; rw [if_neg h]
    have hE : inclE a b = 60 := by unfold inclE; rw [if_neg h]
    rw [hrw, hE]
    have hI := Lib.hid (fun w' => inside_any a b w')
    rw [h'] at hI
    clear hdg hB hT hg hfv h h' hrw hE hFx
    go_enter Tryd.func16, Tryd.ntmps16
    go_wp2_with (go_at_call 61; refine (hI.out _).mono ?_; rintro e w1 ⟨rfl, rfl⟩)
    go_ret2
    exact ⟨_, _, rfl, rfl, World.ownsRow_nil _ _ _ _, Below.refl _ _⟩

set_option maxRecDepth 100000 in
set_option maxHeartbeats 2000000 in
theorem treeCons_nil (s a b : Int) (w : World) : Calls Tryd.prog 23 #[.int .i64 s, .int .i64 a, .int .i64 b, .nilFunc] w fun e w' => e = .returned (.tuple #[.slice none 0 0, .int .i64 1]) ∧ w = w' := by
  have hn := eq_nil
  go_enter Tryd.func23, Tryd.ntmps23
  go_wp2_with fail
  go_ret2
  exact ⟨rfl, rfl⟩
set_option maxRecDepth 100000 in
set_option maxHeartbeats 2000000 in
theorem treeCons_any (s : Int) (dg : Nat × Nat → Text) (hdg : ∀ p, (dg p).length = 32) (a b : Int) (Fi : FuncId) (first cap : Array Value) (w : World) (hB : Base w) (hT : TabAt 3 Lib.deBruijn64tab w) (hg : 3 < w.heap.size)
    (hfv : ∀ n : Nat, n ≤ 1099511627776 → b = (n : Int) → AtF dg n w (.func (.func Fi) first cap)) :
    Calls Tryd.prog 23 #[.int .i64 s, .int .i64 a, .int .i64 b, .func (.func Fi) first cap] w fun e w' => ∃ v n, e = .returned (.tuple #[v, .int .i64 (consE a b)]) ∧ (consRows a b).length = n ∧ w'.ownsRow w.heap.size 23 32 v n ((partsD s dg (consRows a b)).flatMap cells8) ∧ Below w.heap.size w w' := by
  have hn := eq_fn Fi first cap
  obtain ⟨Fx, hFx⟩ : ∃ Fx, Value.func (.func Fi) first cap = Fx := ⟨_, rfl⟩
  by_cases h : joinsB a b = true
  · have hh := joins_true h
    obtain ⟨x, rfl⟩ : ∃ x : Nat, a = (x : Int) := ⟨a.toNat, by omega⟩
    obtain ⟨y, rfl⟩ : ∃ y : Nat, b = (y : Int) := ⟨b.toNat, by omega⟩
    have hin := Lib.hid (consRows_in (old := (x : Int)) (size := (y : Int)))
    have hlen := Lib.hid (consRows_len (x : Int) (y : Int))
    have hrw : Hid (consRows (x : Int) (y : Int) = partsOf x y) := by show _ = _; unfold consRows; rw [if_pos h]; rfl
    have hE : consE (x : Int) (y : Int) = 0 := by unfold consE; rw [if_pos h]
    rw [hE]
    rw [hrw.out] at hin hlen ⊢
    obtain ⟨ps, hps⟩ : ∃ ps, Hid (partsOf x y = ps) := ⟨_, Lib.hid rfl⟩
    rw [hps.out] at hin hlen ⊢
    have hI := Lib.hid (fun w' => sizes_any (x : Int) (y : Int) w')
    have hW := Lib.hid ((parts_post x y (by omega) (by omega) w))
    rw [hps.out] at hW
    have hA := Lib.hid (fun n (hn : ps.length = n) A c w' (hr : Reads w' 2 A n (flatP ps)) (hb : Below w.heap.size w w') => asked_any s dg hdg y (by omega) ps (fun p hp => hin.out p hp) n hn (by rw [← hn]; exact hlen.out) A c _ w' (base_on hB hb) (tab_below hT hg hb) (by have := hb.size; omega) hr ((hfv y (by omega) rfl).below hb))
    rw [h] at hI
    clear hh hin hlen hrw hE hdg hB hT hg hfv hps h hFx
    go_enter Tryd.func23, Tryd.ntmps23
    go_wp2_with (first
      | (go_at_call 70; refine (hI.out _).mono ?_; rintro e w1 ⟨rfl, rfl⟩)
      | (go_at_call 71; refine hW.out.mono ?_; rintro e w1 ⟨v1, rfl, o1, b1⟩; obtain ⟨A1, c1, rfl, -, -, -, r1, -⟩ := Own.reads o1; replace r1 := Lib.hid r1; replace b1 := Lib.hid b1; clear o1)
      | (go_at_call 62; refine (hA.out _ rfl _ _ _ r1.out b1.out).mono ?_; rintro e w2 ⟨v2, rfl, o2, b2⟩; have ob : Hid (w2.ownsRow w.heap.size 23 32 v2 ps.length ((partsD s dg ps).flatMap cells8)) := own_low o2 b1.out.size; have bb : Hid (Below w.heap.size w w2) := b1.out.trans (b2.mono b1.out.size); clear o2 b2))
    go_ret2
    exact ⟨_, _, rfl, rfl, ob.out, bb.out⟩
  · have h' : joinsB a b = false := by simpa using h
    have hrw : consRows a b = [] := by unfold consRows; rw [if_neg h]
    have hE : consE a b = 60 := by unfold consE; rw [if_neg h]
    rw [hrw, hE]
    have hI := Lib.hid (fun w' => sizes_any a b w')
    rw [h'] at hI
    clear hdg hB hT hg hfv h h' hrw hE hFx
    go_enter Tryd.func23, Tryd.ntmps23
    go_wp2_with (go_at_call 70; refine (hI.out _).mono ?_; rintro e w1 ⟨rfl, rfl⟩)
    go_ret2
    exact ⟨_, _, rfl, rfl, World.ownsRow_nil _ _ _ _, Below.refl _ _⟩
end Go.Proofs.YtgldkfaiofkhbaaDoor.ProveW

namespace Go.Proofs.YtgldkfaiofkhbaaDoor.Ways
open Go Go.RowKit Go.Proofs.YtgldkfaiofkhbaaDoor Go.Proofs.YtgldkfaiofkhbaaDoor.Digest Go.Proofs.YtgldkfaiofkhbaaDoor.Mem Go.Proofs.YtgldkfaiofkhbaaDoor.Sha Go.Proofs.YtgldkfaiofkhbaaDoor.ShaWalk Go.Proofs.YtgldkfaiofkhbaaDoor.Bytes Go.Proofs.YtgldkfaiofkhbaaDoor.HashMem Go.Proofs.YtgldkfaiofkhbaaDoor.DigestMem Go.Proofs.YtgldkfaiofkhbaaDoor.DigestTop Go.Proofs.YtgldkfaiofkhbaaDoor.RefTop Go.Proofs.YtgldkfaiofkhbaaDoor.QuietTail Go.Proofs.YtgldkfaiofkhbaaDoor.Grown Go.Proofs.YtgldkfaiofkhbaaDoor.Chain Go.Proofs.YtgldkfaiofkhbaaDoor.TreeMath Go.Proofs.YtgldkfaiofkhbaaDoor.TreeMem Go.Proofs.YtgldkfaiofkhbaaDoor.TreeRoot Go.Proofs.YtgldkfaiofkhbaaDoor.TreeFold Go.Proofs.YtgldkfaiofkhbaaDoor.Append Go.Proofs.YtgldkfaiofkhbaaDoor.Book Go.Proofs.YtgldkfaiofkhbaaDoor.TreeRefRoot Go.Proofs.YtgldkfaiofkhbaaDoor.Held Go.Proofs.YtgldkfaiofkhbaaDoor.WayP Go.Proofs.YtgldkfaiofkhbaaDoor.SpotsMath Go.Proofs.YtgldkfaiofkhbaaDoor.SpotsWalk Go.Proofs.YtgldkfaiofkhbaaDoor.AskP Go.Proofs.YtgldkfaiofkhbaaDoor.Told Go.Proofs.YtgldkfaiofkhbaaDoor.AskW Go.Proofs.YtgldkfaiofkhbaaDoor.WayRows Go.Proofs.YtgldkfaiofkhbaaDoor.ProveP Go.Proofs.YtgldkfaiofkhbaaDoor.RefRows

set_option maxRecDepth 100000 in
set_option maxHeartbeats 4000000 in
theorem ways_any (s : Int) (hs63 : s < 9223372036854775808) (dg : Nat × Nat → Text) (hdg : ∀ p, (dg p).length = 32) (size : Nat) (hs : size ≤ 1099511627776) (ps : List (Nat × Nat)) (hps : ∀ p ∈ ps, p.1 ≤ p.2 ∧ p.2 ≤ size) (m : Nat) (hm : ps.length = m) (hm40 : m ≤ 1099511627776) (A : Option Addr) (c : Nat) (fv : Value) (w : World)
    (hr : Reads w 2 A m (flatP ps)) (hfv : AtF dg size w fv) :
    Calls Tryd.prog 92 #[.int .i64 s, .slice A m c, fv] w fun e w' => ∃ v, e = .returned v ∧ w'.ownsRow w.heap.size 23 32 v m ((partsD s dg ps).flatMap cells8) ∧ Below w.heap.size w w' := by
  obtain ⟨i0, ii, iz0, iz1, iz2⟩ := info_partsN info32
  obtain ⟨Fi, fn, first, cap, rfl, hf1, hf2, hf3, hf4⟩ := hfv
  obtain ⟨pd, hpd⟩ : ∃ pd, Hid (partD s dg = pd) := ⟨_, Lib.hid rfl⟩
  have hpl : Hid (∀ p, (pd p).length = 32) := fun p => by rw [← hpd.out]; exact foldOf_len s _ (digs_map hdg _)
  have hpD : Hid (partsD s dg ps = ps.map pd) := by show _ = _; rw [← hpd.out]; rfl
  rw [hpD.out]
  have hcf := Lib.hid (run_fnA hf1 hf2 hf3)
  have hSpots : Hid (∀ q : Nat × Nat, q.1 ≤ q.2 → q.2 ≤ size → ∃ (S : List (Nat × Nat)) (k : Nat), S.length = k ∧ k ≤ 1099511627776 ∧ (∀ p ∈ S, p.1 ≤ 40 ∧ (p.2 + 1) * 2 ^ p.1 ≤ size) ∧ foldOf s (S.map dg) = pd q ∧ ∀ w', Calls Tryd.prog 137 #[.int .i64 (q.1 : Int), .int .i64 (q.2 : Int)] w' fun e w'' => ∃ A1 c1, e = .returned (.slice A1 k c1) ∧ k ≤ c1 ∧ Reads w'' 2 A1 k (flat S) ∧ Below w'.heap.size w' w'') := fun q h1 h2 => by
    refine ⟨spots (q.2 - q.1) q.1 q.2, _, rfl, ?_, fun p hp => ?_, by rw [← hpd.out]; rfl, fun w' => ?_⟩
    · have := spots_len (q.2 - q.1) q.1 q.2
      omega
    · have := spots_inside (q.2 - q.1) q.1 q.2 p hp
      exact ⟨this.1, by omega⟩
    · have := ref_spots (q.1 : Int) (q.2 : Int) (by omega) (by omega) (by omega) (by omega) w'
      rw [spotsZ_in (by omega)] at this
      refine this.mono ?_
      rintro e w'' ⟨v, rfl, o, b⟩
      obtain ⟨A1, c1, rfl, h1, -, -, r, -⟩ := Own.reads o
      exact ⟨A1, c1, rfl, h1, r, b⟩
  have hO0 : Hid (w.ownsRow w.heap.size 23 32 (.slice none 0 0) 0 (((ps.take 0).map pd).flatMap cells8)) := World.ownsRow_nil _ _ _ _
  replace hs63 := Lib.hid hs63
  replace hdg := Lib.hid hdg
  replace hf4 := Lib.hid hf4
  replace hm := Lib.hid hm
  replace hm40 := Lib.hid hm40
  replace hps := Lib.hid hps
  replace hr := Lib.hid hr
  clear hs hf1 hf2 hf3 hpD hpd
  go_enter Tryd.func92, Tryd.ntmps92
  go_wp2_with fail
  go_loopw [7, 8] (fun u v wr => ∃ (j : Nat) (uu : Value), u = uu ∧ v = .int .i64 (j : Int) ∧ Hid (j ≤ m) ∧ Hid (wr.ownsRow w.heap.size 23 32 uu j (((ps.take j).map pd).flatMap cells8)) ∧ Hid (Below w.heap.size w wr)) (fun _ v _ => m - (intOf v).toNat)
  case atStart => exact ⟨0, _, rfl, rfl, Nat.zero_le _, hO0.out, Below.refl _ _⟩
  case round =>
    clear hO0
    obtain ⟨j, uu, huu, rfl, hj, hO, hb⟩ := hrel
    rw [huu]
    clear huu
    by_cases hlt : j < m
    · have y1 : (j : Int) < (m : Int) := by omega
      have y2 : (0 : Int) ≤ (j : Int) := by omega
      have y3 : IntKind.i64.wrap ((j : Int) + 1) = (j : Int) + 1 := IntWalk.i64_in _ (by have := hm40.out; omega)
      obtain ⟨q, hq⟩ : ∃ q, Hid (ps[j]? = some q) := ⟨_, List.getElem?_eq_getElem (by rw [hm.out]; exact hlt)⟩
      have hqi := hps.out q (List.mem_of_getElem? hq.out)
      obtain ⟨b, o, rfl, hbl, hcq⟩ := flatP_cells hr.out hm.out hq.out
      have hc : Hid (∀ w', Below wr.heap.size wr w' → w'.cell? ⟨b, o + j * 2, none⟩ = some (.int .i64 (q.1 : Int)) ∧ w'.cell? ⟨b, o + j * 2 + 1, none⟩ = some (.int .i64 (q.2 : Int))) := fun w' hb' => by
        have := hcq w' (hb.out.trans (hb'.mono hb.out.size))
        exact ⟨this 0 _ rfl, this 1 _ rfl⟩
      obtain ⟨S, k, hk, hk40, hin, hxS, hSp⟩ := hSpots.out q hqi.1 hqi.2
      replace hk := Lib.hid hk
      replace hk40 := Lib.hid hk40
      replace hin := Lib.hid hin
      replace hSp := Lib.hid hSp
      obtain ⟨x, hx⟩ : ∃ x, Hid (pd q = x) := ⟨_, Lib.hid rfl⟩
      have hxl : Hid (x.length = 32) := by show _ = _; rw [← hx.out]; exact hpl.out q
      rw [hx.out] at hxS
      replace hxS := Lib.hid hxS
      have hjm : Hid (j + 1 ≤ m) := by show _ ≤ _; omega
      have s0 : Hid (Below wr.heap.size wr wr.drew) := (Below.refl _ _).drew
      clear hlt hqi hcq hbl
      go_wp2_with fail
      refine held_start (fun w' => Below wr.heap.size wr w') 12 rfl (by kernel_rfl) ?_
      refine held_take (i := 0) (v := .slice (some ⟨b, o, none⟩) m c) rfl (by kernel_rfl) (by kernel_rfl) (by kernel_rfl) (fun _ _ _ h => h) s0.out (by rfl) (fun w' hw' => run_mv (.tmp 1) rfl w') ?_
      (intro K hK; go_simp; refine hK _ ?_; clear hK K)
      refine held_take (i := 1) (v := .int .i64 (j : Int)) rfl (by kernel_rfl) (by kernel_rfl) (by kernel_rfl) (fun _ _ _ h => h) s0.out (by rfl) (fun w' hw' => run_mv (.tmp 8) rfl w') ?_
      (intro K hK; go_simp; refine hK _ ?_; clear hK K)
      refine held_take (i := 2) (v := .pointer (some ⟨b, o + j * 2, none⟩)) rfl (by kernel_rfl) (by kernel_rfl) (by kernel_rfl) (fun _ _ _ h => h) s0.out (by rfl) (fun w' hw' => by go_simp) ?_
      (intro K hK; go_simp; refine hK _ ?_; clear hK K)
      refine held_take (i := 3) (v := .pointer (some ⟨b, o + j * 2, none⟩)) rfl (by kernel_rfl) (by kernel_rfl) (by kernel_rfl) (fun _ _ _ h => h) s0.out (by rfl) (fun w' hw' => by go_simp) ?_
      (intro K hK; go_simp; refine hK _ ?_; clear hK K)
      refine held_take (i := 4) (v := .int .i64 (q.1 : Int)) rfl (by kernel_rfl) (by kernel_rfl) (by kernel_rfl) (fun _ _ _ h => h) s0.out (by rfl) (fun w' hw' => by have h := (hc.out w' hw').1; go_simp) ?_
      (intro K hK; go_simp; refine hK _ ?_; clear hK K)
      refine held_take (i := 5) (v := .slice (some ⟨b, o, none⟩) m c) rfl (by kernel_rfl) (by kernel_rfl) (by kernel_rfl) (fun _ _ _ h => h) s0.out (by rfl) (fun w' hw' => run_mv (.tmp 1) rfl w') ?_
      (intro K hK; go_simp; refine hK _ ?_; clear hK K)
      refine held_take (i := 6) (v := .int .i64 (j : Int)) rfl (by kernel_rfl) (by kernel_rfl) (by kernel_rfl) (fun _ _ _ h => h) s0.out (by rfl) (fun w' hw' => run_mv (.tmp 8) rfl w') ?_
      (intro K hK; go_simp; refine hK _ ?_; clear hK K)
      refine held_take (i := 7) (v := .pointer (some ⟨b, o + j * 2, none⟩)) rfl (by kernel_rfl) (by kernel_rfl) (by kernel_rfl) (fun _ _ _ h => h) s0.out (by rfl) (fun w' hw' => by go_simp) ?_
      (intro K hK; go_simp; refine hK _ ?_; clear hK K)
      refine held_take (i := 8) (v := .pointer (some ⟨b, o + j * 2 + 1, none⟩)) rfl (by kernel_rfl) (by kernel_rfl) (by kernel_rfl) (fun _ _ _ h => h) s0.out (by rfl) (fun w' hw' => by go_simp) ?_
      (intro K hK; go_simp; refine hK _ ?_; clear hK K)
      refine held_take (i := 9) (v := .int .i64 (q.2 : Int)) rfl (by kernel_rfl) (by kernel_rfl) (by kernel_rfl) (fun _ _ _ h => h) s0.out (by rfl) (fun w' hw' => by have h := (hc.out w' hw').2; go_simp) ?_
      (intro K hK; go_simp; refine hK _ ?_; clear hK K)
      refine held_only (i := 10) rfl (by kernel_rfl) (by rfl) (fun K hK => ?_)
      refine wp_fn (R := fun v w'' => ∃ A1 c1, v = .slice A1 k c1 ∧ k ≤ c1 ∧ Reads w'' 2 A1 k (flat S) ∧ Below wr.heap.size wr w'') (args := #[.int .i64 (q.1 : Int), .int .i64 (q.2 : Int)]) _ _ rfl rfl Tryd.func137 (by kernel_rfl) (by kernel_rfl) ((hSp.out wr.drew).mono fun e w'' ⟨A1, c1, he, h1, h2, h3⟩ => ⟨_, he, A1, c1, rfl, h1, h2, s0.out.trans (h3.mono (Nat.le_refl _))⟩) ?_
      rintro q1 w1 ⟨A1, c1, rfl, hkc, r1, b1⟩
      replace r1 := Lib.hid r1
      replace b1 := Lib.hid b1
      replace hkc := Lib.hid hkc
      go_simp
      refine hK _ _ b1.out ?_
      clear hK K
      refine held_take (i := 11) (v := .slice A1 k c1) rfl (by kernel_rfl) (by kernel_rfl) (by kernel_rfl) (fun _ _ _ h => h) b1.out (by rfl) (fun w' hw' => by first | go_simp | rfl) ?_
      (intro K hK; go_simp; refine hK _ ?_; clear hK K)
      refine held_end (by kernel_rfl) ?_
      have hb1 : Hid (Below w.heap.size w w1) := hb.out.trans (b1.out.mono hb.out.size)
      have hO1 := Lib.hid (own_below hO.out b1.out)
      clear hc hSp s0 b1 hO hb
      go_wp2_with fail
      go_loopw [10, 11] (fun u v wr => ∃ (i : Nat) (vv : Value), u = vv ∧ v = .int .i64 (i : Int) ∧ Hid (i ≤ k) ∧ Hid (wr.ownsRow w1.heap.size 23 32 vv i (((S.take i).map dg).flatMap cells8)) ∧ Hid (Below w1.heap.size w1 wr)) (fun _ v _ => k - (intOf v).toNat)
      case atStart => exact ⟨0, _, rfl, rfl, Nat.zero_le _, World.ownsRow_nil _ _ _ _, Below.refl _ _⟩
      case round =>
        obtain ⟨i, vv, hvv, rfl, hi, hOi, hbi⟩ := hrel
        rw [hvv]
        clear hvv
        by_cases hik : i < k
        · have y4 : (i : Int) < (k : Int) := by omega
          have y5 : (0 : Int) ≤ (i : Int) := by omega
          have y6 : IntKind.i64.wrap ((i : Int) + 1) = (i : Int) + 1 := IntWalk.i64_in _ (by have := hk40.out; omega)
          obtain ⟨p, hp⟩ : ∃ p, Hid (S[i]? = some p) := ⟨_, List.getElem?_eq_getElem (by rw [hk.out]; exact hik)⟩
          have hpi := Lib.hid (hin.out p (List.mem_of_getElem? hp.out))
          obtain ⟨b2, o2, rfl, hb2l, hc2⟩ := flat_cells r1.out hk.out hp.out
          replace hc2 := Lib.hid (hc2 wr hbi.out)
          have hpl : Hid ((pcells p).length = 2) := rfl
          obtain ⟨d, hd⟩ : ∃ d, Hid (dg p = d) := ⟨_, Lib.hid rfl⟩
          have hdl : Hid (d.length = 32) := by show _ = _; rw [← hd.out]; exact hdg.out p
          have hwi : Hid (Below w.heap.size w wr) := hb1.out.trans (hbi.out.mono hb1.out.size)
          have hCall := Lib.hid (hf4.out wr hwi.out p hpi.out.1 hpi.out.2)
          rw [hd.out] at hCall
          have hup : Hid (((S.take (i + 1)).map dg).flatMap cells8 = ((S.take i).map dg).flatMap cells8 ++ cells8 d) := by
            show _ = _
            rw [map_snoc dg S i p hp.out, List.flatMap_append, List.flatMap_singleton, hd.out]
          have hjk : Hid (i + 1 ≤ k) := by show _ ≤ _; omega
          clear hik hpi hp hd
          go_wp2_with (first
            | ((with_reducible change wpList _ _ _ ({ dst := some 40, op := _, type := _, pos := _, after := _, guard := _ } :: _) _ _); refine wpList_load_part (o := ⟨some 40, _, _, _, _, _⟩) rfl 129 (.tmp 39) rfl (b2) ((o2 + i * 2)) rfl (pcells p) _ hc2.out Tryd.underlying129 rfl rfl ?_))
          rw [hcf.out]
          refine Calls.mono hCall.out ?_
          rintro e w3 ⟨rfl, b3⟩
          have hO3 := Lib.hid (own_below hOi.out b3)
          have hb3 : Hid (Below w1.heap.size w1 w3) := hbi.out.trans (b3.mono hbi.out.size)
          have q1 : Hid (∀ v ∈ [cells8 d], v.length = 32) := by intro v hv; simp only [List.mem_singleton] at hv; rw [hv, cells8_len, hdl.out]
          have x1 : Hid ([cells8 d].flatten.toArray = (cells8 d).toArray) := by show _ = _; simp
          have hnew : Hid (Reads (w3.alloc (.cells (cells8 d).toArray 23)) 32 (some ⟨w3.heap.size, 0, none⟩) 1 (cells8 d)) := Blk.reads (Blk.new w3 23 (cells8 d).toArray) 0 _ (by rw [cells8_len, hdl.out]) (fun k u hu => by rw [Nat.zero_add, List.getElem?_toArray]; exact hu)
          have hO4 : Hid ((w3.alloc (.cells (cells8 d).toArray 23)).ownsRow w1.heap.size 23 32 vv i (((S.take i).map dg).flatMap cells8)) := own_below hO3.out (Below.heap_below _ _)
          have hb4 : Hid (Below w1.heap.size w1 (w3.alloc (.cells (cells8 d).toArray 23))) := hb3.out.alloc hb3.out.size _
          have hs4 : Hid (w1.heap.size ≤ (w3.alloc (.cells (cells8 d).toArray 23)).heap.size) := hb4.out.size
          have hc1 : Hid (i + 1 ≤ maxLen) := by have := hk40.out; have := hjk.out; show _ ≤ _; unfold maxLen; omega
          have hc3 : Hid ((i + 1) * 32 ≤ 140737488355328) := by have := hk40.out; have := hjk.out; show _ ≤ _; omega
          clear b3 hCall hOi hO3 hbi hb3 hc2 hwi
          go_wp2_with (first
            | ((with_reducible change wpList _ _ _ ({ dst := some 42, op := _, type := _, pos := _, after := _, guard := _ } :: _) _ _); refine wpList_buildAggs (o := ⟨some 42, _, _, _, _, _⟩) rfl 42 23 1 _ rfl 32 (by decide) [cells8 d] Tryd.underlying42 size31 zero31 rfl (by decide) (by decide) q1.out rfl ?_; rw [x1.out])
            | ((with_reducible change wpList _ _ _ ({ dst := some 43, op := _, type := _, pos := _, after := _, guard := _ } :: _) _ _); refine wpList_append_src _ (o := ⟨some 43, _, _, _, _, _⟩) rfl (.tmp 35) (.tmp 42) 42 rfl w1.heap.size 23 i0 (.agg Z32) 32 32 Tryd.underlying42 ii iz0 iz1 iz2 rfl (by decide) vv i (((S.take i).map dg).flatMap cells8) rfl hO4.out (some ⟨w3.heap.size, 0, none⟩) 1 1 (cells8 d) rfl hnew.out (fun e => by cases e) (cells8_one d) hc1.out hc3.out hs4.out ?_; intro v5 w5 hG; have hO5 : Hid (w5.ownsRow w1.heap.size 23 32 v5 (i + 1) (((S.take (i + 1)).map dg).flatMap cells8)) := (by show World.ownsRow _ _ _ _ _ _ _; rw [hup.out]; exact hG.own); have hb5 : Hid (Below w1.heap.size w1 w5) := hG.below hb4.out hs4.out (fun k e => (hO4.out.lt k e).1); clear hG))
          go_roundw
          case rel => exact ⟨i + 1, v5, rfl, by go_num, hjk.out, hO5.out, hb5.out⟩
          case measure => (have := hjk.out; simp [intOf]; omega)
        · have z1 : decide ((i : Int) < (k : Int)) = false := decide_eq_false (by omega)
          obtain rfl : i = k := by have := hi.out; omega
          rw [show S.take i = S from List.take_of_length_le (by rw [hk.out]; exact Nat.le_refl _)] at hOi
          obtain ⟨A5, c5, rfl, hnc5, -, -, r5, -⟩ := Own.reads hOi.out
          have hrd := Lib.hid (own_rd hOi.out (digs_map hdg.out S) (by rw [List.length_map, hk.out]) A5 c5 rfl)
          have hfold := Lib.hid (reffold_any s hs63.out (S.map dg) i (by have := hk40.out; omega) A5 c5 hnc5 wr hrd.out)
          rw [hxS.out] at hfold
          have hOo := Lib.hid (own_below hO1.out hbi.out)
          have hbo : Hid (Below w.heap.size w wr) := hb1.out.trans (hbi.out.mono hb1.out.size)
          have hup : Hid (((ps.take (j + 1)).map pd).flatMap cells8 = ((ps.take j).map pd).flatMap cells8 ++ cells8 x) := by
            show _ = _
            rw [map_snoc pd ps j q hq.out, List.flatMap_append, List.flatMap_singleton, hx.out]
          have q1 : Hid (∀ v ∈ [cells8 x], v.length = 32) := by intro v hv; simp only [List.mem_singleton] at hv; rw [hv, cells8_len, hxl.out]
          have x1 : Hid ([cells8 x].flatten.toArray = (cells8 x).toArray) := by show _ = _; simp
          have hc1 : Hid (j + 1 ≤ maxLen) := by have := hm40.out; have := hjm.out; show _ ≤ _; unfold maxLen; omega
          have hc3 : Hid ((j + 1) * 32 ≤ 140737488355328) := by have := hm40.out; have := hjm.out; show _ ≤ _; omega
          clear hik hi hOi r5 hrd hbi hO1 hb1 hnc5 r1
          go_wp2_with (first
            | (go_at_call 138; refine hfold.out.mono ?_; rintro e w6 ⟨rfl, b6⟩; have hO6 := Lib.hid (own_below hOo.out b6); have hb6 : Hid (Below w.heap.size w w6) := hbo.out.trans (b6.mono hbo.out.size); have hnew : Hid (Reads (w6.alloc (.cells (cells8 x).toArray 23)) 32 (some ⟨w6.heap.size, 0, none⟩) 1 (cells8 x)) := Blk.reads (Blk.new w6 23 (cells8 x).toArray) 0 _ (by rw [cells8_len, hxl.out]) (fun k u hu => by rw [Nat.zero_add, List.getElem?_toArray]; exact hu); have hO7 : Hid ((w6.alloc (.cells (cells8 x).toArray 23)).ownsRow w.heap.size 23 32 uu j (((ps.take j).map pd).flatMap cells8)) := own_below hO6.out (Below.heap_below _ _); have hb7 : Hid (Below w.heap.size w (w6.alloc (.cells (cells8 x).toArray 23))) := hb6.out.alloc hb6.out.size _; have hs7 : Hid (w.heap.size ≤ (w6.alloc (.cells (cells8 x).toArray 23)).heap.size) := hb7.out.size; clear b6 hO6 hb6)
            | ((with_reducible change wpList _ _ _ ({ dst := some 48, op := _, type := _, pos := _, after := _, guard := _ } :: _) _ _); refine wpList_buildAggs (o := ⟨some 48, _, _, _, _, _⟩) rfl 42 23 1 _ rfl 32 (by decide) [cells8 x] Tryd.underlying42 size31 zero31 rfl (by decide) (by decide) q1.out rfl ?_; rw [x1.out])
            | ((with_reducible change wpList _ _ _ ({ dst := some 49, op := _, type := _, pos := _, after := _, guard := _ } :: _) _ _); refine wpList_append_src _ (o := ⟨some 49, _, _, _, _, _⟩) rfl (.tmp 44) (.tmp 48) 42 rfl w.heap.size 23 i0 (.agg Z32) 32 32 Tryd.underlying42 ii iz0 iz1 iz2 rfl (by decide) uu j (((ps.take j).map pd).flatMap cells8) rfl hO7.out (some ⟨w6.heap.size, 0, none⟩) 1 1 (cells8 x) rfl hnew.out (fun e => by cases e) (cells8_one x) hc1.out hc3.out hs7.out ?_; intro v8 w8 hG; have hO8 : Hid (w8.ownsRow w.heap.size 23 32 v8 (j + 1) (((ps.take (j + 1)).map pd).flatMap cells8)) := (by show World.ownsRow _ _ _ _ _ _ _; rw [hup.out]; exact hG.own); have hb8 : Hid (Below w.heap.size w w8) := hG.below hb7.out hs7.out (fun k e => (hO7.out.lt k e).1); clear hG))
          go_roundw
          case rel => exact ⟨j + 1, v8, rfl, by go_num, hjm.out, hO8.out, hb8.out⟩
          case measure => (have := hjm.out; simp [intOf]; omega)
    · have z1 : decide ((j : Int) < (m : Int)) = false := decide_eq_false (by omega)
      obtain rfl : j = m := by have := hj.out; omega
      rw [show ps.take j = ps from List.take_of_length_le (by rw [hm.out]; exact Nat.le_refl _)] at hO
      clear hlt hj
      go_wp2_with fail
      go_ret
      exact ⟨_, rfl, hO.out, hb.out⟩
set_option maxRecDepth 100000 in
set_option maxHeartbeats 2000000 in
theorem waysIncl_any (s : Int) (hs63 : s < 9223372036854775808) (dg : Nat × Nat → Text) (hdg : ∀ p, (dg p).length = 32) (a b : Int) (fv : Value) (w : World) (hfv : ∀ n : Nat, n ≤ 1099511627776 → a = (n : Int) → AtF dg n w fv) (hf0 : ∃ F first cap, fv = .func (.func F) first cap ∧ AtF dg 0 w fv) :
    Calls Tryd.prog 42 #[.int .i64 s, .int .i64 a, .int .i64 b, fv] w fun e w' => ∃ v n, e = .returned (.tuple #[v, .int .i64 (inclE a b)]) ∧ (inclRows a b).length = n ∧ w'.ownsRow w.heap.size 23 32 v n ((partsD s dg (inclRows a b)).flatMap cells8) ∧ Below w.heap.size w w' := by
  obtain ⟨ps, hps⟩ : ∃ ps, Hid (inclRows a b = ps) := ⟨_, Lib.hid rfl⟩
  have hR := Lib.hid (refInclRows_any a b w)
  have hin := Lib.hid (inclRows_in (size := a) (i := b))
  have hlen := Lib.hid (inclRows_len a b)
  have hat : Hid (∃ z : Nat, z ≤ 1099511627776 ∧ AtF dg z w fv ∧ ∀ p ∈ ps, p.1 ≤ p.2 ∧ p.2 ≤ z) := by
    by_cases h : 0 ≤ a ∧ a ≤ 1099511627776
    · exact ⟨a.toNat, by omega, hfv _ (by omega) (by omega), fun p hp => hin.out p (by rw [hps.out]; exact hp)⟩
    · have : ps = [] := by rw [← hps.out]; unfold inclRows; rw [if_neg (fun hh => by have := inside_true hh; omega)]
      exact ⟨0, by omega, hf0.choose_spec.choose_spec.choose_spec.2, fun p hp => by rw [this] at hp; cases hp⟩
  rw [hps.out] at hR hlen ⊢
  obtain ⟨F0, first0, cap0, rfl, -⟩ := hf0
  obtain ⟨z, hz, hz2, hz3⟩ := hat.out
  have hOf := Lib.hid (fun n (hn : ps.length = n) A c w' (hr : Reads w' 2 A n (flatP ps)) (hb : Below w.heap.size w w') => ways_any s hs63 dg hdg z hz ps hz3 n hn (by rw [← hn]; exact hlen.out) A c _ w' hr (hz2.below hb))
  clear hin hat hz hz2 hz3 hlen hps hfv hdg hs63
  go_enter Tryd.func42, Tryd.ntmps42
  go_wp2_with (first
    | (go_at_call 91; refine hR.out.mono ?_; rintro e w1 ⟨v1, n1, rfl, hn1, o1, b1⟩; obtain ⟨A1, c1, rfl, -, -, -, r1, -⟩ := Own.reads o1; replace r1 := Lib.hid r1; replace b1 := Lib.hid b1; replace hn1 := Lib.hid hn1; clear o1)
    | (go_at_call 92; refine (hOf.out _ hn1.out _ _ _ r1.out b1.out).mono ?_; rintro e w2 ⟨v2, rfl, o2, b2⟩; have ob := Lib.hid (own_low o2 b1.out.size); have bb : Hid (Below w.heap.size w w2) := b1.out.trans (b2.mono b1.out.size); clear o2 b2))
  go_ret2
  exact ⟨_, _, rfl, hn1.out, ob.out, bb.out⟩
set_option maxRecDepth 100000 in
set_option maxHeartbeats 2000000 in
theorem waysCons_any (s : Int) (hs63 : s < 9223372036854775808) (dg : Nat × Nat → Text) (hdg : ∀ p, (dg p).length = 32) (a b : Int) (fv : Value) (w : World) (hfv : ∀ n : Nat, n ≤ 1099511627776 → b = (n : Int) → AtF dg n w fv) (hf0 : ∃ F first cap, fv = .func (.func F) first cap ∧ AtF dg 0 w fv) :
    Calls Tryd.prog 44 #[.int .i64 s, .int .i64 a, .int .i64 b, fv] w fun e w' => ∃ v n, e = .returned (.tuple #[v, .int .i64 (consE a b)]) ∧ (consRows a b).length = n ∧ w'.ownsRow w.heap.size 23 32 v n ((partsD s dg (consRows a b)).flatMap cells8) ∧ Below w.heap.size w w' := by
  obtain ⟨ps, hps⟩ : ∃ ps, Hid (consRows a b = ps) := ⟨_, Lib.hid rfl⟩
  have hR := Lib.hid (refConsRows_any a b w)
  have hin := Lib.hid (consRows_in (old := a) (size := b))
  have hlen := Lib.hid (consRows_len a b)
  have hat : Hid (∃ z : Nat, z ≤ 1099511627776 ∧ AtF dg z w fv ∧ ∀ p ∈ ps, p.1 ≤ p.2 ∧ p.2 ≤ z) := by
    by_cases h : 0 ≤ b ∧ b ≤ 1099511627776
    · exact ⟨b.toNat, by omega, hfv _ (by omega) (by omega), fun p hp => hin.out p (by rw [hps.out]; exact hp)⟩
    · have : ps = [] := by rw [← hps.out]; unfold consRows; rw [if_neg (fun hh => by have := joins_true hh; omega)]
      exact ⟨0, by omega, hf0.choose_spec.choose_spec.choose_spec.2, fun p hp => by rw [this] at hp; cases hp⟩
  rw [hps.out] at hR hlen ⊢
  obtain ⟨F0, first0, cap0, rfl, -⟩ := hf0
  obtain ⟨z, hz, hz2, hz3⟩ := hat.out
  have hOf := Lib.hid (fun n (hn : ps.length = n) A c w' (hr : Reads w' 2 A n (flatP ps)) (hb : Below w.heap.size w w') => ways_any s hs63 dg hdg z hz ps hz3 n hn (by rw [← hn]; exact hlen.out) A c _ w' hr (hz2.below hb))
  clear hin hat hz hz2 hz3 hlen hps hfv hdg hs63
  go_enter Tryd.func44, Tryd.ntmps44
  go_wp2_with (first
    | (go_at_call 93; refine hR.out.mono ?_; rintro e w1 ⟨v1, n1, rfl, hn1, o1, b1⟩; obtain ⟨A1, c1, rfl, -, -, -, r1, -⟩ := Own.reads o1; replace r1 := Lib.hid r1; replace b1 := Lib.hid b1; replace hn1 := Lib.hid hn1; clear o1)
    | (go_at_call 92; refine (hOf.out _ hn1.out _ _ _ r1.out b1.out).mono ?_; rintro e w2 ⟨v2, rfl, o2, b2⟩; have ob := Lib.hid (own_low o2 b1.out.size); have bb : Hid (Below w.heap.size w w2) := b1.out.trans (b2.mono b1.out.size); clear o2 b2))
  go_ret2
  exact ⟨_, _, rfl, hn1.out, ob.out, bb.out⟩
end Go.Proofs.YtgldkfaiofkhbaaDoor.Ways

namespace Go.Proofs.YtgldkfaiofkhbaaDoor.TreeProves
open Go Go.RowKit Go.Proofs.YtgldkfaiofkhbaaDoor Go.Proofs.YtgldkfaiofkhbaaDoor.Digest Go.Proofs.YtgldkfaiofkhbaaDoor.Mem Go.Proofs.YtgldkfaiofkhbaaDoor.Sha Go.Proofs.YtgldkfaiofkhbaaDoor.ShaWalk Go.Proofs.YtgldkfaiofkhbaaDoor.Bytes Go.Proofs.YtgldkfaiofkhbaaDoor.HashMem Go.Proofs.YtgldkfaiofkhbaaDoor.DigestMem Go.Proofs.YtgldkfaiofkhbaaDoor.DigestTop Go.Proofs.YtgldkfaiofkhbaaDoor.RefTop Go.Proofs.YtgldkfaiofkhbaaDoor.QuietTail Go.Proofs.YtgldkfaiofkhbaaDoor.Grown Go.Proofs.YtgldkfaiofkhbaaDoor.Chain Go.Proofs.YtgldkfaiofkhbaaDoor.TreeMath Go.Proofs.YtgldkfaiofkhbaaDoor.TreeMem Go.Proofs.YtgldkfaiofkhbaaDoor.TreeRoot Go.Proofs.YtgldkfaiofkhbaaDoor.TreeFold Go.Proofs.YtgldkfaiofkhbaaDoor.Append Go.Proofs.YtgldkfaiofkhbaaDoor.Book Go.Proofs.YtgldkfaiofkhbaaDoor.Book2 Go.Proofs.YtgldkfaiofkhbaaDoor.TreeRefRoot Go.Proofs.YtgldkfaiofkhbaaDoor.WayP Go.Proofs.YtgldkfaiofkhbaaDoor.SpotsWalk Go.Proofs.YtgldkfaiofkhbaaDoor.AskP Go.Proofs.YtgldkfaiofkhbaaDoor.Told Go.Proofs.YtgldkfaiofkhbaaDoor.Ask Go.Proofs.YtgldkfaiofkhbaaDoor.AskW Go.Proofs.YtgldkfaiofkhbaaDoor.ProveP Go.Proofs.YtgldkfaiofkhbaaDoor.ProveW Go.Proofs.YtgldkfaiofkhbaaDoor.Ways

theorem digs_parts (s : Int) {dg : Nat × Nat → Text} (h : ∀ p, (dg p).length = 32) (ps : List (Nat × Nat)) : Digs (partsD s dg ps) := fun d hd => by
  obtain ⟨p, _, rfl⟩ := List.mem_map.1 hd
  exact foldOf_len s _ (digs_map h _)
/-- What both sides answer: a row of the digests, the refusal. -/
def Ans (w : World) (L : List Text) (k : Int) (e : Ending) (w' : World) : Prop := ∃ A n c, e = .returned (.tuple #[.slice A n c, .int .i64 k]) ∧ n < 140737488355328 ∧ RdD w' A n L ∧ Below w.heap.size w w'
theorem ans_of {w w' : World} {L : List Text} {k : Int} {m : Nat} {v : Value} {n : Nat} {e : Ending} (hd : Digs L) (hl : L.length = m) (h47 : m < 140737488355328) (he : e = .returned (.tuple #[v, .int .i64 k])) (hn : m = n) (ho : w'.ownsRow w.heap.size 23 32 v n (L.flatMap cells8)) (hb : Below w.heap.size w w') : Ans w L k e w' := by
  subst hn
  obtain ⟨A, c, rfl, -⟩ := Own.reads ho
  exact ⟨A, m, c, he, h47, own_rd ho hd hl A c rfl, hb⟩
theorem told_new (seed : Text) (hsd : seed.length = 32) (w : World) (n : Nat) (hn : n ≤ 1099511627776) : AtF (toldD seed) n (w.alloc (.cells (cells8 seed).toArray 23)) (.func (.func 88) #[] #[.pointer (some ⟨w.heap.size, 0, none⟩)]) := told_at seed hsd w.heap.size (w.alloc (.cells (cells8 seed).toArray 23)) (Blk.new w 23 (cells8 seed).toArray) n hn
theorem below_next {wa wb : World} {B : Nat} {W : World} {o : Obj} (h1 : B ≤ wa.heap.size) (h2 : Below B W wa) (h3 : Below (wa.alloc o).heap.size (wa.alloc o) wb) : Below B W wb ∧ Below wa.heap.size wa wb := ⟨(h2.alloc h1 _).trans (h3.mono (by simp; omega)), (Below.heap_below _ _).trans (h3.mono (by simp))⟩
theorem same_same (n m : Nat) (h47 : n < 140737488355328) (L : List Text) (A B : Option Addr) (c d : Nat) (w : World) (h1 : RdD w A n L) (h2 : RdD w B m L) : Calls Tryd.prog 43 #[.slice A n c, .slice B m d] w fun e w' => e = .returned (.bool true) ∧ Below w.heap.size w w' := (sameD_any n m h47 L L A B c d w h1 h2).mono fun e w' ⟨he, hb⟩ => ⟨by rw [he]; simp, hb⟩
theorem parts_len (s : Int) (dg : Nat × Nat → Text) (ps : List (Nat × Nat)) : (partsD s dg ps).length = ps.length := by unfold partsD; simp

theorem waysIncl_ans (s : Int) (hs63 : s < 9223372036854775808) (size i : Int) (seed : Text) (hsd : seed.length = 32) (w' : World) (L1 : List Text) (hd1 : Digs L1) (hn1 : L1.length < 140737488355328) (hL1 : Hid (partsD s (toldD seed) (inclRows size i) = L1)) : Calls Tryd.prog 42 #[.int .i64 s, .int .i64 size, .int .i64 i, .func (.func 88) #[] #[.pointer (some ⟨w'.heap.size, 0, none⟩)]] (w'.alloc (.cells (cells8 seed).toArray 23)) (Ans (w'.alloc (.cells (cells8 seed).toArray 23)) L1 (inclE size i)) := by
  have := waysIncl_any s hs63 (toldD seed) (toldD_len seed) size i (.func (.func 88) #[] #[.pointer (some ⟨w'.heap.size, 0, none⟩)]) (w'.alloc (.cells (cells8 seed).toArray 23)) (fun n hn _ => told_new seed hsd w' n hn) ⟨88, #[], #[.pointer (some ⟨w'.heap.size, 0, none⟩)], rfl, told_new seed hsd w' 0 (Nat.zero_le _)⟩
  rw [hL1.out] at this
  refine this.mono ?_
  rintro e w'' ⟨v, n, he, hn, ho, hb2⟩
  exact ans_of hd1 rfl hn1 he (by rw [← hn, ← hL1.out, parts_len]) ho hb2
theorem waysCons_ans (s : Int) (hs63 : s < 9223372036854775808) (old size : Int) (seed : Text) (hsd : seed.length = 32) (w' : World) (L1 : List Text) (hd1 : Digs L1) (hn1 : L1.length < 140737488355328) (hL1 : Hid (partsD s (toldD seed) (consRows old size) = L1)) : Calls Tryd.prog 44 #[.int .i64 s, .int .i64 old, .int .i64 size, .func (.func 88) #[] #[.pointer (some ⟨w'.heap.size, 0, none⟩)]] (w'.alloc (.cells (cells8 seed).toArray 23)) (Ans (w'.alloc (.cells (cells8 seed).toArray 23)) L1 (consE old size)) := by
  have := waysCons_any s hs63 (toldD seed) (toldD_len seed) old size (.func (.func 88) #[] #[.pointer (some ⟨w'.heap.size, 0, none⟩)]) (w'.alloc (.cells (cells8 seed).toArray 23)) (fun n hn _ => told_new seed hsd w' n hn) ⟨88, #[], #[.pointer (some ⟨w'.heap.size, 0, none⟩)], rfl, told_new seed hsd w' 0 (Nat.zero_le _)⟩
  rw [hL1.out] at this
  refine this.mono ?_
  rintro e w'' ⟨v, n, he, hn, ho, hb2⟩
  exact ans_of hd1 rfl hn1 he (by rw [← hn, ← hL1.out, parts_len]) ho hb2

set_option maxRecDepth 100000 in
set_option maxHeartbeats 4000000 in
theorem treeProves_any (s old size i : Int) (hs63 : s < 9223372036854775808) (seed : Text) (hsd : seed.length = 32) (w : World) (hB : Base w) (hT : TabAt 3 Lib.deBruijn64tab w) (hg : 3 < w.heap.size) :
    Calls Tryd.prog 6 #[.int .i64 s, .int .i64 old, .int .i64 size, .int .i64 i, .agg (cells8 seed).toArray] w fun e w' => e = .returned (.bool true) ∧ Below w.heap.size w w' := by
  have hb1 : Hid (Below w.heap.size w (((w.alloc (.cells (cells8 seed).toArray 23)).alloc (.cells (cells8 seed).toArray 23)).alloc (.cells #[.func (.func 88) #[] #[.pointer (some ⟨w.heap.size + 1, 0, none⟩)], .int .i64 size, .bool false] 93))) := (((Below.refl _ w).alloc (Nat.le_refl _) _).alloc (by simp) _).alloc (by simp; omega) _
  have hz1 : Hid ((((w.alloc (.cells (cells8 seed).toArray 23)).alloc (.cells (cells8 seed).toArray 23)).alloc (.cells #[.func (.func 88) #[] #[.pointer (some ⟨w.heap.size + 1, 0, none⟩)], .int .i64 size, .bool false] 93)).heap.size = w.heap.size + 3) := by show _ = _; simp
  have hS1 : Hid (Blk (((w.alloc (.cells (cells8 seed).toArray 23)).alloc (.cells (cells8 seed).toArray 23)).alloc (.cells #[.func (.func 88) #[] #[.pointer (some ⟨w.heap.size + 1, 0, none⟩)], .int .i64 size, .bool false] 93)) w.heap.size 23 (cells8 seed).toArray) := ((Blk.new w 23 _).alloc _).alloc _
  have hV1 : Hid (Blk (((w.alloc (.cells (cells8 seed).toArray 23)).alloc (.cells (cells8 seed).toArray 23)).alloc (.cells #[.func (.func 88) #[] #[.pointer (some ⟨w.heap.size + 1, 0, none⟩)], .int .i64 size, .bool false] 93)) (w.heap.size + 1) 23 (cells8 seed).toArray) := by
    have := (Blk.new (w.alloc (.cells (cells8 seed).toArray 23)) 23 (cells8 seed).toArray).alloc (.cells #[(.func (.func 88) #[] #[.pointer (some ⟨w.heap.size + 1, 0, none⟩)]), .int .i64 size, .bool false] 93)
    rwa [show (w.alloc (.cells (cells8 seed).toArray 23)).heap.size = w.heap.size + 1 by simp] at this
  have hW1 : Hid (Blk (((w.alloc (.cells (cells8 seed).toArray 23)).alloc (.cells (cells8 seed).toArray 23)).alloc (.cells #[.func (.func 88) #[] #[.pointer (some ⟨w.heap.size + 1, 0, none⟩)], .int .i64 size, .bool false] 93)) (w.heap.size + 2) 93 #[(.func (.func 88) #[] #[.pointer (some ⟨w.heap.size + 1, 0, none⟩)]), .int .i64 size, .bool false]) := by
    have := Blk.new ((w.alloc (.cells (cells8 seed).toArray 23)).alloc (.cells (cells8 seed).toArray 23)) 93 #[(.func (.func 88) #[] #[.pointer (some ⟨w.heap.size + 1, 0, none⟩)]), .int .i64 size, .bool false]
    rwa [show ((w.alloc (.cells (cells8 seed).toArray 23)).alloc (.cells (cells8 seed).toArray 23)).heap.size = w.heap.size + 2 by simp] at this
  have hAt : Hid (∀ n : Nat, n ≤ 1099511627776 → size = (n : Int) → AtF (toldD seed) n (((w.alloc (.cells (cells8 seed).toArray 23)).alloc (.cells (cells8 seed).toArray 23)).alloc (.cells #[.func (.func 88) #[] #[.pointer (some ⟨w.heap.size + 1, 0, none⟩)], .int .i64 size, .bool false] 93)) (.func (.func 41) #[.pointer (some ⟨w.heap.size + 2, 0, none⟩)] #[])) := fun n hn e => by
    subst e
    exact ask_at (toldD seed) (toldD_len seed) n hn _ _ _ hW1.out (told_at seed hsd _ _ hV1.out n hn)
  obtain ⟨L1, hL1⟩ : ∃ L, Hid (partsD s (toldD seed) (inclRows size i) = L) := ⟨_, Lib.hid rfl⟩
  obtain ⟨L2, hL2⟩ : ∃ L, Hid (partsD s (toldD seed) (consRows old size) = L) := ⟨_, Lib.hid rfl⟩
  have hd1 : Digs L1 := by rw [← hL1.out]; exact digs_parts s (toldD_len seed) _
  have hd2 : Digs L2 := by rw [← hL2.out]; exact digs_parts s (toldD_len seed) _
  have hn1 : L1.length < 140737488355328 := by rw [← hL1.out, parts_len]; have := inclRows_len size i; omega
  have hn2 : L2.length < 140737488355328 := by rw [← hL2.out, parts_len]; have := consRows_len old size; omega
  have hTI : Hid (∀ w', Below (w.heap.size + 3) (((w.alloc (.cells (cells8 seed).toArray 23)).alloc (.cells (cells8 seed).toArray 23)).alloc (.cells #[.func (.func 88) #[] #[.pointer (some ⟨w.heap.size + 1, 0, none⟩)], .int .i64 size, .bool false] 93)) w' → Calls Tryd.prog 16 #[.int .i64 s, .int .i64 size, .int .i64 i, (.func (.func 41) #[.pointer (some ⟨w.heap.size + 2, 0, none⟩)] #[])] w' (Ans w' L1 (inclE size i))) := fun w' hb => by
    have hbw := hb1.out.trans (hb.mono (by omega))
    have := treeIncl_any s (toldD seed) (toldD_len seed) size i 41 #[.pointer (some ⟨w.heap.size + 2, 0, none⟩)] #[] w' (base_on hB hbw) (tab_below hT hg hbw) (by have := hbw.size; omega) (fun n hn e => (hAt.out n hn e).below (hb.mono (by rw [hz1.out]; exact Nat.le_refl _)))
    rw [hL1.out] at this
    refine this.mono ?_
    rintro e w'' ⟨v, n, he, hn, ho, hb2⟩
    exact ans_of hd1 rfl hn1 he (by rw [← hn, ← hL1.out, parts_len]) ho hb2
  have hTC : Hid (∀ w', Below (w.heap.size + 3) (((w.alloc (.cells (cells8 seed).toArray 23)).alloc (.cells (cells8 seed).toArray 23)).alloc (.cells #[.func (.func 88) #[] #[.pointer (some ⟨w.heap.size + 1, 0, none⟩)], .int .i64 size, .bool false] 93)) w' → Calls Tryd.prog 23 #[.int .i64 s, .int .i64 old, .int .i64 size, (.func (.func 41) #[.pointer (some ⟨w.heap.size + 2, 0, none⟩)] #[])] w' (Ans w' L2 (consE old size))) := fun w' hb => by
    have hbw := hb1.out.trans (hb.mono (by omega))
    have := treeCons_any s (toldD seed) (toldD_len seed) old size 41 #[.pointer (some ⟨w.heap.size + 2, 0, none⟩)] #[] w' (base_on hB hbw) (tab_below hT hg hbw) (by have := hbw.size; omega) (fun n hn e => (hAt.out n hn e).below (hb.mono (by rw [hz1.out]; exact Nat.le_refl _)))
    rw [hL2.out] at this
    refine this.mono ?_
    rintro e w'' ⟨v, n, he, hn, ho, hb2⟩
    exact ans_of hd2 rfl hn2 he (by rw [← hn, ← hL2.out, parts_len]) ho hb2
  have hWI : Hid (∀ w' : World, Calls Tryd.prog 42 #[.int .i64 s, .int .i64 size, .int .i64 i, .func (.func 88) #[] #[.pointer (some ⟨w'.heap.size, 0, none⟩)]] (w'.alloc (.cells (cells8 seed).toArray 23)) (Ans (w'.alloc (.cells (cells8 seed).toArray 23)) L1 (inclE size i))) := fun w' => waysIncl_ans s hs63 size i seed hsd w' L1 hd1 hn1 hL1
  have hWC : Hid (∀ w' : World, Calls Tryd.prog 44 #[.int .i64 s, .int .i64 old, .int .i64 size, .func (.func 88) #[] #[.pointer (some ⟨w'.heap.size, 0, none⟩)]] (w'.alloc (.cells (cells8 seed).toArray 23)) (Ans (w'.alloc (.cells (cells8 seed).toArray 23)) L2 (consE old size))) := fun w' => waysCons_ans s hs63 old size seed hsd w' L2 hd2 hn2 hL2
  obtain ⟨E1, hE1⟩ : ∃ k, Hid (inclE size i = k) := ⟨_, Lib.hid rfl⟩
  obtain ⟨E2, hE2⟩ : ∃ k, Hid (consE old size = k) := ⟨_, Lib.hid rfl⟩
  rw [hE1.out] at hTI hWI
  rw [hE2.out] at hTC hWC
  have hTold := Lib.hid (fun w' => told_any seed w')
  have hsz : Hid ((Tryd.prog.info? 23).map (·.size) = some (cells8 seed).toArray.size) := dig_size seed hsd
  have hN0 : Hid (Blk (w.alloc (.cells (cells8 seed).toArray 23)) w.heap.size 23 (cells8 seed).toArray) := Blk.new w _ _
  have hmf : ∀ (fn : Fn) (first cap : Array Value) (w : World), (Instr.makeFunc fn first cap).run Tryd.prog w = .ok (.func fn first cap) w := fun _ _ _ _ => rfl
  have y1 : (E1 != E1) = false := bne_self_eq_false' ..
  have y2 : (E2 != E2) = false := bne_self_eq_false' ..
  have y3 : (E1 == E1) = true := beq_self_eq_true _
  have y4 : (E2 == E2) = true := beq_self_eq_true _
  clear hE1 hE2 hL1 hL2 hd1 hd2 hn1 hn2 hAt hB hT hg hs63 hsd hV1
  go_enter Tryd.func6, Tryd.ntmps6
  go_wp2_with (first
    | ((with_reducible change wpList _ _ _ ({ dst := some 16, op := _, type := _, pos := _, after := _, guard := _ } :: _) _ _); refine wpList_load_row (o := ⟨some 16, _, _, _, _, _⟩) rfl 23 (.tmp 9) rfl (w.heap.size) rfl 23 ((cells8 seed).toArray) (0, 0) _ hN0.out Tryd.underlying23 rfl hsz.out ?_)
    | (go_at_call 40; refine (hTold.out _).mono ?_; rintro e wt ⟨rfl, rfl⟩)
    | (go_at_call 16; refine (hTI.out _ (Below.refl _ _)).mono ?_; rintro e w2 ⟨A2, n2, c2, rfl, l2, r2, b2⟩; replace b2 : Hid (Below (w.heap.size + 3) (((w.alloc (.cells (cells8 seed).toArray 23)).alloc (.cells (cells8 seed).toArray 23)).alloc (.cells #[.func (.func 88) #[] #[.pointer (some ⟨w.heap.size + 1, 0, none⟩)], .int .i64 size, .bool false] 93)) w2) := (b2.mono (by rw [hz1.out]; exact Nat.le_refl _)); replace r2 := Lib.hid r2; replace l2 := Lib.hid l2; have hS2 : Hid (Blk w2 w.heap.size 23 (cells8 seed).toArray) := (b2.out.block _ (by omega)).trans hS1.out; have g2 : Hid (w.heap.size + 3 ≤ w2.heap.size) := (by have := b2.out.size; have := hz1.out; show _ ≤ _; omega))
    | ((with_reducible change wpList _ _ _ ({ dst := some 34, op := _, type := _, pos := _, after := _, guard := _ } :: _) _ _); refine wpList_load_row (o := ⟨some 34, _, _, _, _, _⟩) rfl 23 (.tmp 9) rfl (w.heap.size) rfl 23 ((cells8 seed).toArray) (0, 0) _ hS2.out Tryd.underlying23 rfl hsz.out ?_)
    | (go_at_call 42; refine (hWI.out _).mono ?_; rintro e w3 ⟨A3, n3, c3, rfl, l3, r3, b3⟩; obtain ⟨b3', b23⟩ := below_next g2.out b2.out b3; replace b3' := Lib.hid b3'; have r2' := Lib.hid (r2.out.below b23); replace r3 := Lib.hid r3; replace l3 := Lib.hid l3; clear b3 b23 r2 hS2)
    | (go_at_call 43; refine (same_same n2 n3 l2.out L1 A2 A3 c2 c3 w3 r2'.out r3.out).mono ?_; rintro e w4 ⟨rfl, b4⟩; have g3 : Hid (w.heap.size + 3 ≤ w3.heap.size) := (by have := b3'.out.size; have := hz1.out; show _ ≤ _; omega); have b4' : Hid (Below (w.heap.size + 3) (((w.alloc (.cells (cells8 seed).toArray 23)).alloc (.cells (cells8 seed).toArray 23)).alloc (.cells #[.func (.func 88) #[] #[.pointer (some ⟨w.heap.size + 1, 0, none⟩)], .int .i64 size, .bool false] 93)) w4) := b3'.out.trans (b4.mono g3.out); have hbad4 : w4.cell? ⟨w.heap.size + 1 + 1, 2, none⟩ = some (.bool false) := ((b4'.out.cell (p := ⟨w.heap.size + 2, 2, none⟩) (by simp only; omega)).trans (hW1.out.cell 2)); clear b4 r2' r3 b3' g3 b2 hTI hWI)
    | (go_at_call 23; refine (hTC.out _ b4'.out).mono ?_; rintro e w5 ⟨A5, n5, c5, rfl, l5, r5, b5⟩; have g4 : Hid (w.heap.size + 3 ≤ w4.heap.size) := (by have := b4'.out.size; have := hz1.out; show _ ≤ _; omega); replace b5 : Hid (Below (w.heap.size + 3) (((w.alloc (.cells (cells8 seed).toArray 23)).alloc (.cells (cells8 seed).toArray 23)).alloc (.cells #[.func (.func 88) #[] #[.pointer (some ⟨w.heap.size + 1, 0, none⟩)], .int .i64 size, .bool false] 93)) w5) := b4'.out.trans (b5.mono g4.out); replace r5 := Lib.hid r5; replace l5 := Lib.hid l5; have hS5 : Hid (Blk w5 w.heap.size 23 (cells8 seed).toArray) := (b5.out.block _ (by omega)).trans hS1.out; have g5 : Hid (w.heap.size + 3 ≤ w5.heap.size) := (by have := b5.out.size; have := hz1.out; show _ ≤ _; omega); clear hbad4 b4')
    | ((with_reducible change wpList _ _ _ ({ dst := some 67, op := _, type := _, pos := _, after := _, guard := _ } :: _) _ _); refine wpList_load_row (o := ⟨some 67, _, _, _, _, _⟩) rfl 23 (.tmp 9) rfl (w.heap.size) rfl 23 ((cells8 seed).toArray) (0, 0) _ hS5.out Tryd.underlying23 rfl hsz.out ?_)
    | (go_at_call 44; refine (hWC.out _).mono ?_; rintro e w6 ⟨A6, n6, c6, rfl, l6, r6, b6⟩; obtain ⟨b6', b56⟩ := below_next g5.out b5.out b6; replace b6' := Lib.hid b6'; have r5' := Lib.hid (r5.out.below b56); replace r6 := Lib.hid r6; replace l6 := Lib.hid l6; clear b6 b56 r5 hS5)
    | (go_at_call 43; refine (same_same n5 n6 l5.out L2 A5 A6 c5 c6 w6 r5'.out r6.out).mono ?_; rintro e w7 ⟨rfl, b7⟩; have g6 : Hid (w.heap.size + 3 ≤ w6.heap.size) := (by have := b6'.out.size; have := hz1.out; show _ ≤ _; omega); have b7' : Hid (Below (w.heap.size + 3) (((w.alloc (.cells (cells8 seed).toArray 23)).alloc (.cells (cells8 seed).toArray 23)).alloc (.cells #[.func (.func 88) #[] #[.pointer (some ⟨w.heap.size + 1, 0, none⟩)], .int .i64 size, .bool false] 93)) w7) := b6'.out.trans (b7.mono g6.out); have hbad7 : w7.cell? ⟨w.heap.size + 1 + 1, 2, none⟩ = some (.bool false) := ((b7'.out.cell (p := ⟨w.heap.size + 2, 2, none⟩) (by simp only; omega)).trans (hW1.out.cell 2)); clear b7 r5' r6 b6' g6 b5 hTC hWC)
    | (go_at_call 16; refine (treeIncl_nil s size i _).mono ?_; rintro e w8 ⟨rfl, rfl⟩)
    | (go_at_call 23; refine (treeCons_nil s old size _).mono ?_; rintro e w9 ⟨rfl, rfl⟩))
  go_ret
  exact ⟨rfl, hb1.out.trans (b7'.out.mono (by omega))⟩
end Go.Proofs.YtgldkfaiofkhbaaDoor.TreeProves
