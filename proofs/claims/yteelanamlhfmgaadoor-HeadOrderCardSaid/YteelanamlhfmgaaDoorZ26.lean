/-
  Texts of the claim, put into one file: SgM, EncNoteP, Bin, RowS, Stranger.
-/
import Derived.Test.YteelanamlhfmgaaDoorZ25
import Derived.Test.YteelanamlhfmgaaDoorZ8
import Derived.Deep.Cut
import Derived.Lib.Hide
import Derived.Outline
import Derived.WalkLawsBesides
import Derived.StillTailTactics
import Derived.OwnWalk
import Derived.IntWalk

namespace Go.Proofs.YteelanamlhfmgaaDoor.SgM
open Go Go.RowKit Go.Proofs.YteelanamlhfmgaaDoor Go.Proofs.YteelanamlhfmgaaDoor.Mem Go.Proofs.YteelanamlhfmgaaDoor.Sha Go.Proofs.YteelanamlhfmgaaDoor.Bytes Go.Proofs.YteelanamlhfmgaaDoor.SortP Go.Proofs.YteelanamlhfmgaaDoor.NoteP Go.Proofs.YteelanamlhfmgaaDoor.Rise Go.Proofs.YteelanamlhfmgaaDoor.SortM Go.Proofs.YteelanamlhfmgaaDoor.Append Go.Proofs.YteelanamlhfmgaaDoor.Own

/-- Each is 64 bytes long. -/
def Sns (ds : List Text) : Prop := ∀ d ∈ ds, d.length = 64
theorem Sns.take_ {ds : List Text} (h : Sns ds) (k : Nat) : Sns (ds.take k) := fun d hd => h d (List.mem_of_mem_take hd)
theorem Sns.drop_ {ds : List Text} (h : Sns ds) (k : Nat) : Sns (ds.drop k) := fun d hd => h d (List.mem_of_mem_drop hd)
theorem Sns.at_ {ds : List Text} (h : Sns ds) {i : Nat} {d : Text} (hi : ds[i]? = some d) : d.length = 64 := h d (List.mem_of_getElem? hi)
theorem Sns.append_ {xs ys : List Text} (h : Sns xs) (k : Sns ys) : Sns (xs ++ ys) := fun d hd => by
  rcases List.mem_append.1 hd with x | x
  · exact h d x
  · exact k d x
theorem Sns.one {d : Text} (h : d.length = 64) : Sns [d] := fun x hx => by simp only [List.mem_singleton] at hx; rw [hx, h]
theorem Sns.nil : Sns [] := fun _ h => by cases h
theorem flat_take : ∀ (ds : List Text) (k : Nat), Sns ds → (ds.flatMap cells8).take (k * 64) = (ds.take k).flatMap cells8
  | [], k, _ => by simp
  | d :: ds, 0, _ => by simp
  | d :: ds, k + 1, h => by
    have h1 := flat_take ds k (fun x hx => h x (List.mem_cons_of_mem _ hx))
    have h2 : (cells8 d).length = 64 := by rw [cells8_len]; exact h d (List.mem_cons_self ..)
    simp only [List.flatMap_cons, List.take_succ_cons]
    rw [List.take_append, h2, List.take_of_length_le (by omega), show (k + 1) * 64 - 64 = k * 64 by omega, h1]
theorem flat_drop : ∀ (ds : List Text) (k : Nat), Sns ds → (ds.flatMap cells8).drop (k * 64) = (ds.drop k).flatMap cells8
  | [], k, _ => by simp
  | d :: ds, 0, _ => by simp
  | d :: ds, k + 1, h => by
    have h1 := flat_drop ds k (fun x hx => h x (List.mem_cons_of_mem _ hx))
    have h2 : (cells8 d).length = 64 := by rw [cells8_len]; exact h d (List.mem_cons_self ..)
    simp only [List.flatMap_cons, List.drop_succ_cons]
    rw [List.drop_append, h2, List.drop_of_length_le (by omega), show (k + 1) * 64 - 64 = k * 64 by omega, h1, List.nil_append]
theorem one_signs (ss : List Text) : ∀ u ∈ ss.flatMap cells8, u.oneCell' = true := by
  intro u hu
  obtain ⟨t, -, ht⟩ := List.mem_flatMap.1 hu
  exact cells8_one t u ht
section
variable {w w' : World} {A : Option Addr} {n : Nat} {ds : List Text}
theorem _root_.Go.Proofs.YteelanamlhfmgaaDoor.Rise.Sgs.nil_ (w : World) (A : Option Addr) : Sgs w A 0 [] := ⟨rfl, (fun _ h => by cases h), Reads.nil_ _ _ _⟩
theorem _root_.Go.Proofs.YteelanamlhfmgaaDoor.Rise.Sgs.drewN (h : Sgs w A n ds) (k : Nat) : Sgs (w.drewN k) A n ds := ⟨h.len, h.all, h.rd.drewN k⟩
theorem _root_.Go.Proofs.YteelanamlhfmgaaDoor.Rise.Sgs.take_ (h : Sgs w A n ds) (k : Nat) (hk : k ≤ n) : Sgs w A k (ds.take k) := by
  have hl := h.len
  have ha : Sns (ds.take k) := Sns.take_ h.all k
  have hlen : (ds.take k).length = k := by rw [List.length_take]; omega
  refine ⟨hlen, ha, by rw [flat_len _ ha, hlen], fun h0 => ?_⟩
  obtain ⟨b, o, e, hb, hc⟩ := h.rd.2 (by omega)
  refine ⟨b, o, e, hb, fun j u hu => hc j u ?_⟩
  rw [← flat_take ds k h.all, List.getElem?_take] at hu
  by_cases hj : j < k * 64
  · rw [if_pos hj] at hu; exact hu
  · rw [if_neg hj] at hu; cases hu
/-- Where the rest behind the first k of a row of signs lies. -/
def cutS (A : Option Addr) (k c : Nat) : Option Addr := if c = k then A else A.map (·.add (k * 64))
theorem _root_.Go.Proofs.YteelanamlhfmgaaDoor.Rise.Sgs.drop_ (h : Sgs w A n ds) (k c : Nat) (hk : k ≤ n) (hc : n ≤ c) : Sgs w (cutS A k c) (n - k) (ds.drop k) := by
  have hl := h.len
  have ha : Sns (ds.drop k) := Sns.drop_ h.all k
  have hlen : (ds.drop k).length = n - k := by rw [List.length_drop]; omega
  refine ⟨hlen, ha, by rw [flat_len _ ha, hlen], fun h0 => ?_⟩
  obtain ⟨b, o, e, hb, hcs⟩ := h.rd.2 (by omega)
  subst e
  refine ⟨b, o + k * 64, by unfold cutS; rw [if_neg (by omega), Option.map_some, add_at], hb, fun j u hu => ?_⟩
  rw [Nat.add_assoc]
  apply hcs
  rw [← flat_drop ds k h.all, List.getElem?_drop] at hu
  exact hu
end
theorem size64s (w : World) : (sizeOf (Tryd.prog.elem 26)).run Tryd.prog w = .ok 64 w := by kernel_rfl
theorem undS : Tryd.prog.underlying 26 = some (.slice (Tryd.prog.elem 26)) := by kernel_rfl
theorem run_headS {A : Option Addr} {n c k : Nat} (hk : k ≤ c) (x : Int) (hx : x = k) (w : World) :
    (Instr.sliceAt 26 (.slice A n c) none (some (.int .i64 x)) none).run Tryd.prog w = .ok (.slice A k c) w := by
  subst hx
  rw [run_sliceAt_slice w _ _ _ _ _ undS, run_slice_h w _ A n c undS .i64 (k : Int) (by omega) (by omega), size64s]
  simp only [Result.andThen, sliced, Int.toNat_natCast, Nat.zero_mul, Nat.sub_zero]
  cases A with
  | none => simp
  | some a => simp [Bytes.add_zero]
theorem run_tailS {A : Option Addr} {n c k : Nat} (hk : k ≤ n) (x : Int) (hx : x = k) (w : World) :
    (Instr.sliceAt 26 (.slice A n c) (some (.int .i64 x)) none none).run Tryd.prog w = .ok (.slice (cutS A k c) (n - k) (c - k)) w := by
  subst hx
  rw [run_sliceAt_slice w _ _ _ _ _ undS, run_slice_l w _ A n c undS .i64 (k : Int) (by omega) (by omega), size64s]
  simp [Result.andThen, sliced, cutS]
def Z64 : Array Value := #[Value.int IntKind.u8 0, Value.int IntKind.u8 0, Value.int IntKind.u8 0, Value.int IntKind.u8 0, Value.int IntKind.u8 0, Value.int IntKind.u8 0, Value.int IntKind.u8 0, Value.int IntKind.u8 0, Value.int IntKind.u8 0, Value.int IntKind.u8 0, Value.int IntKind.u8 0, Value.int IntKind.u8 0, Value.int IntKind.u8 0, Value.int IntKind.u8 0, Value.int IntKind.u8 0, Value.int IntKind.u8 0, Value.int IntKind.u8 0, Value.int IntKind.u8 0, Value.int IntKind.u8 0, Value.int IntKind.u8 0, Value.int IntKind.u8 0, Value.int IntKind.u8 0, Value.int IntKind.u8 0, Value.int IntKind.u8 0, Value.int IntKind.u8 0, Value.int IntKind.u8 0, Value.int IntKind.u8 0, Value.int IntKind.u8 0, Value.int IntKind.u8 0, Value.int IntKind.u8 0, Value.int IntKind.u8 0, Value.int IntKind.u8 0, Value.int IntKind.u8 0, Value.int IntKind.u8 0, Value.int IntKind.u8 0, Value.int IntKind.u8 0, Value.int IntKind.u8 0, Value.int IntKind.u8 0, Value.int IntKind.u8 0, Value.int IntKind.u8 0, Value.int IntKind.u8 0, Value.int IntKind.u8 0, Value.int IntKind.u8 0, Value.int IntKind.u8 0, Value.int IntKind.u8 0, Value.int IntKind.u8 0, Value.int IntKind.u8 0, Value.int IntKind.u8 0, Value.int IntKind.u8 0, Value.int IntKind.u8 0, Value.int IntKind.u8 0, Value.int IntKind.u8 0, Value.int IntKind.u8 0, Value.int IntKind.u8 0, Value.int IntKind.u8 0, Value.int IntKind.u8 0, Value.int IntKind.u8 0, Value.int IntKind.u8 0, Value.int IntKind.u8 0, Value.int IntKind.u8 0, Value.int IntKind.u8 0, Value.int IntKind.u8 0, Value.int IntKind.u8 0, Value.int IntKind.u8 0]
theorem info64 : (Tryd.prog.info? 43).map (fun i => (i.zero, i.size, i.bytes)) = some (some (.agg Z64), 64, 64) := by kernel_rfl
theorem info_partsN {P : Program} {e : TypeId} {z : Value} {s b : Nat} (h : (P.info? e).map (fun i => (i.zero, i.size, i.bytes)) = some (some z, s, b)) : ∃ i : TypeInfo, P.info? e = some i ∧ i.zero = some z ∧ i.size = s ∧ i.bytes = b := by
  cases hq : P.info? e with
  | none => simp [hq] at h
  | some i =>
    simp [hq] at h
    exact ⟨i, rfl, h.1, h.2.1, h.2.2⟩
/-- A row of signs of one's own. -/
def OwnS (w : World) (B : Nat) (v : Value) (n : Nat) (ds : List Text) : Prop := Sns ds ∧ ds.length = n ∧ w.ownsRow B 43 64 v n (ds.flatMap cells8)
theorem OwnS.nil (w : World) (B : Nat) : OwnS w B (.slice none 0 0) 0 [] := ⟨Sns.nil, rfl, World.ownsRow_nil _ _ _ _⟩
theorem OwnS.below {w w' : World} {B n : Nat} {v : Value} {ds : List Text} (h : OwnS w B v n ds) (hb : Below w.heap.size w w') : OwnS w' B v n ds := ⟨h.1, h.2.1, own_below h.2.2 hb⟩
theorem OwnS.reads {w : World} {B n : Nat} {v : Value} {ds : List Text} (h : OwnS w B v n ds) : ∃ A c, v = .slice A n c ∧ n ≤ c ∧ c ≤ maxLen ∧ (A = none → n = 0 ∧ c = 0) ∧ Sgs w A n ds ∧ ∀ a, A = some a → B ≤ a.block := by
  obtain ⟨A, c, e, h1, h2, h3, h4, h5⟩ := Own.reads h.2.2
  exact ⟨A, c, e, h1, h2, h3, ⟨h.2.1, h.1, h4⟩, fun a ha => (h5 a ha).1⟩
theorem OwnS.base {w : World} {B B' n : Nat} {v : Value} {ds : List Text} (h : OwnS w B v n ds) (hB : B' ≤ B) : OwnS w B' v n ds := ⟨h.1, h.2.1, ownsRow_base h.2.2 hB⟩
theorem own_some {w : World} {B n c : Nat} {A : Option Addr} {ds : List Text} (h : OwnS w B (.slice A n c) n ds) (hn : 0 < n) : ∃ g, A = some ⟨g, 0, none⟩ := by
  rcases h.2.2.2 with ⟨h2, h3⟩ | ⟨g, c2, cur, h2, -⟩
  · omega
  · injection h2 with h2
    exact ⟨g, h2⟩
/-- What an append of signs onto signs leaves. -/
theorem grew_signs {w w' : World} {B n m : Nat} {v v' : Value} {xs ys : List Text} (h : Grew w B 43 64 v n m (xs.flatMap cells8) (ys.flatMap cells8) v' w') {w0 : World} (hb : Below B w0 w) (hB : B ≤ w.heap.size) (hx : OwnS w B v n xs) (hy : Sns ys) (hm : ys.length = m) :
    OwnS w' B v' (n + m) (xs ++ ys) ∧ Below B w0 w' := by
  refine ⟨⟨Sns.append_ hx.1 hy, by rw [List.length_append, hx.2.1, hm], ?_⟩, ?_⟩
  · have := h.own
    rwa [← List.flatMap_append] at this
  · obtain ⟨A, c, rfl, -, -, -, -, -⟩ := OwnS.reads hx
    exact h.below hb hB (own_block hx.2.2)
end Go.Proofs.YteelanamlhfmgaaDoor.SgM

namespace Go.Proofs.YteelanamlhfmgaaDoor.EncNoteP
open Go Go.RowKit Go.Proofs.YteelanamlhfmgaaDoor Go.Proofs.YteelanamlhfmgaaDoor.Mem Go.Proofs.YteelanamlhfmgaaDoor.Sha Go.Proofs.YteelanamlhfmgaaDoor.Bytes Go.Proofs.YteelanamlhfmgaaDoor.SortP Go.Proofs.YteelanamlhfmgaaDoor.NoteP Go.Proofs.YteelanamlhfmgaaDoor.Rise Go.Proofs.YteelanamlhfmgaaDoor.SgM

/-- A sign's tag: its last 32 bytes. -/
def tgS (t : Text) : Text := t.drop 32
theorem kyS_len {t : Text} (h : t.length = 64) : (kyS t).length = 32 := by unfold kyS; rw [List.length_take]; omega
theorem tgS_len {t : Text} (h : t.length = 64) : (tgS t).length = 32 := by unfold tgS; rw [List.length_drop]; omega
theorem kt_eq (t : Text) : [kyS t, tgS t].flatten = t := by unfold kyS tgS; simp
theorem ky_cell {t : Text} {j : Nat} {u : Value} (hu : (cells8 (kyS t))[j]? = some u) : (cells8 t)[0 + j]? = some u := by
  unfold kyS cells8 at hu
  rw [List.map_take, List.getElem?_take] at hu
  rw [Nat.zero_add]
  by_cases hj : j < 32
  · rw [if_pos hj] at hu; exact hu
  · rw [if_neg hj] at hu; cases hu
theorem tg_cell {t : Text} {j : Nat} {u : Value} (hu : (cells8 (tgS t))[j]? = some u) : (cells8 t)[32 + j]? = some u := by
  unfold tgS cells8 at hu
  rw [List.map_drop, List.getElem?_drop] at hu
  exact hu
end Go.Proofs.YteelanamlhfmgaaDoor.EncNoteP

namespace Go.Proofs.YteelanamlhfmgaaDoor.Bin
open Go Go.RowKit Go.Proofs.YteelanamlhfmgaaDoor Go.Proofs.YteelanamlhfmgaaDoor.Mem Go.Proofs.YteelanamlhfmgaaDoor.Sha Go.Proofs.YteelanamlhfmgaaDoor.Bytes Go.Proofs.YteelanamlhfmgaaDoor.SortP Go.Proofs.YteelanamlhfmgaaDoor.NoteP Go.Proofs.YteelanamlhfmgaaDoor.Compare Go.Proofs.YteelanamlhfmgaaDoor.Grown Go.Proofs.YteelanamlhfmgaaDoor.Want Go.Proofs.YteelanamlhfmgaaDoor.Rise Go.Proofs.YteelanamlhfmgaaDoor.SgM Go.Proofs.YteelanamlhfmgaaDoor.EncNoteP

/-- A call of a function value. -/
theorem run_fnv {P : Program} {ρ : Operand → Value} {o : Oper} {f : FuncId} {fn : Func} {x : Operand} {args : Array Value} (ca : Array Operand) (ct : Array TypeId) (ho : o.op = .call { callee := .value x, args := ca, argTypes := ct }) (hx : ρ x = .func (.func f) #[] #[]) (ha : (ca.toList.map ρ).toArray = args)
    (hf : P.funcs[f]? = some fn) (hn : (fn.name == "runtime.NumGoroutine") = false) (hb : fn.body.isNone = false) (w : World) : (execOp ρ o).run P w = .ok (.enter f args) w := by
  subst ha
  have hr := run_fn (P := P) hf hn hb
  simp [execOp, ho, hx, resolve, invoke, hr, go_sem]
  rw [← Array.toList_map]
theorem q_fnv {P : Program} {l : List Oper} {ts : List Value} {df : List Deferred} {rest : List Oper} {o : Oper} {C : World → Prop} {Q : Act → Prop} {v : Value} {f : FuncId} {fn : Func} {x : Operand} {args : Array Value} (hg : wantB o.guard l ts = true) (ca : Array Operand) (ct : Array TypeId) (ho : o.op = .call { callee := .value x, args := ca, argTypes := ct }) (hx : (Act.mk ts.toArray df).eval x = .func (.func f) #[] #[]) (ha : (ca.toList.map (Act.mk ts.toArray df).eval).toArray = args)
    (hf : P.funcs[f]? = some fn) (hn : (fn.name == "runtime.NumGoroutine") = false) (hb : fn.body.isNone = false) (h : ∀ w, C w → Calls P f args w fun e w'' => e = .returned v ∧ C w'')
    (hk : ∀ K : Act → Prop, (∀ a, Veil (wpQuiet P l.toArray C Q rest a) → K a) → K ((Act.mk ts.toArray df).put o.dst v)) : Veil (wpQuiet P l.toArray C Q (o :: rest) ⟨ts.toArray, df⟩) :=
  ⟨wpQuiet_call (want hg) (fun w => run_fnv ca ct ho hx ha hf hn hb w) h (fun K hK => hk K fun a ha' => hK a ha'.out)⟩
theorem sizeB : (Tryd.prog.info? 43).map (·.size) = some 64 := by kernel_rfl
/-- What the search finds: the first place, below which all lie lower. -/
structure At (ss : List Text) (x : Text) (i : Nat) (f : Bool) : Prop where
  le : i ≤ ss.length
  low : ∀ y ∈ ss.take i, lex (kyS y) (kyS x) = true
  high : ∀ y ∈ ss.drop i, lex (kyS y) (kyS x) = false
  found : f = decide ((ss[i]?).map kyS = some (kyS x))
theorem low_mem {ss : List Text} {x : Text} {i : Nat} (h : ∀ t y, t < i → ss[t]? = some y → lex (kyS y) (kyS x) = true) : ∀ y ∈ ss.take i, lex (kyS y) (kyS x) = true := fun y hy => by
  obtain ⟨t, ht, e⟩ := List.getElem_of_mem hy
  rw [List.length_take] at ht
  refine h t y (by omega) ?_
  rw [← e, List.getElem_take, List.getElem?_eq_getElem (by omega)]
theorem high_mem {ss : List Text} {x : Text} {i : Nat} (h : ∀ t y, i ≤ t → ss[t]? = some y → lex (kyS y) (kyS x) = false) : ∀ y ∈ ss.drop i, lex (kyS y) (kyS x) = false := fun y hy => by
  obtain ⟨t, ht, e⟩ := List.getElem_of_mem hy
  rw [List.length_drop] at ht
  refine h (i + t) y (by omega) ?_
  rw [← e, List.getElem_drop, List.getElem?_eq_getElem (by omega)]
theorem strict_at {ss : List Text} (hs : Strict kyS ss) {i j : Nat} {a b : Text} (hij : i < j) (ha : ss[i]? = some a) (hb : ss[j]? = some b) : lex (kyS a) (kyS b) = true := by
  obtain ⟨h1, rfl⟩ := List.getElem?_eq_some_iff.1 ha
  obtain ⟨h2, rfl⟩ := List.getElem?_eq_some_iff.1 hb
  exact strict_get hs hij h2
theorem up_low {ss : List Text} (hs : Strict kyS ss) {x y : Text} {h : Nat} (hy : ss[h]? = some y) (hl : lex (kyS y) (kyS x) = true) : ∀ t z, t < h + 1 → ss[t]? = some z → lex (kyS z) (kyS x) = true := fun t z ht hz => by
  by_cases e : t = h
  · subst e
    rw [hy] at hz
    obtain rfl := Option.some.inj hz
    exact hl
  · exact lex_trans _ _ _ (strict_at hs (by omega) hz hy) hl
theorem up_high {ss : List Text} (hs : Strict kyS ss) {x y : Text} {h : Nat} (hy : ss[h]? = some y) (hl : lex (kyS y) (kyS x) = false) : ∀ t z, h ≤ t → ss[t]? = some z → lex (kyS z) (kyS x) = false := fun t z ht hz => by
  by_cases e : t = h
  · subst e
    rw [hy] at hz
    obtain rfl := Option.some.inj hz
    exact hl
  · cases hq : lex (kyS z) (kyS x) with
    | false => rfl
    | true =>
      have := lex_trans _ _ _ (strict_at hs (by omega) hy hz) hq
      rw [hl] at this
      cases this
theorem cmp_low {a b : Text} (h : lex a b = true) : cmpT a b = -1 := by unfold cmpT; rw [if_pos h]
theorem cmp_high {a b : Text} (h : lex a b = false) : 0 ≤ cmpT a b ∧ (cmpT a b = 0 ↔ a = b) := by
  unfold cmpT
  rw [if_neg (by rw [h]; simp)]
  by_cases h2 : lex b a = true
  · rw [if_pos h2]
    exact ⟨by decide, ⟨fun e => (by cases e), fun e => absurd e.symm (lex_ne h2)⟩⟩
  · rw [if_neg h2]
    exact ⟨by decide, ⟨fun _ => lex_total _ _ h (by simpa using h2), fun _ => rfl⟩⟩
/-- What the search answers. -/
def BinOut (ss : List Text) (x : Text) (w : World) (e : Ending) (w' : World) : Prop := ∃ (i : Nat) (f : Bool), e = .returned (.tuple #[.int .i64 (i : Int), .bool f]) ∧ At ss x i f ∧ Below w.heap.size w w'
set_option maxRecDepth 100000 in
set_option maxHeartbeats 4000000 in
theorem bin_any (ss : List Text) (n : Nat) (hn47 : n ≤ 1099511627776) (hst : Strict kyS ss) (x : Text) (hxl : x.length = 64) (A : Option Addr) (c : Nat) (w : World) (h : Sgs w A n ss) :
    Calls Tryd.prog 27 #[.slice A n c, .agg (cells8 x).toArray, .func (.func 28) #[] #[]] w (BinOut ss x w) := by
  obtain ⟨w0, hw0⟩ : ∃ w0, w.alloc (.cells (cells8 x).toArray 43) = w0 := ⟨_, rfl⟩
  have B0 : Hid (Blk w0 w.heap.size 43 (cells8 x).toArray) := by show Blk _ _ _ _; rw [← hw0]; exact Blk.new _ _ _
  have hb0 : Hid (Below w.heap.size w w0) := by show Below _ _ _; rw [← hw0]; exact Below.heap_below w _
  have S0 := Lib.hid (h.below hb0.out)
  have hn0 := Lib.hid hn47
  have hst0 := Lib.hid hst
  have hx0 := Lib.hid hxl
  have hlen : Hid (ss.length = n) := h.len
  have sX : Hid ((Tryd.prog.info? 43).map (·.size) = some (cells8 x).toArray.size) := sizeB.trans (congrArg some (by rw [List.size_toArray, cells8_len, hxl]))
  have i1 : Hid (∀ t y, t < 0 → ss[t]? = some y → lex (kyS y) (kyS x) = true) := fun t y ht => absurd ht (Nat.not_lt_zero t)
  have i2 : Hid (∀ t y, n ≤ t → ss[t]? = some y → lex (kyS y) (kyS x) = false) := fun t y ht hy => by
    have := (List.getElem?_eq_some_iff.1 hy).1
    have := h.len
    omega
  clear h hst hxl
  go_enter Tryd.func27, Tryd.ntmps27
  go_wp2_with fail
  clear hw0
  go_loopw [9, 10] (fun v9 v10 wr => ∃ lo hi : Nat, v9 = .int .i64 (lo : Int) ∧ v10 = .int .i64 (hi : Int) ∧ Hid (lo ≤ hi) ∧ Hid (hi ≤ n) ∧ Hid (∀ t y, t < lo → ss[t]? = some y → lex (kyS y) (kyS x) = true) ∧ Hid (∀ t y, hi ≤ t → ss[t]? = some y → lex (kyS y) (kyS x) = false) ∧ Hid (Below w0.heap.size w0 wr)) (fun v9 v10 _ => (intOf v10).toNat - (intOf v9).toNat)
  case atStart => exact ⟨0, n, rfl, rfl, Nat.zero_le _, Nat.le_refl _, i1.out, i2.out, Below.refl _ _⟩
  case round =>
    clear i1 i2
    obtain ⟨lo, hi, rfl, rfl, hlh, hhn, j1, j2, hb⟩ := hrel
    have hlo : (lo : Int) ≤ 1099511627776 := by have := hlh.out; have := hhn.out; omega
    have hhi : (hi : Int) ≤ 1099511627776 := by have := hhn.out; omega
    have hl0 : (0 : Int) ≤ (lo : Int) := by omega
    have hh0 : (0 : Int) ≤ (hi : Int) := by omega
    have Sr := Lib.hid (S0.out.below hb.out)
    have Br : Hid (Blk wr w.heap.size 43 (cells8 x).toArray) := (hb.out.block _ B0.out.lt).trans B0.out
    by_cases hlt : lo < hi
    · have hz : (lo : Int) < (hi : Int) := by omega
      obtain ⟨m, hm⟩ : ∃ m, Hid ((lo + hi) / 2 = m) := ⟨_, Lib.hid rfl⟩
      have hm1 : Hid (lo ≤ m ∧ m < hi) := by show _ ∧ _; have := hm.out; omega
      have y1 : IntKind.i64.wrap ((lo : Int) + (hi : Int)) = (lo : Int) + (hi : Int) := IntWalk.i64_in _ (by omega)
      have y2 : IntKind.u64.wrap ((lo : Int) + (hi : Int)) = (lo : Int) + (hi : Int) := u64_in _ (by omega) (by omega)
      have y3 : ((lo : Int) + (hi : Int)) / 2 = (m : Int) := by have := hm.out; omega
      have y4 : IntKind.i64.wrap (m : Int) = (m : Int) := IntWalk.i64_in _ (by have := hm1.out; omega)
      have y6 : IntKind.u64.wrap (m : Int) = (m : Int) := u64_in _ (by omega) (by have := hm1.out; omega)
      have hmz : (m : Int) < (n : Int) := by have := hm1.out; have := hhn.out; omega
      have hm0 : (0 : Int) ≤ (m : Int) := by omega
      have hm6 : (m : Int) ≤ 1099511627776 := by have := hm1.out; omega
      obtain ⟨y, hy⟩ : ∃ y, Hid (ss[m]? = some y) := ⟨_, List.getElem?_eq_getElem (by rw [hlen.out]; have := hm1.out; have := hhn.out; omega)⟩
      have hyl := Lib.hid (Sr.out.all y (List.mem_of_getElem? hy.out))
      obtain ⟨b, o, hA, hbl, hcy⟩ := Sr.out.at_ hy.out
      subst hA
      have hfy : Hid (∀ w', Below wr.heap.size wr w' → ∀ j u, (cells8 y)[j]? = some u → w'.cell? ⟨b, o + m * 64 + j, none⟩ = some u) := fun w' hb' j u hu => (hb'.cell (p := ⟨b, o + m * 64 + j, none⟩) hbl).trans (hcy j u hu)
      have sY : Hid ((Tryd.prog.info? 43).map (·.size) = some (cells8 y).length) := by show _ = _; rw [cells8_len, hyl.out]; exact sizeB
      have hlt' : Hid (lo < hi) := hlt
      clear hcy hlt
      go_upto_region 5 with fail
      cases hl : lex (kyS y) (kyS x) with
      | true =>
        have hc : Hid (cmpT (kyS y) (kyS x) = -1) := cmp_low hl
        have n1 := Lib.hid (up_low hst0.out hy.out hl)
        clear hl
        refine q_region (Class wr) (by kernel_rfl) (by kernel_rfl) (Class.mk_ ((Below.refl _ _).drew)) ?_
        refine q_move rfl (.tmp 2) rfl ?_
        (intro K hK; go_simp; refine hK _ ?_; clear hK K)
        refine q_move rfl (.tmp 0) rfl ?_
        (intro K hK; go_simp; refine hK _ ?_; clear hK K)
        refine q_move rfl (.tmp 11) rfl ?_
        (intro K hK; go_simp; refine hK _ ?_; clear hK K)
        refine q_val (v := .pointer (some ⟨b, o + m * 64, none⟩)) rfl (fun w' hw' => by go_simp) ?_
        (intro K hK; go_simp; refine hK _ ?_; clear hK K)
        refine q_part rfl 43 (.tmp 27) rfl b ((o + m * 64)) rfl (cells8 y) _ (fun w' hw' => hfy.out w' hw'.below) Tryd.underlying43 rfl sY.out ?_
        (intro K hK; go_simp; refine hK _ ?_; clear hK K)
        refine q_row rfl 43 (.tmp 4) rfl w.heap.size rfl 43 ((cells8 x).toArray) (0, 0) _ (fun w' hw' => (hw'.below.block _ Br.out.lt).trans Br.out) Tryd.underlying43 rfl sX.out ?_
        (intro K hK; go_simp; refine hK _ ?_; clear hK K)
        refine q_fnv (v := .int .i64 (-1)) (f := 28) (args := #[.agg (cells8 y).toArray, .agg (cells8 x).toArray]) rfl _ _ rfl rfl rfl Tryd.func28 (by kernel_rfl) (by kernel_rfl) (fun w' hw' => ((byKey_below y x hyl.out hx0.out w').mono fun e w'' ⟨he, hb⟩ => ⟨by rw [he, hc.out], hw'.next hb⟩)) ?_
        (intro K hK; go_simp; refine hK _ ?_; clear hK K)
        refine q_val (v := .bool true) rfl (fun w' hw' => by go_simp) ?_
        (intro K hK; go_simp; refine hK _ ?_; clear hK K)
        refine q_nil ?_
        intro w5 hw5
        have hb5 : Hid (Below w0.heap.size w0 w5) := hb.out.trans (hw5.below.mono hb.out.size)
        clear hw5
        go_wp2_with fail
        go_roundw
        case rel => exact ⟨m + 1, hi, by go_num, rfl, hm1.out.2, hhn.out, n1.out, j2.out, hb5.out⟩
        case measure => (have := hm1.out; have := hlt'.out; simp [intOf]; omega)
      | false =>
        obtain ⟨r, hc⟩ : ∃ r, Hid (cmpT (kyS y) (kyS x) = r) := ⟨_, Lib.hid rfl⟩
        have hr0 : (0 : Int) ≤ r := by rw [← hc.out]; exact (cmp_high hl).1
        have n2 := Lib.hid (up_high hst0.out hy.out hl)
        clear hl
        refine q_region (Class wr) (by kernel_rfl) (by kernel_rfl) (Class.mk_ ((Below.refl _ _).drew)) ?_
        refine q_move rfl (.tmp 2) rfl ?_
        (intro K hK; go_simp; refine hK _ ?_; clear hK K)
        refine q_move rfl (.tmp 0) rfl ?_
        (intro K hK; go_simp; refine hK _ ?_; clear hK K)
        refine q_move rfl (.tmp 11) rfl ?_
        (intro K hK; go_simp; refine hK _ ?_; clear hK K)
        refine q_val (v := .pointer (some ⟨b, o + m * 64, none⟩)) rfl (fun w' hw' => by go_simp) ?_
        (intro K hK; go_simp; refine hK _ ?_; clear hK K)
        refine q_part rfl 43 (.tmp 27) rfl b ((o + m * 64)) rfl (cells8 y) _ (fun w' hw' => hfy.out w' hw'.below) Tryd.underlying43 rfl sY.out ?_
        (intro K hK; go_simp; refine hK _ ?_; clear hK K)
        refine q_row rfl 43 (.tmp 4) rfl w.heap.size rfl 43 ((cells8 x).toArray) (0, 0) _ (fun w' hw' => (hw'.below.block _ Br.out.lt).trans Br.out) Tryd.underlying43 rfl sX.out ?_
        (intro K hK; go_simp; refine hK _ ?_; clear hK K)
        refine q_fnv (v := .int .i64 r) (f := 28) (args := #[.agg (cells8 y).toArray, .agg (cells8 x).toArray]) rfl _ _ rfl rfl rfl Tryd.func28 (by kernel_rfl) (by kernel_rfl) (fun w' hw' => ((byKey_below y x hyl.out hx0.out w').mono fun e w'' ⟨he, hb⟩ => ⟨by rw [he, hc.out], hw'.next hb⟩)) ?_
        (intro K hK; go_simp; refine hK _ ?_; clear hK K)
        refine q_val (v := .bool false) rfl (fun w' hw' => by go_simp) ?_
        (intro K hK; go_simp; refine hK _ ?_; clear hK K)
        refine q_nil ?_
        intro w5 hw5
        have hb5 : Hid (Below w0.heap.size w0 w5) := hb.out.trans (hw5.below.mono hb.out.size)
        clear hw5
        go_wp2_with fail
        go_roundw
        case rel => exact ⟨lo, m, rfl, by go_num, hm1.out.1, Nat.le_of_lt (Nat.lt_of_lt_of_le hm1.out.2 hhn.out), j1.out, n2.out, hb5.out⟩
        case measure => (have := hm1.out; have := hlt'.out; simp [intOf]; omega)
    · have hz : ¬ ((lo : Int) < (hi : Int)) := by omega
      obtain rfl : lo = hi := by have := hlh.out; omega
      have bw : Hid (Below w.heap.size w wr) := hb0.out.trans (hb.out.mono hb0.out.size)
      have a1 := Lib.hid (low_mem j1.out)
      have a2 := Lib.hid (high_mem j2.out)
      clear hlt
      go_upto_region 8 with fail
      by_cases hln : lo < n
      · have hz2 : (lo : Int) < (n : Int) := by omega
        obtain ⟨y, hy⟩ : ∃ y, Hid (ss[lo]? = some y) := ⟨_, List.getElem?_eq_getElem (by rw [hlen.out]; exact hln)⟩
        have hyl := Lib.hid (Sr.out.all y (List.mem_of_getElem? hy.out))
        obtain ⟨b, o, hA, hbl, hcy⟩ := Sr.out.at_ hy.out
        subst hA
        have hfy : Hid (∀ w', Below wr.heap.size wr w' → ∀ j u, (cells8 y)[j]? = some u → w'.cell? ⟨b, o + lo * 64 + j, none⟩ = some u) := fun w' hb' j u hu => (hb'.cell (p := ⟨b, o + lo * 64 + j, none⟩) hbl).trans (hcy j u hu)
        have sY : Hid ((Tryd.prog.info? 43).map (·.size) = some (cells8 y).length) := by show _ = _; rw [cells8_len, hyl.out]; exact sizeB
        have hlow : lex (kyS y) (kyS x) = false := j2.out lo y (Nat.le_refl _) hy.out
        obtain ⟨r, hc⟩ : ∃ r, Hid (cmpT (kyS y) (kyS x) = r) := ⟨_, Lib.hid rfl⟩
        have hfo : Hid ((r == 0) = decide ((ss[lo]?).map kyS = some (kyS x))) := by
          show _ = _
          rw [hy.out, ← hc.out]
          have e := (cmp_high hlow).2
          by_cases p : kyS y = kyS x
          · rw [e.2 p, Option.map_some, p]; simp
          · rw [Option.map_some, decide_eq_false (by simpa using p)]; simp; exact fun q => p (e.1 q)
        obtain ⟨fb, hfb⟩ : ∃ fb, Hid ((r == 0) = fb) := ⟨_, Lib.hid rfl⟩
        have hfb2 := hfb.out
        clear hcy hlow hln
        refine q_region (Class wr) (by kernel_rfl) (by kernel_rfl) (Class.mk_ ((Below.refl _ _).drew)) ?_
        refine q_move rfl (.tmp 9) rfl ?_
        (intro K hK; go_simp; refine hK _ ?_; clear hK K)
        refine q_move rfl (.tmp 9) rfl ?_
        (intro K hK; go_simp; refine hK _ ?_; clear hK K)
        refine q_val (v := .int .i64 (n : Int)) rfl (fun w' hw' => by go_simp) ?_
        (intro K hK; go_simp; refine hK _ ?_; clear hK K)
        refine q_val (v := .bool true) rfl (fun w' hw' => by go_simp) ?_
        (intro K hK; go_simp; refine hK _ ?_; clear hK K)
        refine q_val (v := .bool true) rfl (fun w' hw' => by go_simp) ?_
        (intro K hK; go_simp; refine hK _ ?_; clear hK K)
        refine q_move rfl (.tmp 2) rfl ?_
        (intro K hK; go_simp; refine hK _ ?_; clear hK K)
        refine q_move rfl (.tmp 0) rfl ?_
        (intro K hK; go_simp; refine hK _ ?_; clear hK K)
        refine q_move rfl (.tmp 9) rfl ?_
        (intro K hK; go_simp; refine hK _ ?_; clear hK K)
        refine q_val (v := .pointer (some ⟨b, o + lo * 64, none⟩)) rfl (fun w' hw' => by go_simp) ?_
        (intro K hK; go_simp; refine hK _ ?_; clear hK K)
        refine q_part rfl 43 (.tmp 43) rfl b ((o + lo * 64)) rfl (cells8 y) _ (fun w' hw' => hfy.out w' hw'.below) Tryd.underlying43 rfl sY.out ?_
        (intro K hK; go_simp; refine hK _ ?_; clear hK K)
        refine q_row rfl 43 (.tmp 4) rfl w.heap.size rfl 43 ((cells8 x).toArray) (0, 0) _ (fun w' hw' => (hw'.below.block _ Br.out.lt).trans Br.out) Tryd.underlying43 rfl sX.out ?_
        (intro K hK; go_simp; refine hK _ ?_; clear hK K)
        refine q_fnv (v := .int .i64 r) (f := 28) (args := #[.agg (cells8 y).toArray, .agg (cells8 x).toArray]) rfl _ _ rfl rfl rfl Tryd.func28 (by kernel_rfl) (by kernel_rfl) (fun w' hw' => ((byKey_below y x hyl.out hx0.out w').mono fun e w'' ⟨he, hb⟩ => ⟨by rw [he, hc.out], hw'.next hb⟩)) ?_
        (intro K hK; go_simp; refine hK _ ?_; clear hK K)
        refine q_val (v := .bool fb) rfl (fun w' hw' => by go_simp) ?_
        (intro K hK; go_simp; refine hK _ ?_; clear hK K)
        refine q_val (v := .bool fb) rfl (fun w' hw' => by go_simp) ?_
        (intro K hK; go_simp; refine hK _ ?_; clear hK K)
        refine q_val (v := .int .i64 (lo : Int)) rfl (fun w' hw' => by go_simp) ?_
        (intro K hK; go_simp; refine hK _ ?_; clear hK K)
        refine q_val (v := .bool fb) rfl (fun w' hw' => by go_simp) ?_
        (intro K hK; go_simp; refine hK _ ?_; clear hK K)
        refine q_nil ?_
        intro w5 hw5
        have hw5c := Lib.hid hw5.below
        clear hw5
        go_wp2_with fail
        go_ret2
        unfold BinOut
        exact ⟨lo, fb, rfl, ⟨by rw [hlen.out]; have := hhn.out; exact this, a1.out, a2.out, by rw [← hfb.out, hfo.out]⟩, bw.out.trans (hw5c.out.mono bw.out.size)⟩
      · have hz2 : ¬ ((lo : Int) < (n : Int)) := by omega
        have hnn : Hid (decide ((ss[lo]?).map kyS = some (kyS x)) = false) := by show _ = _; rw [List.getElem?_eq_none (by rw [hlen.out]; omega)]; simp
        clear hln
        refine q_region (Class wr) (by kernel_rfl) (by kernel_rfl) (Class.mk_ ((Below.refl _ _).drew)) ?_
        refine q_move rfl (.tmp 9) rfl ?_
        (intro K hK; go_simp; refine hK _ ?_; clear hK K)
        refine q_move rfl (.tmp 9) rfl ?_
        (intro K hK; go_simp; refine hK _ ?_; clear hK K)
        refine q_val (v := .int .i64 (n : Int)) rfl (fun w' hw' => by go_simp) ?_
        (intro K hK; go_simp; refine hK _ ?_; clear hK K)
        refine q_val (v := .bool false) rfl (fun w' hw' => by go_simp) ?_
        (intro K hK; go_simp; refine hK _ ?_; clear hK K)
        refine q_val (v := .bool false) rfl (fun w' hw' => by go_simp) ?_
        (intro K hK; go_simp; refine hK _ ?_; clear hK K)
        refine q_skip rfl ?_
        (intro K hK; go_simp; refine hK _ ?_; clear hK K)
        refine q_skip rfl ?_
        (intro K hK; go_simp; refine hK _ ?_; clear hK K)
        refine q_skip rfl ?_
        (intro K hK; go_simp; refine hK _ ?_; clear hK K)
        refine q_skip rfl ?_
        (intro K hK; go_simp; refine hK _ ?_; clear hK K)
        refine q_skip rfl ?_
        (intro K hK; go_simp; refine hK _ ?_; clear hK K)
        refine q_skip rfl ?_
        (intro K hK; go_simp; refine hK _ ?_; clear hK K)
        refine q_skip rfl ?_
        (intro K hK; go_simp; refine hK _ ?_; clear hK K)
        refine q_skip rfl ?_
        (intro K hK; go_simp; refine hK _ ?_; clear hK K)
        refine q_val (v := .bool false) rfl (fun w' hw' => by go_simp) ?_
        (intro K hK; go_simp; refine hK _ ?_; clear hK K)
        refine q_val (v := .int .i64 (lo : Int)) rfl (fun w' hw' => by go_simp) ?_
        (intro K hK; go_simp; refine hK _ ?_; clear hK K)
        refine q_val (v := .bool false) rfl (fun w' hw' => by go_simp) ?_
        (intro K hK; go_simp; refine hK _ ?_; clear hK K)
        refine q_nil ?_
        intro w5 hw5
        have hw5c := Lib.hid hw5.below
        clear hw5
        go_wp2_with fail
        go_ret2
        unfold BinOut
        exact ⟨lo, false, rfl, ⟨by rw [hlen.out]; exact hhn.out, a1.out, a2.out, by rw [hnn.out]⟩, bw.out.trans (hw5c.out.mono bw.out.size)⟩
end Go.Proofs.YteelanamlhfmgaaDoor.Bin

namespace Go.Proofs.YteelanamlhfmgaaDoor.RowS
open Go Go.RowKit Go.Proofs.YteelanamlhfmgaaDoor Go.Proofs.YteelanamlhfmgaaDoor.Mem Go.Proofs.YteelanamlhfmgaaDoor.Sha Go.Proofs.YteelanamlhfmgaaDoor.Bytes Go.Proofs.YteelanamlhfmgaaDoor.SortP Go.Proofs.YteelanamlhfmgaaDoor.NoteP Go.Proofs.YteelanamlhfmgaaDoor.Rise Go.Proofs.YteelanamlhfmgaaDoor.SortM Go.Proofs.YteelanamlhfmgaaDoor.SgM

def z64 : Text := List.replicate 64 0
def RowS (w : World) (g : Nat) (ds : List Text) : Prop := Blk w g 43 (ds.flatMap cells8).toArray
theorem flat_set (ds : List Text) (h : Sns ds) (i : Nat) (hi : i < ds.length) (x : Text) : (ds.flatMap cells8).take (i * 64) ++ cells8 x ++ (ds.flatMap cells8).drop (i * 64 + 64) = (ds.set i x).flatMap cells8 := by
  rw [flat_take ds i h, show i * 64 + 64 = (i + 1) * 64 by omega, flat_drop ds (i + 1) h, List.set_eq_take_append_cons_drop, if_pos hi, List.flatMap_append, List.flatMap_cons, List.append_assoc]
theorem Sns.set_ {ds : List Text} (h : Sns ds) (i : Nat) {x : Text} (hx : x.length = 64) : Sns (ds.set i x) := fun d hd => by
  rcases List.mem_or_eq_of_mem_set hd with h1 | h1
  · exact h d h1
  · rw [h1]; exact hx
theorem Sns.rep (m : Nat) {x : Text} (hx : x.length = 64) : Sns (List.replicate m x) := fun d hd => by rw [List.eq_of_mem_replicate hd, hx]
theorem z64_len : z64.length = 64 := by unfold z64; simp
theorem RowS.rd {w : World} {g : Nat} {ds : List Text} (h : RowS w g ds) (hd : Sns ds) : Sgs w (some ⟨g, 0, none⟩) ds.length ds :=
  ⟨rfl, hd, Blk.reads h 0 _ (flat_len ds hd) (fun j u hu => by rw [Nat.zero_add, List.getElem?_toArray]; exact hu)⟩
theorem RowS.below {w w' : World} {g : Nat} {ds : List Text} (h : RowS w g ds) (hb : Below w.heap.size w w') : RowS w' g ds := (hb.block g (Blk.lt h)).trans h
theorem RowS.kept {w w' : World} {g : Nat} {ds : List Text} {S : Nat → Prop} (h : RowS w g ds) (hk : Kept S w w') (hS : ¬ S g) : RowS w' g ds := Blk.kept h hk hS
end Go.Proofs.YteelanamlhfmgaaDoor.RowS

namespace Go.Proofs.YteelanamlhfmgaaDoor.Stranger
open Go Go.RowKit Go.Proofs.YteelanamlhfmgaaDoor Go.Proofs.YteelanamlhfmgaaDoor.Mem Go.Proofs.YteelanamlhfmgaaDoor.Sha Go.Proofs.YteelanamlhfmgaaDoor.Bytes Go.Proofs.YteelanamlhfmgaaDoor.SgM Go.Proofs.YteelanamlhfmgaaDoor.RowS

/-- The sign that no statement draws. -/
def stS : Text := List.replicate 32 165 ++ List.replicate 32 90
theorem stS_len : stS.length = 64 := by unfold stS; simp
end Go.Proofs.YteelanamlhfmgaaDoor.Stranger
