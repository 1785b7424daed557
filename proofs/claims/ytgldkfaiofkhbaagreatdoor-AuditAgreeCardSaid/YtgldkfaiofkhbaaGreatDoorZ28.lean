/-
  Texts of the claim, put into one file: SgM, EncNoteP, RowS, Bin, BinH, RingS, Find, RefRising.
-/
import Derived.Test.YtgldkfaiofkhbaaGreatDoorZ27
import Derived.Test.YtgldkfaiofkhbaaGreatDoorZ11
import Derived.Deep.Cut
import Derived.Test.YtgldkfaiofkhbaaGreatDoorShelfH
import Derived.Test.YtgldkfaiofkhbaaGreatDoorZ3
import Derived.Test.YtgldkfaiofkhbaaGreatDoorZ4

namespace Go.Proofs.YtgldkfaiofkhbaaGreatDoor.SgM
open Go Go.RowKit Go.Proofs.YtgldkfaiofkhbaaGreatDoor Mem Sha Bytes SortP NoteP Rise SortM Go.Proofs.YtgldkfaiofkhbaaGreatDoor.Append Own

def Sns (ds : List Text) : Prop := ∀ d ∈ ds, d.length = 64
theorem Sns.take_ {ds : List Text} (h : Sns ds) (k : Nat) : Sns (ds.take k) := fun d hd => h d (List.mem_of_mem_take hd)
theorem Sns.at_ {ds : List Text} (h : Sns ds) {i : Nat} {d : Text} (hi : ds[i]? = some d) : d.length = 64 := h d (List.mem_of_getElem? hi)
theorem Sns.append_ {xs ys : List Text} (h : Sns xs) (k : Sns ys) : Sns (xs ++ ys) := fun d hd => by
 rcases List.mem_append.1 hd with x | x
 ·exact h d x
 ·exact k d x
theorem Sns.one {d : Text} (h : d.length = 64) : Sns [d] := fun x hx => by simp only [List.mem_singleton] at hx; rw [hx, h]
theorem Sns.nil : Sns [] := fun _ h => by cases h
theorem flat_take : ∀ (ds : List Text) (k : Nat), Sns ds → (ds.flatMap cells8).take (k * 64) = (ds.take k).flatMap cells8
 | [], k, _ => by simp
 | d :: ds, 0, _ => by simp
 | d :: ds, k + 1, h => by
  have h1 := flat_take ds k (fun x hx => h x (List.mem_cons_of_mem _ hx))
  have h2 : (cells8 d).length = 64 := by rw [cells8_len]; exact h d (List.mem_cons_self ..)
  simp only [List.flatMap_cons, List.take_succ_cons]
  rw [List.take_append, h2, List.take_of_length_le (by omega), show (k + 1) * 64 - 64 = k * 64 by omega, h1]
theorem one_signs (ss : List Text) : ∀ u ∈ ss.flatMap cells8, u.oneCell' = true := by
 intro u hu
 obtain ⟨t, -, ht⟩ := List.mem_flatMap.1 hu
 exact cells8_one t u ht
section
variable {w w' : World} {A : Option Addr} {n : Nat} {ds : List Text}
theorem _root_.Go.Proofs.YtgldkfaiofkhbaaGreatDoor.Rise.Sgs.nil_ (w : World) (A : Option Addr) : Sgs w A 0 [] := ⟨rfl, (fun _ h => by cases h), Reads.nil_ _ _ _⟩
theorem _root_.Go.Proofs.YtgldkfaiofkhbaaGreatDoor.Rise.Sgs.drewN (h : Sgs w A n ds) (k : Nat) : Sgs (w.drewN k) A n ds := ⟨h.len, h.all, h.rd.drewN k⟩
theorem _root_.Go.Proofs.YtgldkfaiofkhbaaGreatDoor.Rise.Sgs.take_ (h : Sgs w A n ds) (k : Nat) (hk : k ≤ n) : Sgs w A k (ds.take k) := by
 have hl := h.len
 have ha : Sns (ds.take k) := Sns.take_ h.all k
 have hlen : (ds.take k).length = k := by rw [List.length_take]; omega
 refine ⟨hlen, ha, by rw [flat_len _ ha, hlen], fun h0 => ?_⟩
 obtain ⟨b, o, e, hb, hc⟩ := h.rd.2 (by omega)
 refine ⟨b, o, e, hb, fun j u hu => hc j u ?_⟩
 rw [← flat_take ds k h.all, List.getElem?_take] at hu
 by_cases hj : j < k * 64
 ·rw [if_pos hj] at hu; exact hu
 ·rw [if_neg hj] at hu; cases hu
end
def Z64 : Array Value := #[Value.int IntKind.u8 0, Value.int IntKind.u8 0, Value.int IntKind.u8 0, Value.int IntKind.u8 0, Value.int IntKind.u8 0, Value.int IntKind.u8 0, Value.int IntKind.u8 0, Value.int IntKind.u8 0, Value.int IntKind.u8 0, Value.int IntKind.u8 0, Value.int IntKind.u8 0, Value.int IntKind.u8 0, Value.int IntKind.u8 0, Value.int IntKind.u8 0, Value.int IntKind.u8 0, Value.int IntKind.u8 0, Value.int IntKind.u8 0, Value.int IntKind.u8 0, Value.int IntKind.u8 0, Value.int IntKind.u8 0, Value.int IntKind.u8 0, Value.int IntKind.u8 0, Value.int IntKind.u8 0, Value.int IntKind.u8 0, Value.int IntKind.u8 0, Value.int IntKind.u8 0, Value.int IntKind.u8 0, Value.int IntKind.u8 0, Value.int IntKind.u8 0, Value.int IntKind.u8 0, Value.int IntKind.u8 0, Value.int IntKind.u8 0, Value.int IntKind.u8 0, Value.int IntKind.u8 0, Value.int IntKind.u8 0, Value.int IntKind.u8 0, Value.int IntKind.u8 0, Value.int IntKind.u8 0, Value.int IntKind.u8 0, Value.int IntKind.u8 0, Value.int IntKind.u8 0, Value.int IntKind.u8 0, Value.int IntKind.u8 0, Value.int IntKind.u8 0, Value.int IntKind.u8 0, Value.int IntKind.u8 0, Value.int IntKind.u8 0, Value.int IntKind.u8 0, Value.int IntKind.u8 0, Value.int IntKind.u8 0, Value.int IntKind.u8 0, Value.int IntKind.u8 0, Value.int IntKind.u8 0, Value.int IntKind.u8 0, Value.int IntKind.u8 0, Value.int IntKind.u8 0, Value.int IntKind.u8 0, Value.int IntKind.u8 0, Value.int IntKind.u8 0, Value.int IntKind.u8 0, Value.int IntKind.u8 0, Value.int IntKind.u8 0, Value.int IntKind.u8 0, Value.int IntKind.u8 0]
theorem info64 : (Tryz.prog.info? 57).map (fun i => (i.zero, i.size, i.bytes)) = some (some (.agg Z64), 64, 64) := by kernel_rfl
theorem info_partsN {P : Program} {e : TypeId} {z : Value} {s b : Nat} (h : (P.info? e).map (fun i => (i.zero, i.size, i.bytes)) = some (some z, s, b)) : ∃ i : TypeInfo, P.info? e = some i ∧ i.zero = some z ∧ i.size = s ∧ i.bytes = b := by
 cases hq : P.info? e with
 | none => simp [hq] at h
 | some i =>
  simp [hq] at h
  exact ⟨i, rfl, h.1, h.2.1, h.2.2⟩
def OwnS (w : World) (B : Nat) (v : Value) (n : Nat) (ds : List Text) : Prop := Sns ds ∧ ds.length = n ∧ w.ownsRow B 57 64 v n (ds.flatMap cells8)
theorem OwnS.nil (w : World) (B : Nat) : OwnS w B (.slice none 0 0) 0 [] := ⟨Sns.nil, rfl, World.ownsRow_nil _ _ _ _⟩
theorem OwnS.below {w w' : World} {B n : Nat} {v : Value} {ds : List Text} (h : OwnS w B v n ds) (hb : Below w.heap.size w w') : OwnS w' B v n ds := ⟨h.1, h.2.1, own_below h.2.2 hb⟩
theorem OwnS.reads {w : World} {B n : Nat} {v : Value} {ds : List Text} (h : OwnS w B v n ds) : ∃ A c, v = .slice A n c ∧ n ≤ c ∧ c ≤ maxLen ∧ (A = none → n = 0 ∧ c = 0) ∧ Sgs w A n ds ∧ ∀ a, A = some a → B ≤ a.block := by
 obtain ⟨A, c, e, h1, h2, h3, h4, h5⟩ := Own.reads h.2.2
 exact ⟨A, c, e, h1, h2, h3, ⟨h.2.1, h.1, h4⟩, fun a ha => (h5 a ha).1⟩
theorem OwnS.base {w : World} {B B' n : Nat} {v : Value} {ds : List Text} (h : OwnS w B v n ds) (hB : B' ≤ B) : OwnS w B' v n ds := ⟨h.1, h.2.1, ownsRow_base h.2.2 hB⟩
theorem own_some {w : World} {B n c : Nat} {A : Option Addr} {ds : List Text} (h : OwnS w B (.slice A n c) n ds) (hn : 0 < n) : ∃ g, A = some ⟨g, 0, none⟩ := by
 rcases h.2.2.2 with ⟨h2, h3⟩ | ⟨g, c2, cur, h2, -⟩
 ·omega
 ·injection h2 with h2
  exact ⟨g, h2⟩
theorem grew_signs {w w' : World} {B n m : Nat} {v v' : Value} {xs ys : List Text} (h : Grew w B 57 64 v n m (xs.flatMap cells8) (ys.flatMap cells8) v' w') {w0 : World} (hb : Below B w0 w) (hB : B ≤ w.heap.size) (hx : OwnS w B v n xs) (hy : Sns ys) (hm : ys.length = m) :
  OwnS w' B v' (n + m) (xs ++ ys) ∧ Below B w0 w' := by
 refine ⟨⟨Sns.append_ hx.1 hy, by rw [List.length_append, hx.2.1, hm], ?_⟩, ?_⟩
 ·have := h.own
  rwa [← List.flatMap_append] at this
 ·obtain ⟨A, c, rfl, -, -, -, -, -⟩ := OwnS.reads hx
  exact h.below hb hB (own_block hx.2.2)
end Go.Proofs.YtgldkfaiofkhbaaGreatDoor.SgM

namespace Go.Proofs.YtgldkfaiofkhbaaGreatDoor.EncNoteP
open Go Go.RowKit Go.Proofs.YtgldkfaiofkhbaaGreatDoor Mem Sha Bytes SortP NoteP Rise SgM

def tgS (t : Text) : Text := t.drop 32
theorem kyS_len {t : Text} (h : t.length = 64) : (kyS t).length = 32 := by unfold kyS; rw [List.length_take]; omega
theorem tgS_len {t : Text} (h : t.length = 64) : (tgS t).length = 32 := by unfold tgS; rw [List.length_drop]; omega
theorem kt_eq (t : Text) : [kyS t, tgS t].flatten = t := by unfold kyS tgS; simp
theorem ky_cell {t : Text} {j : Nat} {u : Value} (hu : (cells8 (kyS t))[j]? = some u) : (cells8 t)[0 + j]? = some u := by
 unfold kyS cells8 at hu
 rw [List.map_take, List.getElem?_take] at hu
 rw [Nat.zero_add]
 by_cases hj : j < 32
 ·rw [if_pos hj] at hu; exact hu
 ·rw [if_neg hj] at hu; cases hu
theorem tg_cell {t : Text} {j : Nat} {u : Value} (hu : (cells8 (tgS t))[j]? = some u) : (cells8 t)[32 + j]? = some u := by
 unfold tgS cells8 at hu
 rw [List.map_drop, List.getElem?_drop] at hu
 exact hu
end Go.Proofs.YtgldkfaiofkhbaaGreatDoor.EncNoteP

namespace Go.Proofs.YtgldkfaiofkhbaaGreatDoor.RowS
open Go Go.RowKit Go.Proofs.YtgldkfaiofkhbaaGreatDoor Mem Sha Bytes SortP NoteP Rise SortM SgM

def z64 : Text := List.replicate 64 0
def RowS (w : World) (g : Nat) (ds : List Text) : Prop := Blk w g 57 (ds.flatMap cells8).toArray
theorem Sns.set_ {ds : List Text} (h : Sns ds) (i : Nat) {x : Text} (hx : x.length = 64) : Sns (ds.set i x) := fun d hd => by
 rcases List.mem_or_eq_of_mem_set hd with h1 | h1
 ·exact h d h1
 ·rw [h1]; exact hx
theorem RowS.rd {w : World} {g : Nat} {ds : List Text} (h : RowS w g ds) (hd : Sns ds) : Sgs w (some ⟨g, 0, none⟩) ds.length ds :=
 ⟨rfl, hd, Blk.reads h 0 _ (flat_len ds hd) (fun j u hu => by rw [Nat.zero_add, List.getElem?_toArray]; exact hu)⟩
theorem RowS.below {w w' : World} {g : Nat} {ds : List Text} (h : RowS w g ds) (hb : Below w.heap.size w w') : RowS w' g ds := (hb.block g (Blk.lt h)).trans h
theorem RowS.kept {w w' : World} {g : Nat} {ds : List Text} {S : Nat → Prop} (h : RowS w g ds) (hk : Kept S w w') (hS : ¬ S g) : RowS w' g ds := Blk.kept h hk hS
end Go.Proofs.YtgldkfaiofkhbaaGreatDoor.RowS

namespace Go.Proofs.YtgldkfaiofkhbaaGreatDoor.Bin
open Go Go.RowKit Go.Proofs.YtgldkfaiofkhbaaGreatDoor Mem Sha Bytes SortP NoteP Compare Grown Want Rise SgM EncNoteP

theorem run_fnv {P : Program} {ρ : Operand → Value} {o : Oper} {f : FuncId} {fn : Func} {x : Operand} {args : Array Value} (ca : Array Operand) (ct : Array TypeId) (ho : o.op = .call { callee := .value x, args := ca, argTypes := ct }) (hx : ρ x = .func (.func f) #[] #[]) (ha : (ca.toList.map ρ).toArray = args)
  (hf : P.funcs[f]? = some fn) (hn : (fn.name == "runtime.NumGoroutine") = false) (hb : fn.body.isNone = false) (w : World) : (execOp ρ o).run P w = .ok (.enter f args) w := by
 subst ha
 have hr := run_fn (P := P) hf hn hb
 simp [execOp, ho, hx, resolve, invoke, hr, go_sem]
 rw [← Array.toList_map]
theorem q_fnv {P : Program} {l : List Oper} {ts : List Value} {df : List Deferred} {rest : List Oper} {o : Oper} {C : World → Prop} {Q : Act → Prop} {v : Value} {f : FuncId} {fn : Func} {x : Operand} {args : Array Value} (hg : wantB o.guard l ts = true) (ca : Array Operand) (ct : Array TypeId) (ho : o.op = .call { callee := .value x, args := ca, argTypes := ct }) (hx : (Act.mk ts.toArray df).eval x = .func (.func f) #[] #[]) (ha : (ca.toList.map (Act.mk ts.toArray df).eval).toArray = args)
  (hf : P.funcs[f]? = some fn) (hn : (fn.name == "runtime.NumGoroutine") = false) (hb : fn.body.isNone = false) (h : ∀ w, C w → Calls P f args w fun e w'' => e = .returned v ∧ C w'')
  (hk : ∀ K : Act → Prop, (∀ a, Veil (wpQuiet P l.toArray C Q rest a) → K a) → K ((Act.mk ts.toArray df).put o.dst v)) : Veil (wpQuiet P l.toArray C Q (o :: rest) ⟨ts.toArray, df⟩) :=
 ⟨wpQuiet_call (want hg) (fun w => run_fnv ca ct ho hx ha hf hn hb w) h (fun K hK => hk K fun a ha' => hK a ha'.out)⟩
structure At (ss : List Text) (x : Text) (i : Nat) (f : Bool) : Prop where
 le : i ≤ ss.length
 low : ∀ y ∈ ss.take i, lex (kyS y) (kyS x) = true
 high : ∀ y ∈ ss.drop i, lex (kyS y) (kyS x) = false
 found : f = decide ((ss[i]?).map kyS = some (kyS x))
theorem cmp_low {a b : Text} (h : lex a b = true) : cmpT a b = -1 := by unfold cmpT; rw [if_pos h]
theorem cmp_high {a b : Text} (h : lex a b = false) : 0 ≤ cmpT a b ∧ (cmpT a b = 0 ↔ a = b) := by
 unfold cmpT
 rw [if_neg (by rw [h]; simp)]
 by_cases h2 : lex b a = true
 ·rw [if_pos h2]
  exact ⟨by decide, ⟨fun e => (by cases e), fun e => absurd e.symm (lex_ne h2)⟩⟩
 ·rw [if_neg h2]
  exact ⟨by decide, ⟨fun _ => lex_total _ _ h (by simpa using h2), fun _ => rfl⟩⟩
end Go.Proofs.YtgldkfaiofkhbaaGreatDoor.Bin

namespace Go.Proofs.YtgldkfaiofkhbaaGreatDoor.BinH
open Go Go.RowKit Go.Proofs.YtgldkfaiofkhbaaGreatDoor Mem Sha Bytes SortP NoteP Compare Grown Want Rise SgM EncNoteP Bin RingM

theorem sizeK : (Tryz.prog.info? 142).map (·.size) = some 33 := by kernel_rfl
theorem size32k : (Tryz.prog.info? 23).map (·.size) = some 32 := by kernel_rfl
structure AtK (ss : List KD) (x : Text) (i : Nat) (f : Bool) : Prop where
 le : i ≤ ss.length
 low : ∀ y ∈ ss.take i, lex (idK y) x = true
 high : ∀ y ∈ ss.drop i, lex (idK y) x = false
 found : f = decide ((ss[i]?).map idK = some x)
theorem low_memK {ss : List KD} {x : Text} {i : Nat} (h : ∀ t y, t < i → ss[t]? = some y → lex (idK y) x = true) : ∀ y ∈ ss.take i, lex (idK y) x = true := fun y hy => by
 obtain ⟨t, ht, e⟩ := List.getElem_of_mem hy
 rw [List.length_take] at ht
 refine h t y (by omega) ?_
 rw [← e, List.getElem_take, List.getElem?_eq_getElem (by omega)]
theorem high_memK {ss : List KD} {x : Text} {i : Nat} (h : ∀ t y, i ≤ t → ss[t]? = some y → lex (idK y) x = false) : ∀ y ∈ ss.drop i, lex (idK y) x = false := fun y hy => by
 obtain ⟨t, ht, e⟩ := List.getElem_of_mem hy
 rw [List.length_drop] at ht
 refine h (i + t) y (by omega) ?_
 rw [← e, List.getElem_drop, List.getElem?_eq_getElem (by omega)]
theorem strict_atK {ss : List KD} (hs : Strict idK ss) {i j : Nat} {a b : KD} (hij : i < j) (ha : ss[i]? = some a) (hb : ss[j]? = some b) : lex (idK a) (idK b) = true := by
 obtain ⟨h1, rfl⟩ := List.getElem?_eq_some_iff.1 ha
 obtain ⟨h2, rfl⟩ := List.getElem?_eq_some_iff.1 hb
 exact strict_get hs hij h2
theorem up_lowK {ss : List KD} (hs : Strict idK ss) {x : Text} {y : KD} {h : Nat} (hy : ss[h]? = some y) (hl : lex (idK y) x = true) : ∀ t z, t < h + 1 → ss[t]? = some z → lex (idK z) x = true := fun t z ht hz => by
 by_cases e : t = h
 ·subst e
  rw [hy] at hz
  obtain rfl := Option.some.inj hz
  exact hl
 ·exact lex_trans _ _ _ (strict_atK hs (by omega) hz hy) hl
theorem up_highK {ss : List KD} (hs : Strict idK ss) {x : Text} {y : KD} {h : Nat} (hy : ss[h]? = some y) (hl : lex (idK y) x = false) : ∀ t z, h ≤ t → ss[t]? = some z → lex (idK z) x = false := fun t z ht hz => by
 by_cases e : t = h
 ·subst e
  rw [hy] at hz
  obtain rfl := Option.some.inj hz
  exact hl
 ·cases hq : lex (idK z) x with
  | false => rfl
  | true =>
   have := lex_trans _ _ _ (strict_atK hs (by omega) hy hz) hq
   rw [hl] at this
   cases this
structure Kds (w : World) (A : Option Addr) (n : Nat) (l : List KD) : Prop where
 len : l.length = n
 rd : Reads w 33 A n (l.flatMap encK)
theorem Kds.below {w w' : World} {A : Option Addr} {n : Nat} {l : List KD} (h : Kds w A n l) (hb : Below w.heap.size w w') : Kds w' A n l := ⟨h.len, h.rd.below hb⟩
theorem Kds.at_ {w : World} {A : Option Addr} {n : Nat} {l : List KD} (h : Kds w A n l) {i : Nat} {x : KD} (hx : l[i]? = some x) : ∃ b o, A = some ⟨b, o, none⟩ ∧ b < w.heap.size ∧ ∀ (j : Nat) (u : Value), (encK x)[j]? = some u → w.cell? ⟨b, o + i * 33 + j, none⟩ = some u := by
 have hi : i < l.length := (List.getElem?_eq_some_iff.1 hx).1
 obtain ⟨b, o, e, hb, hc⟩ := h.rd.at_ (by have := h.len; omega)
 refine ⟨b, o, e, hb, fun j u hu => ?_⟩
 have hj : j < 33 := by
  have := (List.getElem?_eq_some_iff.1 hu).1
  rw [encK_len] at this
  exact this
 rw [Nat.add_assoc]
 apply hc
 rw [flatK_at l i x j hx hj]
 exact hu
def BinKOut (ss : List KD) (x : Text) (w : World) (e : Ending) (w' : World) : Prop := ∃ (i : Nat) (f : Bool), e = .returned (.tuple #[.int .i64 (i : Int), .bool f]) ∧ AtK ss x i f ∧ Below w.heap.size w w'
set_option maxRecDepth 100000 in
set_option maxHeartbeats 4000000 in
theorem binK_any (ss : List KD) (n : Nat) (hn47 : n ≤ 1099511627776) (hst : Strict idK ss) (x : Text) (hxl : x.length = 32) (A : Option Addr) (c : Nat) (w : World) (h : Kds w A n ss) :
  Calls Tryz.prog 214 #[.slice A n c, .agg (cells8 x).toArray, .func (.func 215) #[] #[]] w (BinKOut ss x w) := by
 obtain ⟨w0, hw0⟩ : ∃ w0, w.alloc (.cells (cells8 x).toArray 23) = w0 := ⟨_, rfl⟩
 have B0 : Hid (Blk w0 w.heap.size 23 (cells8 x).toArray) := by show Blk _ _ _ _; rw [← hw0]; exact Blk.new _ _ _
 have hb0 : Hid (Below w.heap.size w w0) := by show Below _ _ _; rw [← hw0]; exact Below.heap_below w _
 have S0 := Lib.hid (h.below hb0.out)
 have hn0 := Lib.hid hn47
 have hst0 := Lib.hid hst
 have hx0 := Lib.hid hxl
 have hlen : Hid (ss.length = n) := h.len
 have sX : Hid ((Tryz.prog.info? 23).map (·.size) = some (cells8 x).toArray.size) := size32k.trans (congrArg some (by rw [List.size_toArray, cells8_len, hxl]))
 have i1 : Hid (∀ t y, t < 0 → ss[t]? = some y → lex (idK y) x = true) := fun t y ht => absurd ht (Nat.not_lt_zero t)
 have i2 : Hid (∀ t y, n ≤ t → ss[t]? = some y → lex (idK y) x = false) := fun t y ht hy => by
  have := (List.getElem?_eq_some_iff.1 hy).1
  have := h.len
  omega
 clear h hst hxl
 go_enter Tryz.func214, Tryz.ntmps214
 go_wp2_with fail
 clear hw0
 go_loopw [9, 10] (fun v9 v10 wr => ∃ lo hi : Nat, v9 = .int .i64 (lo : Int) ∧ v10 = .int .i64 (hi : Int) ∧ Hid (lo ≤ hi) ∧ Hid (hi ≤ n) ∧ Hid (∀ t y, t < lo → ss[t]? = some y → lex (idK y) x = true) ∧ Hid (∀ t y, hi ≤ t → ss[t]? = some y → lex (idK y) x = false) ∧ Hid (Below w0.heap.size w0 wr)) (fun v9 v10 _ => (intOf v10).toNat - (intOf v9).toNat)
 case atStart => exact ⟨0, n, rfl, rfl, Nat.zero_le _, Nat.le_refl _, i1.out, i2.out, Below.refl _ _⟩
 case round =>
  clear i1 i2
  obtain ⟨lo, hi, rfl, rfl, hlh, hhn, j1, j2, hb⟩ := hrel
  have hlo : (lo : Int) ≤ 1099511627776 := by have := hlh.out; have := hhn.out; omega
  have hhi : (hi : Int) ≤ 1099511627776 := by have := hhn.out; omega
  have hl0 : (0 : Int) ≤ (lo : Int) := by omega
  have hh0 : (0 : Int) ≤ (hi : Int) := by omega
  have Sr := Lib.hid (S0.out.below hb.out)
  have Br : Hid (Blk wr w.heap.size 23 (cells8 x).toArray) := (hb.out.block _ B0.out.lt).trans B0.out
  by_cases hlt : lo < hi
  ·have hz : (lo : Int) < (hi : Int) := by omega
   obtain ⟨m, hm⟩ : ∃ m, Hid ((lo + hi) / 2 = m) := ⟨_, Lib.hid rfl⟩
   have hm1 : Hid (lo ≤ m ∧ m < hi) := by show _ ∧ _; have := hm.out; omega
   have y1 : IntKind.i64.wrap ((lo : Int) + (hi : Int)) = (lo : Int) + (hi : Int) := IntWalk.i64_in _ (by omega)
   have y2 : IntKind.u64.wrap ((lo : Int) + (hi : Int)) = (lo : Int) + (hi : Int) := u64_in _ (by omega) (by omega)
   have y3 : ((lo : Int) + (hi : Int)) / 2 = (m : Int) := by have := hm.out; omega
   have y4 : IntKind.i64.wrap (m : Int) = (m : Int) := IntWalk.i64_in _ (by have := hm1.out; omega)
   have y6 : IntKind.u64.wrap (m : Int) = (m : Int) := u64_in _ (by omega) (by have := hm1.out; omega)
   have hmz : (m : Int) < (n : Int) := by have := hm1.out; have := hhn.out; omega
   have hm0 : (0 : Int) ≤ (m : Int) := by omega
   have hm6 : (m : Int) ≤ 1099511627776 := by have := hm1.out; omega
   obtain ⟨y, hy⟩ : ∃ y, Hid (ss[m]? = some y) := ⟨_, List.getElem?_eq_getElem (by rw [hlen.out]; have := hm1.out; have := hhn.out; omega)⟩
   obtain ⟨cy, hcyE⟩ : ∃ cy, Hid (encK y = cy) := ⟨_, Lib.hid rfl⟩
   obtain ⟨b, o, hA, hbl, hcy⟩ := Sr.out.at_ hy.out
   subst hA
   rw [hcyE.out] at hcy
   have hfy : Hid (∀ w', Below wr.heap.size wr w' → ∀ j u, cy[j]? = some u → w'.cell? ⟨b, o + m * 33 + j, none⟩ = some u) := fun w' hb' j u hu => (hb'.cell (p := ⟨b, o + m * 33 + j, none⟩) hbl).trans (hcy j u hu)
   have sY : Hid ((Tryz.prog.info? 142).map (·.size) = some cy.length) := by show _ = _; rw [← hcyE.out, encK_len]; exact sizeK
   have hlt' : Hid (lo < hi) := hlt
   clear hcy hlt
   go_upto_region 5 with fail
   cases hl : lex (idK y) x with
   | true =>
    have hc : Hid (cmpT (idK y) x = -1) := cmp_low hl
    have hcm : Hid (∀ w', Calls Tryz.prog 215 #[.agg cy.toArray, .agg (cells8 x).toArray] w' fun e w'' => e = .returned (.int .i64 (-1)) ∧ Below w'.heap.size w' w'') := fun w' => by rw [← hcyE.out, ← hc.out]; exact findCmp_below y x hx0.out w'
    have n1 := Lib.hid (up_lowK hst0.out hy.out hl)
    clear hl
    refine q_region (Class wr) (by kernel_rfl) (by kernel_rfl) (Class.mk_ ((Below.refl _ _).drew)) ?_
    refine q_move rfl (.tmp 2) rfl ?_
    (intro K k; go_simp; apply k; clear k K)
    refine q_move rfl (.tmp 0) rfl ?_
    (intro K k; go_simp; apply k; clear k K)
    refine q_move rfl (.tmp 11) rfl ?_
    (intro K k; go_simp; apply k; clear k K)
    refine Want.qv0 (.pointer (some ⟨b, o + m * 33, none⟩)) ?_
    (intro K k; go_simp; apply k; clear k K)
    refine q_part rfl 142 (.tmp 27) rfl b ((o + m * 33)) rfl (cy) _ (fun w' hw' => hfy.out w' hw'.below) Tryz.underlying142 rfl sY.out ?_
    (intro K k; go_simp; apply k; clear k K)
    refine q_row rfl 23 (.tmp 4) rfl w.heap.size rfl 23 ((cells8 x).toArray) (0, 0) _ (fun w' hw' => (hw'.below.block _ Br.out.lt).trans Br.out) Tryz.underlying23 rfl sX.out ?_
    (intro K k; go_simp; apply k; clear k K)
    refine q_fnv (v := .int .i64 (-1)) (f := 215) (args := #[.agg cy.toArray, .agg (cells8 x).toArray]) rfl _ _ rfl rfl rfl Tryz.func215 (by kernel_rfl) (by kernel_rfl) (fun w' hw' => ((hcm.out w').mono fun e w'' ⟨he, hb⟩ => ⟨he, hw'.next hb⟩)) ?_
    (intro K k; go_simp; apply k; clear k K)
    refine Want.qv0 (.bool true) ?_
    (intro K k; go_simp; apply k; clear k K)
    refine q_nil ?_
    intro w5 hw5
    have hb5 : Hid (Below w0.heap.size w0 w5) := hb.out.trans (hw5.below.mono hb.out.size)
    clear hw5
    go_wp2_with fail
    go_roundw
    case rel => exact ⟨m + 1, hi, by go_num, rfl, hm1.out.2, hhn.out, n1.out, j2.out, hb5.out⟩
    case measure => (have := hm1.out; have := hlt'.out; simp [intOf]; omega)
   | false =>
    obtain ⟨r, hc⟩ : ∃ r, Hid (cmpT (idK y) x = r) := ⟨_, Lib.hid rfl⟩
    have hcm : Hid (∀ w', Calls Tryz.prog 215 #[.agg cy.toArray, .agg (cells8 x).toArray] w' fun e w'' => e = .returned (.int .i64 r) ∧ Below w'.heap.size w' w'') := fun w' => by rw [← hcyE.out, ← hc.out]; exact findCmp_below y x hx0.out w'
    have hr0 : (0 : Int) ≤ r := by rw [← hc.out]; exact (cmp_high hl).1
    have n2 := Lib.hid (up_highK hst0.out hy.out hl)
    clear hl
    refine q_region (Class wr) (by kernel_rfl) (by kernel_rfl) (Class.mk_ ((Below.refl _ _).drew)) ?_
    refine q_move rfl (.tmp 2) rfl ?_
    (intro K k; go_simp; apply k; clear k K)
    refine q_move rfl (.tmp 0) rfl ?_
    (intro K k; go_simp; apply k; clear k K)
    refine q_move rfl (.tmp 11) rfl ?_
    (intro K k; go_simp; apply k; clear k K)
    refine Want.qv0 (.pointer (some ⟨b, o + m * 33, none⟩)) ?_
    (intro K k; go_simp; apply k; clear k K)
    refine q_part rfl 142 (.tmp 27) rfl b ((o + m * 33)) rfl (cy) _ (fun w' hw' => hfy.out w' hw'.below) Tryz.underlying142 rfl sY.out ?_
    (intro K k; go_simp; apply k; clear k K)
    refine q_row rfl 23 (.tmp 4) rfl w.heap.size rfl 23 ((cells8 x).toArray) (0, 0) _ (fun w' hw' => (hw'.below.block _ Br.out.lt).trans Br.out) Tryz.underlying23 rfl sX.out ?_
    (intro K k; go_simp; apply k; clear k K)
    refine q_fnv (v := .int .i64 r) (f := 215) (args := #[.agg cy.toArray, .agg (cells8 x).toArray]) rfl _ _ rfl rfl rfl Tryz.func215 (by kernel_rfl) (by kernel_rfl) (fun w' hw' => ((hcm.out w').mono fun e w'' ⟨he, hb⟩ => ⟨he, hw'.next hb⟩)) ?_
    (intro K k; go_simp; apply k; clear k K)
    refine Want.qv0 (.bool false) ?_
    (intro K k; go_simp; apply k; clear k K)
    refine q_nil ?_
    intro w5 hw5
    have hb5 : Hid (Below w0.heap.size w0 w5) := hb.out.trans (hw5.below.mono hb.out.size)
    clear hw5
    go_wp2_with fail
    go_roundw
    case rel => exact ⟨lo, m, rfl, by go_num, hm1.out.1, Nat.le_of_lt (Nat.lt_of_lt_of_le hm1.out.2 hhn.out), j1.out, n2.out, hb5.out⟩
    case measure => (have := hm1.out; have := hlt'.out; simp [intOf]; omega)
  ·have hz : ¬ ((lo : Int) < (hi : Int)) := by omega
   obtain rfl : lo = hi := by have := hlh.out; omega
   have bw : Hid (Below w.heap.size w wr) := hb0.out.trans (hb.out.mono hb0.out.size)
   have a1 := Lib.hid (low_memK j1.out)
   have a2 := Lib.hid (high_memK j2.out)
   clear hlt
   go_upto_region 8 with fail
   by_cases hln : lo < n
   ·have hz2 : (lo : Int) < (n : Int) := by omega
    obtain ⟨y, hy⟩ : ∃ y, Hid (ss[lo]? = some y) := ⟨_, List.getElem?_eq_getElem (by rw [hlen.out]; exact hln)⟩
    obtain ⟨cy, hcyE⟩ : ∃ cy, Hid (encK y = cy) := ⟨_, Lib.hid rfl⟩
    obtain ⟨b, o, hA, hbl, hcy⟩ := Sr.out.at_ hy.out
    subst hA
    rw [hcyE.out] at hcy
    have hfy : Hid (∀ w', Below wr.heap.size wr w' → ∀ j u, cy[j]? = some u → w'.cell? ⟨b, o + lo * 33 + j, none⟩ = some u) := fun w' hb' j u hu => (hb'.cell (p := ⟨b, o + lo * 33 + j, none⟩) hbl).trans (hcy j u hu)
    have sY : Hid ((Tryz.prog.info? 142).map (·.size) = some cy.length) := by show _ = _; rw [← hcyE.out, encK_len]; exact sizeK
    have hlow : lex (idK y) x = false := j2.out lo y (Nat.le_refl _) hy.out
    obtain ⟨r, hc⟩ : ∃ r, Hid (cmpT (idK y) x = r) := ⟨_, Lib.hid rfl⟩
    have hcm : Hid (∀ w', Calls Tryz.prog 215 #[.agg cy.toArray, .agg (cells8 x).toArray] w' fun e w'' => e = .returned (.int .i64 r) ∧ Below w'.heap.size w' w'') := fun w' => by rw [← hcyE.out, ← hc.out]; exact findCmp_below y x hx0.out w'
    have hfo : Hid ((r == 0) = decide ((ss[lo]?).map idK = some x)) := by
     show _ = _
     rw [hy.out, ← hc.out]
     have e := (cmp_high hlow).2
     by_cases p : idK y = x
     ·rw [e.2 p, Option.map_some, p]; simp
     ·rw [Option.map_some, decide_eq_false (by simpa using p)]; simp; exact fun q => p (e.1 q)
    obtain ⟨fb, hfb⟩ : ∃ fb, Hid ((r == 0) = fb) := ⟨_, Lib.hid rfl⟩
    have hfb2 := hfb.out
    clear hcy hlow hln
    refine q_region (Class wr) (by kernel_rfl) (by kernel_rfl) (Class.mk_ ((Below.refl _ _).drew)) ?_
    refine q_move rfl (.tmp 9) rfl ?_
    (intro K k; go_simp; apply k; clear k K)
    refine q_move rfl (.tmp 9) rfl ?_
    (intro K k; go_simp; apply k; clear k K)
    refine Want.qv0 (.int .i64 (n : Int)) ?_
    (intro K k; go_simp; apply k; clear k K)
    refine Want.qv0 (.bool true) ?_
    (intro K k; go_simp; apply k; clear k K)
    refine Want.qv0 (.bool true) ?_
    (intro K k; go_simp; apply k; clear k K)
    refine q_move rfl (.tmp 2) rfl ?_
    (intro K k; go_simp; apply k; clear k K)
    refine q_move rfl (.tmp 0) rfl ?_
    (intro K k; go_simp; apply k; clear k K)
    refine q_move rfl (.tmp 9) rfl ?_
    (intro K k; go_simp; apply k; clear k K)
    refine Want.qv0 (.pointer (some ⟨b, o + lo * 33, none⟩)) ?_
    (intro K k; go_simp; apply k; clear k K)
    refine q_part rfl 142 (.tmp 43) rfl b ((o + lo * 33)) rfl (cy) _ (fun w' hw' => hfy.out w' hw'.below) Tryz.underlying142 rfl sY.out ?_
    (intro K k; go_simp; apply k; clear k K)
    refine q_row rfl 23 (.tmp 4) rfl w.heap.size rfl 23 ((cells8 x).toArray) (0, 0) _ (fun w' hw' => (hw'.below.block _ Br.out.lt).trans Br.out) Tryz.underlying23 rfl sX.out ?_
    (intro K k; go_simp; apply k; clear k K)
    refine q_fnv (v := .int .i64 r) (f := 215) (args := #[.agg cy.toArray, .agg (cells8 x).toArray]) rfl _ _ rfl rfl rfl Tryz.func215 (by kernel_rfl) (by kernel_rfl) (fun w' hw' => ((hcm.out w').mono fun e w'' ⟨he, hb⟩ => ⟨he, hw'.next hb⟩)) ?_
    (intro K k; go_simp; apply k; clear k K)
    refine Want.qv0 (.bool fb) ?_
    (intro K k; go_simp; apply k; clear k K)
    refine Want.qv0 (.bool fb) ?_
    (intro K k; go_simp; apply k; clear k K)
    refine Want.qv0 (.int .i64 (lo : Int)) ?_
    (intro K k; go_simp; apply k; clear k K)
    refine Want.qv0 (.bool fb) ?_
    (intro K k; go_simp; apply k; clear k K)
    refine q_nil ?_
    intro w5 hw5
    have hw5c := Lib.hid hw5.below
    clear hw5
    go_wp2_with fail
    go_ret2
    unfold BinKOut
    exact ⟨lo, fb, rfl, ⟨by rw [hlen.out]; have := hhn.out; exact this, a1.out, a2.out, by rw [← hfb.out, hfo.out]⟩, bw.out.trans (hw5c.out.mono bw.out.size)⟩
   ·have hz2 : ¬ ((lo : Int) < (n : Int)) := by omega
    have hnn : Hid (decide ((ss[lo]?).map idK = some x) = false) := by show _ = _; rw [List.getElem?_eq_none (by rw [hlen.out]; omega)]; simp
    clear hln
    refine q_region (Class wr) (by kernel_rfl) (by kernel_rfl) (Class.mk_ ((Below.refl _ _).drew)) ?_
    refine q_move rfl (.tmp 9) rfl ?_
    (intro K k; go_simp; apply k; clear k K)
    refine q_move rfl (.tmp 9) rfl ?_
    (intro K k; go_simp; apply k; clear k K)
    refine Want.qv0 (.int .i64 (n : Int)) ?_
    (intro K k; go_simp; apply k; clear k K)
    refine Want.qv0 (.bool false) ?_
    (intro K k; go_simp; apply k; clear k K)
    refine Want.qv0 (.bool false) ?_
    (intro K k; go_simp; apply k; clear k K)
    refine q_skip rfl ?_
    (intro K k; go_simp; apply k; clear k K)
    refine q_skip rfl ?_
    (intro K k; go_simp; apply k; clear k K)
    refine q_skip rfl ?_
    (intro K k; go_simp; apply k; clear k K)
    refine q_skip rfl ?_
    (intro K k; go_simp; apply k; clear k K)
    refine q_skip rfl ?_
    (intro K k; go_simp; apply k; clear k K)
    refine q_skip rfl ?_
    (intro K k; go_simp; apply k; clear k K)
    refine q_skip rfl ?_
    (intro K k; go_simp; apply k; clear k K)
    refine q_skip rfl ?_
    (intro K k; go_simp; apply k; clear k K)
    refine Want.qv0 (.bool false) ?_
    (intro K k; go_simp; apply k; clear k K)
    refine Want.qv0 (.int .i64 (lo : Int)) ?_
    (intro K k; go_simp; apply k; clear k K)
    refine Want.qv0 (.bool false) ?_
    (intro K k; go_simp; apply k; clear k K)
    refine q_nil ?_
    intro w5 hw5
    have hw5c := Lib.hid hw5.below
    clear hw5
    go_wp2_with fail
    go_ret2
    unfold BinKOut
    exact ⟨lo, false, rfl, ⟨by rw [hlen.out]; exact hhn.out, a1.out, a2.out, by rw [hnn.out]⟩, bw.out.trans (hw5c.out.mono bw.out.size)⟩
end Go.Proofs.YtgldkfaiofkhbaaGreatDoor.BinH

namespace Go.Proofs.YtgldkfaiofkhbaaGreatDoor.RingS
open Go Go.RowKit Go.Proofs.YtgldkfaiofkhbaaGreatDoor Mem Sha Bytes SortP Compare Grown Want Go.Proofs.YtgldkfaiofkhbaaGreatDoor.Append Own HeadID Fill RingM BinH

def KeyRow (w : World) (B : Nat) (x : KD) : Prop := w.ownsRow B 5 1 (.slice x.A x.q.length x.c) x.q.length (cells8 x.q)
theorem KeyRow.below {w w' : World} {B : Nat} {x : KD} (h : KeyRow w B x) (hb : Below w.heap.size w w') : KeyRow w' B x := own_below h hb
theorem KeyRow.kept {S : Nat → Prop} {w w' : World} {B : Nat} {x : KD} (h : KeyRow w B x) (hk : Kept S w w') (hS : ∀ k (cur : Array Value), S k → B ≤ k → ¬ Blk w k 5 cur) : KeyRow w' B x := by
 obtain ⟨h1, h2⟩ := h
 refine ⟨h1, ?_⟩
 rcases h2 with h | ⟨g, c, cur, hv, hBg, hg, rest⟩
 ·exact .inl h
 ·exact .inr ⟨g, c, cur, hv, hBg, Blk.kept hg hk (fun s => hS g cur s hBg hg), rest⟩
theorem KeyRow.reads {w : World} {B : Nat} {x : KD} (h : KeyRow w B x) : Reads w 1 x.A x.q.length (cells8 x.q) ∧ x.q.length ≤ x.c ∧ (x.A = none → x.q.length = 0 ∧ x.c = 0) := by
 obtain ⟨A, c, e, h1, -, h2, h3, -⟩ := Own.reads (show w.ownsRow _ _ _ _ _ _ from h)
 injection e with e1 _ e2
 rw [e1, e2]
 exact ⟨h3, h1, h2⟩
theorem _root_.Go.Proofs.YtgldkfaiofkhbaaGreatDoor.RingM.OwnK.blk {w : World} {B n c g : Nat} {l : List KD} (h : OwnK w B (.slice (some ⟨g, 0, none⟩) n c) n l) : ∃ cur, Blk w g 142 cur := by
 rcases h.2.2 with ⟨h3, -⟩ | ⟨g2, c2, cur, h3, -, hg, -⟩
 ·injection h3 with h3; cases h3
 ·injection h3 with h3
  injection h3 with h3
  injection h3 with h3
  subst h3
  exact ⟨cur, hg⟩
theorem blk_no {w : World} {g : Nat} {cs ds : Array Value} (h : Blk w g 142 cs) (k : Blk w g 5 ds) : False := by
 have e : some (Obj.cells cs 142 (0, 0)) = some (Obj.cells ds 5 (0, 0)) := h.symm.trans k
 simp at e
theorem _root_.Go.Proofs.YtgldkfaiofkhbaaGreatDoor.RingM.OwnK.off {S : Nat → Prop} {w w' : World} {B n : Nat} {v : Value} {l : List KD} (h : OwnK w B v n l) (hk : Kept S w w') (hS : ∀ k, S k → k < B) : OwnK w' B v n l := by
 obtain ⟨h2, hFl, hown⟩ := h
 refine ⟨h2, hFl, ?_⟩
 rcases hown with h | ⟨g, c, cur, hv, hBg, hg, hnc, hcm, hcs, htk⟩
 ·exact .inl h
 ·exact .inr ⟨g, c, cur, hv, hBg, Blk.kept hg hk (fun x => by have := hS g x; omega), hnc, hcm, hcs, htk⟩
theorem _root_.Go.Proofs.YtgldkfaiofkhbaaGreatDoor.RingM.OwnK.reads {w : World} {B n : Nat} {v : Value} {l : List KD} (h : OwnK w B v n l) : ∃ A c, v = .slice A n c ∧ n ≤ c ∧ c ≤ maxLen ∧ (A = none → n = 0 ∧ c = 0) ∧ Kds w A n l ∧ ∀ a, A = some a → B ≤ a.block := by
 obtain ⟨A, c, e, h1, h2, h3, h4, h5⟩ := Own.reads h.2
 exact ⟨A, c, e, h1, h2, h3, ⟨h.1, h4⟩, fun a e => (h5 a e).1⟩
theorem grew_keys {w w' : World} {B n : Nat} {v v' : Value} {l : List KD} {x : KD} (h : Grew w B 142 33 v n 1 (l.flatMap encK) (encK x) v' w') (hl : l.length = n) : OwnK w' B v' (n + 1) (l ++ [x]) := by
 refine ⟨by rw [List.length_append, hl]; rfl, ?_⟩
 have := h.own
 rwa [List.flatMap_append, show [x].flatMap encK = encK x by simp]
theorem grew_keptK {w w' : World} {base e size n m : Nat} {v v' : Value} {xs news : List Value} (h : Grew w base e size v n m xs news v' w') : Kept (fun k => some k = v.ownBlock) w w' := ⟨h.grow.os, h.grow.tape, h.grow.output, h.grow.size, fun k hk hne => h.grow.block k hk hne⟩
theorem own_atK {w : World} {B n : Nat} {v : Value} {l : List KD} (h : OwnK w B v n l) : ∀ k, v.ownBlock = some k → B ≤ k := fun k hk => by
 rcases h.2.2 with ⟨h2, -⟩ | ⟨g, c, cur, hv, hBg, -⟩
 ·rw [h2] at hk; cases hk
 ·rw [hv] at hk
  have e : some g = some k := hk
  injection e with e
  omega
theorem reads_one (w : World) {cx : List Value} (h : cx.length = 33) : Reads (w.alloc (.cells ([cx].flatten).toArray 142)) 33 (some ⟨w.heap.size, 0, none⟩) 1 cx := by
 have hb : Blk (w.alloc (.cells ([cx].flatten).toArray 142)) w.heap.size 142 ([cx].flatten).toArray := Blk.new _ _ _
 refine ⟨by rw [h], fun _ => ⟨w.heap.size, 0, rfl, by simp, fun j u hu => ?_⟩⟩
 rw [hb.cell]
 simpa using hu
theorem size33 : (Tryz.prog.info? 142).map (·.size) = some 33 := by kernel_rfl
theorem zero33 : ((Tryz.prog.info? 142).bind (·.zero)).isSome = true := by kernel_rfl
theorem built_held (parts : List (Nat × Value)) : Tryz.prog.built 142 parts = Instr.fill (#[((0 : Nat), (32 : Nat)), (32, 1)][·]?) (List.replicate 32 (Value.int .u8 0) ++ [Value.slice none 0 0]).toArray parts := by kernel_rfl
theorem run_held (x : Text) (hx : x.length = 32) (A : Option Addr) (n c : Nat) (w : World) : (Instr.build 142 #[(0, .agg (cells8 x).toArray), (1, .slice A n c)]).run Tryz.prog w = .ok (.agg (cells8 x ++ [Value.slice A n c]).toArray) w := by
 refine run_build w _ _ _ ?_
 rw [built_held]
 have e1 := fill_one (place := (#[((0 : Nat), (32 : Nat)), (32, 1)][·]?)) (i := 0) (v := .agg (cells8 x).toArray) (xs := cells8 x) (old := List.replicate 32 (Value.int .u8 0)) (pre := []) (post := [Value.slice none 0 0]) (rest := [(1, .slice A n c)]) rfl rfl (by rw [cells8_len, hx]) rfl (by simp)
 have e2 := fill_one (place := (#[((0 : Nat), (32 : Nat)), (32, 1)][·]?)) (i := 1) (v := Value.slice A n c) (xs := [Value.slice A n c]) (old := [Value.slice none 0 0]) (pre := cells8 x) (post := []) (rest := []) rfl rfl rfl (by rw [cells8_len, hx]) rfl
 simp only [List.nil_append, List.append_nil] at e1 e2
 rw [e1, e2, fill_nil]
theorem kept_sortedK {w : World} {g : Nat} (k : Nat) (d : Array KD) (os : Array Obj) : Kept (· = g) w (sortWorldK encK 33 w g 0 k d os) := by
 refine ⟨rfl, rfl, rfl, ?_, fun i hi hne => ?_⟩
 ·unfold sortWorldK Sort.putRowK Sort.putRow
  rw [Sort.size_grow]
  unfold Sort.mapBlock
  rw [Array.size_modify]
  exact Nat.le_add_right _ _
 ·unfold sortWorldK Sort.putRowK Sort.putRow
  rw [Sort.heap_grow_old _ _ (by unfold Sort.mapBlock; rw [Array.size_modify]; exact hi)]
  unfold Sort.mapBlock
  rw [Array.getElem?_modify, if_neg (fun e => hne e.symm)]
  rfl
set_option maxRecDepth 100000 in
theorem sort_ownK (l : List KD) (n B g c : Nat) (hn47 : n ≤ 2199023255552) (w : World) (h : OwnK w B (.slice (some ⟨g, 0, none⟩) n c) n l) :
  Calls Tryz.prog 64 #[.slice (some ⟨g, 0, none⟩) n c, .func (.func 62) #[] #[]] w fun e w' => e = .returned (.tuple #[]) ∧ ∃ ds : List KD, Hid (ds.Perm l ∧ ds.Pairwise fun a b => lex (idK b) (idK a) = false) ∧ Hid (OwnK w' B (.slice (some ⟨g, 0, none⟩) n c) n ds) ∧ Hid (Kept (· = g) w w') := by
 obtain ⟨cur0, hcur⟩ := h.blk
 have eg : ∀ args w, (callFunc 62 args).run Tryz.prog w = .ok (.enter 62 args) w := enters_of Tryz.func62 (by kernel_rfl) rfl
 have hsz : l.toArray.size = n := by rw [List.size_toArray, h.1]
 have hcon := AnyQ.slices_SortFunc Tryz.sortHeld 33 (fun _ => rfl) (fun _ => rfl) encK encK_len encK_one cfK swoK 62 #[] g 0 c l.toArray w eg (heldCmp_lays g 0 _ w) (holds_ownK h.2) hcur.lt (by rw [hsz]; omega)
 simp only [hsz] at hcon
 change Calls _ 64 _ _ _ at hcon
 refine hcon.mono fun e w' ⟨he, d', k, os, hp, hs, hw⟩ => ?_
 have hp' : Sort.PermIn 0 l.toArray.size l.toArray d' := by rw [hsz]; exact hp
 have hs' : Sort.SortedIn (ltOf cfK) 0 l.toArray.size d' := by rw [hsz]; exact hs
 obtain ⟨h1, h2, h3⟩ := sorted_keys hp' hs'
 refine ⟨he, d'.toList, ⟨h2, h3⟩, ?_, ?_⟩
 ·show OwnK w' _ _ _ _
  rw [hw]
  exact ⟨by rw [h1, hsz], own_sortedK h.2 k d' (by rw [← Array.length_toList, h1, hsz]) os⟩
 ·show Kept _ w w'
  rw [hw]
  exact kept_sortedK k d' os
def RingAt (w : World) (R : Nat) (l : List KD) : Prop := ∃ A c, Blk w R 139 #[.slice A l.length c] ∧ l.length ≤ c ∧ Kds w A l.length l ∧ ∀ x ∈ l, Reads w 1 x.A x.q.length (cells8 x.q) ∧ x.q.length ≤ x.c ∧ (x.A = none → x.q.length = 0 ∧ x.c = 0)
theorem RingAt.below {w w' : World} {R : Nat} {l : List KD} (h : RingAt w R l) (hb : Below w.heap.size w w') : RingAt w' R l := by
 obtain ⟨A, c, h1, h2, h3, h4⟩ := h
 exact ⟨A, c, (hb.block _ h1.lt).trans h1, h2, h3.below hb, fun x hx => ⟨(h4 x hx).1.below hb, (h4 x hx).2⟩⟩
end Go.Proofs.YtgldkfaiofkhbaaGreatDoor.RingS

namespace Go.Proofs.YtgldkfaiofkhbaaGreatDoor.Find
open Go Go.RowKit Go.Proofs.YtgldkfaiofkhbaaGreatDoor Mem Sha Bytes SortP QuietTail Grown Want Go.Proofs.YtgldkfaiofkhbaaGreatDoor.Append Own HeadID Held RingM BinH RingS

theorem size32f : (Tryz.prog.info? 23).map (·.size) = some 32 := by kernel_rfl
theorem at_no {l : List KD} {d : Text} {i : Nat} (hs : Strict idK l) (h : AtK l d i false) : ∀ x ∈ l, idK x ≠ d := fun x hx e => by
 have hf : ¬ (l[i]?).map idK = some d := by simpa using h.found.symm
 have hx2 := hx
 rw [← List.take_append_drop i l] at hx2
 rcases List.mem_append.1 hx2 with hx2 | hx2
 ·have := h.low x hx2
  rw [e, lex_irrefl] at this
  cases this
 ·obtain ⟨j, hj, rfl⟩ := List.getElem_of_mem hx2
  rw [List.length_drop] at hj
  rw [List.getElem_drop] at e
  by_cases h0 : j = 0
  ·subst h0
   apply hf
   rw [List.getElem?_eq_getElem (by omega), Option.map_some]
   exact congrArg some e
  ·have h1 : lex (idK (l[i]'(by omega))) (idK l[i + j]) = true := strict_get hs (by omega) (by omega)
   have h2 := h.high (l[i]'(by omega)) (by rw [← List.getElem_cons_drop (by omega)]; exact List.mem_cons_self)
   rw [e, h2] at h1
   cases h1
theorem at_yes {l : List KD} {d : Text} {i : Nat} (h : AtK l d i true) : ∃ x, l[i]? = some x ∧ idK x = d := by
 have hf : (l[i]?).map idK = some d := by simpa using h.found.symm
 cases hx : l[i]? with
 | none => rw [hx] at hf; cases hf
 | some x => rw [hx] at hf; exact ⟨x, rfl, Option.some.inj hf⟩
def FindOut (l : List KD) (d : Text) (w : World) (e : Ending) (w' : World) : Prop := Below w.heap.size w w' ∧ (((∀ x ∈ l, idK x ≠ d) ∧ e = .returned (.slice none 0 0)) ∨ ∃ x ∈ l, idK x = d ∧ e = .returned (.slice x.A x.q.length x.c))
set_option maxRecDepth 100000 in
set_option maxHeartbeats 4000000 in
theorem find_any (l : List KD) (hl64 : l.length ≤ 64) (hst : Strict idK l) (d : Text) (hd : d.length = 32) (R : Nat) (w : World) (hR : RingAt w R l) :
  Calls Tryz.prog 127 #[.pointer (some ⟨R, 0, none⟩), .agg (cells8 d).toArray] w (FindOut l d w) := by
 obtain ⟨w0, hw0⟩ : ∃ w0, Hid (w.alloc (.cells (cells8 d).toArray 23) = w0) := ⟨_, Lib.hid rfl⟩
 have B0 : Hid (Blk w0 w.heap.size 23 (cells8 d).toArray) := by show Blk _ _ _ _; rw [← hw0.out]; exact Blk.new _ _ _
 have hb0 : Hid (Below w.heap.size w w0) := by show Below _ _ _; rw [← hw0.out]; exact Below.heap_below w _
 have hw0' := hw0.out
 obtain ⟨n, hn⟩ : ∃ n, Hid (l.length = n) := ⟨_, Lib.hid rfl⟩
 obtain ⟨A, c, hr1, hr2, hr3, hr4⟩ := hR.below hb0.out
 rw [hn.out] at hr1 hr2 hr3 hl64
 have hRg : Hid (∀ w', Below w0.heap.size w0 w' → w'.cell? ⟨R, 0, none⟩ = some (.slice A n c)) := fun w' hb => ((hb.block _ hr1.lt).trans hr1 |> fun h : Blk w' R 139 #[.slice A n c] => h.cell 0)
 have hKd := Lib.hid hr3
 have hst0 := Lib.hid hst
 have hd0 := Lib.hid hd
 have hl0 := Lib.hid hl64
 have sD : Hid ((Tryz.prog.info? 23).map (·.size) = some (cells8 d).toArray.size) := size32f.trans (congrArg some (by rw [List.size_toArray, cells8_len, hd]))
 clear hw0 hR hr1 hr2 hr3 hr4 hst hd hl64
 go_enter Tryz.func127, Tryz.ntmps127
 go_upto_region 1 with fail
 clear hw0'
 have s0 : Hid (Below w0.heap.size w0 w0.drew) := (Below.refl _ _).drew
 refine held_start (fun w' => Below w0.heap.size w0 w') 11 rfl (by kernel_rfl) ?_
 refine Held.tk0 (i := 0) (v := .pointer (some ⟨R, 0, none⟩)) rfl s0.out (fun w' hw' => run_mv (.tmp 0) rfl w') ?_
 (intro K k; go_simp; apply k; clear k K)
 refine Held.tk0 (i := 1) (v := .pointer (some ⟨R, 0, none⟩)) rfl s0.out (fun w' hw' => by go_simp) ?_
 (intro K k; go_simp; apply k; clear k K)
 refine Held.tk0 (i := 2) (v := .pointer (some ⟨R, 0, none⟩)) rfl s0.out (fun w' hw' => by go_simp) ?_
 (intro K k; go_simp; apply k; clear k K)
 refine Held.tk0 (i := 3) (v := .slice A n c) rfl s0.out (fun w' hw' => by have hc := hRg.out w' hw'; go_simp) ?_
 (intro K k; go_simp; apply k; clear k K)
 refine Held.tk0 (i := 4) (v := .agg ((cells8 d).toArray)) rfl s0.out (fun w' hw' => exec_row 23 (.tmp 3) rfl (w.heap.size) rfl 23 ((cells8 d).toArray) (0, 0) _ (((hw'.block _ B0.out.lt).trans B0.out)) Tryz.underlying23 rfl sD.out) ?_
 (intro K k; go_simp; apply k; clear k K)
 refine held_only (i := 5) rfl (by kernel_rfl) (by rfl) (fun K hK => ?_)
 refine wp_fn (R := fun v w'' => ∃ (i : Nat) (f : Bool), v = .tuple #[.int .i64 (i : Int), .bool f] ∧ AtK l d i f ∧ Below w0.drew.heap.size w0.drew w'') (args := #[.slice A n c, .agg (cells8 d).toArray, .func (.func 215) #[] #[]]) _ _ rfl rfl Tryz.func214 (by kernel_rfl) (by kernel_rfl) ((binK_any l n (by have := hl0.out; omega) hst0.out d hd0.out A c w0.drew (hKd.out.below s0.out)).mono fun e w'' ho => by obtain ⟨i, f, he, ha, hb⟩ := ho; exact ⟨_, he, i, f, rfl, ha, hb⟩) ?_
 rintro qq w5 ⟨i, f, rfl, hAt, kk⟩
 replace hAt := Lib.hid hAt
 have h5 : Hid (Below w0.heap.size w0 w5) := s0.out.trans (kk.mono s0.out.size)
 clear kk
 go_simp
 refine hK _ _ h5.out ?_
 clear hK K
 refine Held.tk0 (i := 6) (v := .tuple #[.int .i64 (i : Int), .bool f]) rfl h5.out (fun w' hw' => run_mv (.tmp 13) rfl w') ?_
 (intro K k; go_simp; apply k; clear k K)
 refine Held.tk0 (i := 7) (v := .int .i64 (i : Int)) rfl h5.out (fun w' hw' => by go_simp) ?_
 (intro K k; go_simp; apply k; clear k K)
 refine Held.tk0 (i := 8) (v := .bool f) rfl h5.out (fun w' hw' => by go_simp) ?_
 (intro K k; go_simp; apply k; clear k K)
 refine Held.tk0 (i := 9) (v := .int .i64 (i : Int)) rfl h5.out (fun w' hw' => by go_simp) ?_
 (intro K k; go_simp; apply k; clear k K)
 refine Held.tk0 (i := 10) (v := .bool f) rfl h5.out (fun w' hw' => by go_simp) ?_
 (intro K k; go_simp; apply k; clear k K)
 refine held_end (by kernel_rfl) ?_
 cases f with
 | false =>
  have hno := Lib.hid (at_no hst0.out hAt.out)
  go_wp2_with fail
  go_ret
  exact ⟨hb0.out.trans (h5.out.mono hb0.out.size), .inl ⟨hno.out, rfl⟩⟩
 | true =>
  obtain ⟨x, hx, hxd⟩ := at_yes hAt.out
  replace hx := Lib.hid hx
  replace hxd := Lib.hid hxd
  have hin : Hid (i < n) := by show _ < _; rw [← hn.out]; exact (List.getElem?_eq_some_iff.1 hx.out).1
  have z1 : (i : Int) < (n : Int) := by have := hin.out; omega
  have z0 : (0 : Int) ≤ (i : Int) := by omega
  have hi6 : (i : Int) ≤ 64 := by have := hin.out; have := hl0.out; omega
  obtain ⟨b, o, hA, hbl, hcx⟩ := (hKd.out.below h5.out).at_ hx.out
  subst hA
  have hck := hcx 32 _ (encK_key x)
  have hrc := hRg.out w5 h5.out
  obtain ⟨kx, hkx⟩ : ∃ kx, Hid (x.q.length = kx) := ⟨_, Lib.hid rfl⟩
  rw [hkx.out] at hck
  have hxm := Lib.hid (List.mem_of_getElem? hx.out)
  clear hcx
  go_wp2_with fail
  go_ret
  exact ⟨hb0.out.trans (h5.out.mono hb0.out.size), .inr ⟨x, hxm.out, hxd.out, by rw [hkx.out]; rfl⟩⟩
end Go.Proofs.YtgldkfaiofkhbaaGreatDoor.Find

namespace Go.Proofs.YtgldkfaiofkhbaaGreatDoor.RefRising
open Go Go.RowKit Go.Proofs.YtgldkfaiofkhbaaGreatDoor Mem Sha Bytes SortP NoteP Grown Want Rise Go.Proofs.YtgldkfaiofkhbaaGreatDoor.Append Own SgM Held RefLess DigEq EncNoteP

def RisPost (B : Nat) (w' : World) (v : Value) (n : Nat) : Option (List Text) → Prop
 | none => v = .slice none 0 0
 | some rs => OwnS w' B v n rs
theorem RisPost.below {B : Nat} {w w' : World} {v : Value} {n : Nat} {o : Option (List Text)} (h : RisPost B w v n o) (hb : Below w.heap.size w w') : RisPost B w' v n o := by
 cases o with
 | none => exact h
 | some rs => exact OwnS.below h hb
end Go.Proofs.YtgldkfaiofkhbaaGreatDoor.RefRising
