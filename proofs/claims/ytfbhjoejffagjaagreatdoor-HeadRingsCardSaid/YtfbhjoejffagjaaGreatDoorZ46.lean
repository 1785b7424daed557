/-
  Texts of the claim, put into one file: HeadRings.
-/
import Derived.Test.YtfbhjoejffagjaaGreatDoorZ45
import Derived.Deep.Cut
import Derived.Deep.CutRange
import Derived.LaidEql

namespace Go.Proofs.YtfbhjoejffagjaaGreatDoor.HeadRings
open Go Go.RowKit Go.Proofs.YtfbhjoejffagjaaGreatDoor Go.Proofs.YtfbhjoejffagjaaGreatDoor.Mem Go.Proofs.YtfbhjoejffagjaaGreatDoor.Sha Go.Proofs.YtfbhjoejffagjaaGreatDoor.Bytes Go.Proofs.YtfbhjoejffagjaaGreatDoor.SortP Go.Proofs.YtfbhjoejffagjaaGreatDoor.NoteP Go.Proofs.YtfbhjoejffagjaaGreatDoor.QuietTail Go.Proofs.YtfbhjoejffagjaaGreatDoor.Grown Go.Proofs.YtfbhjoejffagjaaGreatDoor.Want Go.Proofs.YtfbhjoejffagjaaGreatDoor.Guard2 Go.Proofs.YtfbhjoejffagjaaGreatDoor.Append Go.Proofs.YtfbhjoejffagjaaGreatDoor.Own Go.Proofs.YtfbhjoejffagjaaGreatDoor.Rise Go.Proofs.YtfbhjoejffagjaaGreatDoor.SortM Go.Proofs.YtfbhjoejffagjaaGreatDoor.SgM Go.Proofs.YtfbhjoejffagjaaGreatDoor.HashMem Go.Proofs.YtfbhjoejffagjaaGreatDoor.HeadMem Go.Proofs.YtfbhjoejffagjaaGreatDoor.EncNoteP Go.Proofs.YtfbhjoejffagjaaGreatDoor.EncNote Go.Proofs.YtfbhjoejffagjaaGreatDoor.RowS Go.Proofs.YtfbhjoejffagjaaGreatDoor.NoteM Go.Proofs.YtfbhjoejffagjaaGreatDoor.CmpW Go.Proofs.YtfbhjoejffagjaaGreatDoor.Kept16 Go.Proofs.YtfbhjoejffagjaaGreatDoor.HeadTake Go.Proofs.YtfbhjoejffagjaaGreatDoor.HeadTake2 Go.Proofs.YtfbhjoejffagjaaGreatDoor.Decode Go.Proofs.YtfbhjoejffagjaaGreatDoor.Signs Go.Proofs.YtfbhjoejffagjaaGreatDoor.RingM Go.Proofs.YtfbhjoejffagjaaGreatDoor.RingS Go.Proofs.YtfbhjoejffagjaaGreatDoor.NewRing Go.Proofs.YtfbhjoejffagjaaGreatDoor.VerP Go.Proofs.YtfbhjoejffagjaaGreatDoor.Verify Go.Proofs.YtfbhjoejffagjaaGreatDoor.RingP Go.Proofs.YtfbhjoejffagjaaGreatDoor.RefRing Go.Proofs.YtfbhjoejffagjaaGreatDoor.RefVerify Go.Proofs.YtfbhjoejffagjaaGreatDoor.Asked Go.Proofs.YtfbhjoejffagjaaGreatDoor.Law16 Go.Proofs.YtfbhjoejffagjaaGreatDoor.Lst Go.Proofs.YtfbhjoejffagjaaGreatDoor.Lists Go.Proofs.YtfbhjoejffagjaaGreatDoor.Spoil

/-- One question: of which note, and how many signs it wants. -/
structure AskD where
  h : HeadD
  A : Option Addr
  n : Nat
  c : Nat
  ss : List Text
  least : Int
def askC (x : AskD) : List Value := noteCells x.h (.slice x.A x.n x.c) ++ [.int .i64 x.least]
structure AsksAt (w : World) (A : Option Addr) (n : Nat) (l : List AskD) : Prop where
  len : l.length = n
  ok : ∀ x ∈ l, x.h.Ok ∧ x.n ≤ x.c ∧ Sgs w x.A x.n x.ss
  rd : Reads w 100 A n (l.flatMap askC)
theorem AsksAt.below {w w' : World} {A : Option Addr} {n : Nat} {l : List AskD} (h : AsksAt w A n l) (hb : Below w.heap.size w w') : AsksAt w' A n l := ⟨h.len, fun x hx => ⟨(h.ok x hx).1, (h.ok x hx).2.1, (h.ok x hx).2.2.below hb⟩, h.rd.below hb⟩
theorem askC_len {x : AskD} (ok : x.h.Ok) : (askC x).length = 100 := by unfold askC; rw [List.length_append, noteCells_len ok]; rfl
theorem flat_at100 : ∀ (l : List AskD), (∀ x ∈ l, x.h.Ok) → ∀ (i : Nat) (x : AskD) (j : Nat), l[i]? = some x → j < 100 → (l.flatMap askC)[i * 100 + j]? = (askC x)[j]?
  | [], _, i, x, j, h, _ => by cases h
  | s :: l, hl, i, x, j, h, hj => by
    have hs : (askC s).length = 100 := askC_len (hl s (by simp))
    rw [List.flatMap_cons]
    cases i with
    | zero =>
      obtain rfl : s = x := Option.some.inj h
      rw [Nat.zero_mul, Nat.zero_add, List.getElem?_append_left (by omega)]
    | succ i =>
      rw [List.getElem?_append_right (by omega), hs, show (i + 1) * 100 + j - 100 = i * 100 + j by omega]
      exact flat_at100 l (fun t ht => hl t (by simp [ht])) i x j h hj
theorem AsksAt.at_ {w : World} {A : Option Addr} {n i : Nat} {l : List AskD} {x : AskD} (h : AsksAt w A n l) (hx : l[i]? = some x) : ∃ b o, A = some ⟨b, o, none⟩ ∧ b < w.heap.size ∧ (∀ (j : Nat) (u : Value), (noteCells x.h (.slice x.A x.n x.c))[j]? = some u → w.cell? ⟨b, o + i * 100 + j, none⟩ = some u) ∧ w.cell? ⟨b, o + i * 100 + 99, none⟩ = some (.int .i64 x.least) := by
  have hi : i < l.length := (List.getElem?_eq_some_iff.1 hx).1
  obtain ⟨b, o, e, hb, hc⟩ := h.rd.2 (by have := h.len; omega)
  have hxo := (h.ok x (List.mem_of_getElem? hx)).1
  have hln := noteCells_len hxo (.slice x.A x.n x.c)
  refine ⟨b, o, e, hb, fun j u hu => ?_, ?_⟩
  · have hj : j < 99 := by have := (List.getElem?_eq_some_iff.1 hu).1; omega
    rw [Nat.add_assoc]
    refine hc _ u ?_
    have := flat_at100 l (fun y hy => (h.ok y hy).1) i x j hx (by omega)
    rw [Nat.mul_comm] at this
    first
      | (rw [this]; unfold askC; rw [List.getElem?_append_left (by omega)]; exact hu)
      | (rw [Nat.mul_comm, this]; unfold askC; rw [List.getElem?_append_left (by omega)]; exact hu)
  · rw [Nat.add_assoc]
    refine hc _ _ ?_
    have := flat_at100 l (fun y hy => (h.ok y hy).1) i x 99 hx (by omega)
    rw [Nat.mul_comm] at this
    first
      | (rw [this]; unfold askC; rw [List.getElem?_append_right (by omega), hln]; rfl)
      | (rw [Nat.mul_comm, this]; unfold askC; rw [List.getElem?_append_right (by omega), hln]; rfl)
/-- What a making of a ring left, as it is carried on. -/
def RingFact (w : World) (k : Int) (v : Value) (B : Nat) (es : List Text) : Prop := k = 0 → ∃ l, v = .pointer (some ⟨B, 0, none⟩) ∧ RingOwn w B B l ∧ (l.map (·.q)).Perm es ∧ Strict idK l
theorem RingFact.below {w w' : World} {k : Int} {v : Value} {B : Nat} {es : List Text} (h : RingFact w k v B es) (hb : Below w.heap.size w w') : RingFact w' k v B es := fun e => by
  obtain ⟨l, h1, h2, h3⟩ := h e
  exact ⟨l, h1, h2.below hb, h3⟩
theorem RingFact.kept {S : Nat → Prop} {w w' : World} {k : Int} {v : Value} {B : Nat} {es : List Text} (h : RingFact w k v B es) (hk : Kept S w w') (hS : ∀ k, S k → k < B) : RingFact w' k v B es := fun e => by
  obtain ⟨l, h1, h2, h3⟩ := h e
  exact ⟨l, h1, h2.kept hk hS, h3⟩
theorem ring_ok2 {ks : List Text} {k : Int} (hk : k = ringAns ks) (h0 : k = 0) : ks.length ≤ 64 ∧ keysB ks = true ∧ apartB ks = true := by
  rw [h0] at hk
  unfold ringAns at hk
  split at hk
  · cases hk
  · split at hk
    · split at hk
      · exact ⟨by omega, by assumption, by assumption⟩
      · cases hk
    · cases hk
theorem Lst.top {w : World} {B n : Nat} {v : Value} {gs : List Nat} {qs : List Text} (h : Lst w B v n gs qs) : (∀ k, v.ownBlock = some k → k < w.heap.size) ∧ (∀ g ∈ gs, g < w.heap.size) := by
  refine ⟨fun k hk => ?_, fun g hg => ?_⟩
  · rcases h.row.2 with ⟨h2, -⟩ | ⟨g, c, cur, hv, -, hb, -⟩
    · rw [h2] at hk; cases hk
    · rw [hv] at hk
      have e : some g = some k := hk
      injection e with e
      have := Blk.lt hb
      omega
  · obtain ⟨i, hi, e⟩ := List.getElem_of_mem hg
    have h1 : gs[i]? = some g := by rw [List.getElem?_eq_getElem hi, e]
    have h2 : qs[i]? = some (qs[i]'(by have := h.lg; have := h.lq; omega)) := List.getElem?_eq_getElem _
    exact Tab.lt (h.rooms i g _ h1 h2).2
theorem _root_.Go.Proofs.YtfbhjoejffagjaaGreatDoor.Lst.Lst.keptB {S : Nat → Prop} {w w' : World} {B n : Nat} {v : Value} {gs : List Nat} {qs : List Text} (h : Lst w B v n gs qs) (hk : Kept S w w') (hS : ∀ k, S k → k < B) : Lst w' B v n gs qs := by
  refine ⟨h.lg, h.lq, ⟨h.row.1, ?_⟩, fun i g q h1 h2 => ?_⟩
  · rcases h.row.2 with h3 | ⟨g, c3, cur, hv, hBg, hg, rest⟩
    · exact .inl h3
    · exact .inr ⟨g, c3, cur, hv, hBg, Blk.kept hg hk (fun s => by have := hS _ s; omega), rest⟩
  · obtain ⟨h3, h4⟩ := h.rooms i g q h1 h2
    exact ⟨h3, h4.kept hk (fun s => by have := hS _ s; omega)⟩
theorem kept_below {S : Nat → Prop} {w w0 w' : World} (hb : Below w0.heap.size w0 w) (hk : Kept S w w') (hS : ∀ k, S k → w0.heap.size ≤ k) : Below w0.heap.size w0 w' :=
  hb.trans ⟨hk.os, hk.tape, hk.output, hk.size, fun k h => hk.block k (by have := hb.size; omega) (fun s => by have := hS k s; omega)⟩
theorem wpList_store_all0 {P : Program} {ops : Array Oper} {rest : List Oper} {o : Oper} {a : Act} {w : World} {Q : Exit → Act → World → Prop} (hgd : o.guard = none) (hdst : o.dst = none) (ty : TypeId) (x y : Operand) (ho : o.op = .store ty x y)
    (g : Nat) (cells : Array Value) (hx : a.eval x = .pointer (some ⟨g, 0, none⟩)) (hy : a.eval y = .agg cells)
    (t : TypeId) (old : Array Value) (hg : Blk w g t old) (hi : (P.info? ty).map (·.size) = some cells.size)
    (hold : old.size = cells.size) (h1 : cells.all (·.oneCell') = true)
    (h : ∀ w', Hid (Blk w' g t cells) → Kept (· = g) w w' → wpList P ops Q rest a w') : wpList P ops Q (o :: rest) a w :=
  wpList_store_all hgd ty x y ho g cells hx hy t old hg hi hold h1 (fun w' h1 h2 => by rw [hdst]; exact h w' h1 h2)
theorem sizeRg : (Tryz.prog.info? 65).map (·.size) = some 1 := by kernel_rfl
/-- Two rings in two blocks are two. -/
theorem rings_two {w : World} {a b : Nat} {ca cb : Array Value} (hne : ¬ a = b) (ha : Blk w a 65 ca) (hb : Blk w b 65 cb) : (binOp .eql 25 (.pointer (some ⟨a, 0, none⟩)) (.pointer (some ⟨b, 0, none⟩))).run Tryz.prog w = .ok (.bool false) w := by
  cases hq : Tryz.prog.info? 65 with
  | none => have := sizeRg; rw [hq] at this; cases this
  | some i =>
    have hs : i.size ≠ 0 := by have := sizeRg; rw [hq] at this; simp at this; omega
    have hx : (⟨a, 0, none⟩ : Addr) ≠ ⟨b, 0, none⟩ := fun e => by injection e with e; exact hne e
    have hsa := run_sameAddr_other (P := Tryz.prog) w hx (show w.heap[(⟨a, 0, none⟩ : Addr).block]? = some (.cells ca 65 (0, 0)) from ha) (show w.heap[(⟨b, 0, none⟩ : Addr).block]? = some (.cells cb 65 (0, 0)) from hb)
    have h1 : ∀ d, (Op.equalIn (d + 1) 25 (.pointer (some ⟨a, 0, none⟩)) (.pointer (some ⟨b, 0, none⟩))).run Tryz.prog w = .ok false w := fun d => by
      simp [Op.equalIn, run_underlying Tryz.underlying25, sizeOf, typeInfo, hq, hs, hsa]
    have h2 : (Op.equal 25 (.pointer (some ⟨a, 0, none⟩)) (.pointer (some ⟨b, 0, none⟩))).run Tryz.prog w = .ok false w := h1 9999
    simp only [binOp]
    simp [h2]
theorem pieces_take16 {w : World} {A : Option Addr} {es : List Text} (h : Pieces w A es) (k : Nat) : Pieces w A (es.take k) := fun h0 => by
  obtain ⟨b, o, e, hb, hc⟩ := h (by rw [List.length_take] at h0; omega)
  refine ⟨b, o, e, hb, fun i q hq => hc i q ?_⟩
  rw [List.getElem?_take] at hq
  split at hq
  · exact hq
  · cases hq
set_option maxRecDepth 100000 in
theorem run_frontR {A : Option Addr} {n c m : Nat} (hm : m ≤ c) (x : Int) (hx : x = m) (w : World) : (Instr.sliceAt 22 (.slice A n c) none (some (.int .i64 x)) none).run Tryz.prog w = .ok (.slice A m c) w := run_headOf Tryz.underlying22 (fun _ => rfl) hm x hx w
set_option maxRecDepth 100000 in
set_option maxHeartbeats 16000000 in
theorem headRings_any (es : List Text) (p : Nat) (hp : es.length = p) (Ap : Option Addr) (cp : Nat) (hpc : p ≤ cp) (fs : List Text) (p2 : Nat) (hp2 : fs.length = p2) (Aq : Option Addr) (cq : Nat) (hpc2 : p2 ≤ cq) (l : List AskD) (na : Nat) (hna : na ≤ 140737488355328) (Aa : Option Addr) (ca : Nat) (w : World) (hB : Base w) (hP : Pieces w Ap es) (hsh : ∀ q ∈ es, q.length < 140737488355228) (hP2 : Pieces w Aq fs) (hsh2 : ∀ q ∈ fs, q.length < 140737488355228) (hA : AsksAt w Aa na l) :
    Calls Tryz.prog 3 #[.slice Ap p cp, .slice Aq p2 cq, .slice Aa na ca] w fun e w' => e = .returned (.bool true) ∧ Below w.heap.size w w' := by
  have hPs : Hid (∀ w', Below w.heap.size w w' → Pieces w' Ap es) := fun w' hb => hP.below hb
  have hPs2 : Hid (∀ w', Below w.heap.size w w' → Pieces w' Aq fs) := fun w' hb => hP2.below hb
  have hAs : Hid (∀ w', Below w.heap.size w w' → AsksAt w' Aa na l) := fun w' hb => hA.below hb
  have hBs : Hid (∀ w', Below w.heap.size w w' → Base w') := fun w' hb => hB.below hb hB.1
  have hsh0 := Lib.hid hsh
  have hsh20 := Lib.hid hsh2
  have hp0 := Lib.hid hp
  have hpc0 := Lib.hid hpc
  have hp20 := Lib.hid hp2
  have hpc20 := Lib.hid hpc2
  have hna0 := Lib.hid hna
  have hA0 := Lib.hid hA
  clear hB hP hsh hP2 hsh2 hp hpc hp2 hpc2 hna hA
  go_enter Tryz.func3, Tryz.ntmps3
  go_upto_if 18 with fail
  go_cut [0] from 16 to 21 (fun v wr => ∃ N : Nat, v = .slice Ap N cp ∧ Hid (N ≤ 100 ∧ (es.take 100).length = N) ∧ Hid (w = wr))
  case first =>
    by_cases h16 : 100 < p
    · have x1 : (100 : Int) < (p : Int) := by omega
      have hT := run_frontR (A := Ap) (n := p) (c := cp) (m := 100) (by have := hpc0.out; omega) 100 rfl
      have hl : Hid ((100 : Nat) ≤ 100 ∧ (es.take 100).length = 100) := ⟨Nat.le_refl _, by rw [List.length_take, hp0.out]; omega⟩
      clear h16
      go_wp2_with fail
      go_meet
      case rel => exact ⟨100, rfl, hl.out, rfl⟩
    · have x1 : ¬ ((100 : Int) < (p : Int)) := by omega
      have hl : Hid (p ≤ 100 ∧ (es.take 100).length = p) := ⟨by omega, by rw [List.length_take, hp0.out]; omega⟩
      clear h16
      go_wp2_with fail
      go_meet
      case rel => exact ⟨p, rfl, hl.out, rfl⟩
  case rest =>
    obtain ⟨N, rfl, hN, hwc⟩ := hcut
    obtain rfl := hwc.out
    clear hwc
    go_upto_if 23 with fail
    go_cut [1] from 21 to 26 (fun v wr => ∃ N2 : Nat, v = .slice Aq N2 cq ∧ Hid (N2 ≤ 100 ∧ (fs.take 100).length = N2) ∧ Hid (w = wr))
    case first =>
      by_cases h16 : 100 < p2
      · have x1 : (100 : Int) < (p2 : Int) := by omega
        have hT := run_frontR (A := Aq) (n := p2) (c := cq) (m := 100) (by have := hpc20.out; omega) 100 rfl
        have hl : Hid ((100 : Nat) ≤ 100 ∧ (fs.take 100).length = 100) := ⟨Nat.le_refl _, by rw [List.length_take, hp20.out]; omega⟩
        clear h16
        go_wp2_with fail
        go_meet
        case rel => exact ⟨100, rfl, hl.out, rfl⟩
      · have x1 : ¬ ((100 : Int) < (p2 : Int)) := by omega
        have hl : Hid (p2 ≤ 100 ∧ (fs.take 100).length = p2) := ⟨by omega, by rw [List.length_take, hp20.out]; omega⟩
        clear h16
        go_wp2_with fail
        go_meet
        case rel => exact ⟨p2, rfl, hl.out, rfl⟩
    case rest =>
    obtain ⟨N2, rfl, hN2, hwc⟩ := hcut
    obtain rfl := hwc.out
    clear hwc
    obtain ⟨ks, hks⟩ : ∃ ks, Hid (es.take 100 = ks) := ⟨_, Lib.hid rfl⟩
    rw [hks.out] at hN
    obtain ⟨ks2, hks2⟩ : ∃ ks, Hid (fs.take 100 = ks) := ⟨_, Lib.hid rfl⟩
    rw [hks2.out] at hN2
    have hPk : Hid (∀ w', Below w.heap.size w w' → Pieces w' Ap ks) := fun w' hb => by rw [← hks.out]; exact pieces_take16 (hPs.out w' hb) 100
    have hPk2 : Hid (∀ w', Below w.heap.size w w' → Pieces w' Aq ks2) := fun w' hb => by rw [← hks2.out]; exact pieces_take16 (hPs2.out w' hb) 100
    have hshk : Hid (∀ q ∈ ks, q.length < 140737488355228) := fun q hq => hsh0.out q (by rw [← hks.out] at hq; exact List.mem_of_mem_take hq)
    have hshk2 : Hid (∀ q ∈ ks2, q.length < 140737488355228) := fun q hq => hsh20.out q (by rw [← hks2.out] at hq; exact List.mem_of_mem_take hq)
    have hN6 : (N : Int) ≤ 100 := by have := hN.out.1; omega
    have hN26 : (N2 : Int) ≤ 100 := by have := hN2.out.1; omega
    clear hPs hPs2 hsh0 hsh20 hp0 hp20 hpc0 hpc20 hks hks2
    have tok1 := Lib.hid True.intro
    have tok2 := Lib.hid True.intro
    have tok3 := Lib.hid True.intro
    go_upto_region 9 with (first
    | (go_at_call 6; clear tok1; refine (lists_any ks N hN.out.2 hN.out.1 Ap cp w (hPk.out w (Below.refl _ _)) hshk.out).mono ?_; rintro e w1 ⟨v7, g7, rfl, L1, hb⟩; obtain ⟨A7, c7, rfl, -⟩ := L1.at_; replace L1 := Lib.hid L1; have bb1 : Hid (Below w.heap.size w w1) := hb; clear hb)
    | (go_at_call 6; refine (lists_any ks2 N2 hN2.out.2 hN2.out.1 Aq cq w1 (hPk2.out w1 bb1.out) hshk2.out).mono ?_; rintro e w2 ⟨v8, g8, rfl, M2, hb⟩; obtain ⟨A8, c8, rfl, -⟩ := M2.at_; replace M2 := Lib.hid M2; have hT7 := Lib.hid (Lst.top L1.out); have hB12 : Hid (w1.heap.size ≤ w2.heap.size) := hb.size; have L2 := Lib.hid (L1.out.below hb); have bb2 : Hid (Below w.heap.size w w2) := bb1.out.trans (hb.mono bb1.out.size); have hB1 : Hid (w.heap.size ≤ w1.heap.size) := bb1.out.size; clear hb L1 bb1)
    | (go_at_call 7; clear tok2; refine (newRing_any ks N hN.out.2 (by have := hN.out.1; omega) A7 c7 w2 (hBs.out w2 bb2.out) (by obtain ⟨A, c, e, -, -, h, -⟩ := L2.out.at_; injection e with e; subst e; exact h) hshk.out).mono ?_; intro e w3 hNO; obtain ⟨v9, k10, rfl, hb, hk10, hb1, hg1⟩ := hNO; replace hk10 := Lib.hid hk10; have hbad1 := Lib.hid hb1; have F3 : Hid (RingFact w3 k10 v9 w2.heap.size ks) := hg1; have bb3 : Hid (Below w.heap.size w w3) := bb2.out.trans (hb.mono bb2.out.size); have M3 := Lib.hid (M2.out.below hb); have b23 : Hid (Below w2.heap.size w2 w3) := hb; clear hb hb1 hg1)
    | (go_at_call 7; refine (newRing_any ks2 N2 hN2.out.2 (by have := hN2.out.1; omega) A8 c8 w3 (hBs.out w3 bb3.out) (by obtain ⟨A, c, e, -, -, h, -⟩ := M3.out.at_; injection e with e; subst e; exact h) hshk2.out).mono ?_; intro e w4 hNO; obtain ⟨v11, k12, rfl, hb, hk12, hb1, hg1⟩ := hNO; replace hk12 := Lib.hid hk12; have hbad2 := Lib.hid hb1; have G4 : Hid (RingFact w4 k12 v11 w3.heap.size ks2) := hg1; have F4 := Lib.hid (F3.out.below hb); have bb4 : Hid (Below w.heap.size w w4) := bb3.out.trans (hb.mono bb3.out.size); have b24 : Hid (Below w2.heap.size w2 w4) := b23.out.trans (hb.mono b23.out.size); have hB3 : Hid (w2.heap.size ≤ w3.heap.size) := b23.out.size; clear hb hb1 hg1 M3 bb3 b23))

    have hT8 := Lib.hid (Lst.top M2.out)
    have L4 := Lib.hid (L2.out.below b24.out)
    have M4 := Lib.hid (M2.out.below b24.out)
    have hR12 : Hid (k10 = 0 → w2.heap.size < w3.heap.size) := fun e => by
      obtain ⟨l, -, h2, -⟩ := F3.out e
      obtain ⟨A, c, h3, -⟩ := h2.ring
      exact Blk.lt h3
    go_cut [72] from 40 to 72 (fun v wr => v = .bool false ∧ Hid (Below w4.heap.size w4 wr))
    case first =>
      by_cases h10 : k10 = 0
      · obtain ⟨l1, e9, hw1, -, -⟩ := F4.out h10
        have hlt1 := hR12.out h10
        subst h10 e9
        by_cases h12 : k12 = 0
        · obtain ⟨l2, e11, hw2, -, -⟩ := G4.out h12
          subst h12 e11
          obtain ⟨A1, c1, hv1, -⟩ := hw1.ring
          obtain ⟨A2, c2, hv2, -⟩ := hw2.ring
          have hne : ¬ (w2.heap.size = w3.heap.size) := by omega
          have hPE : Hid (∀ w', Below w4.heap.size w4 w' → (binOp .eql 25 (.pointer (some ⟨w2.heap.size, 0, none⟩)) (.pointer (some ⟨w3.heap.size, 0, none⟩))).run Tryz.prog w' = .ok (.bool false) w') := fun w' hb => rings_two hne ((hb.block _ hv1.lt).trans hv1) ((hb.block _ hv2.lt).trans hv2)
          clear hlt1 hw1 hw2 hv1 hv2
          go_wp2_with (first
    | (go_at_call 8; clear tok3; refine (refring_any ks N hN.out.2 (by have := hN.out.1; omega) Ap cp w4 (hPk.out w4 bb4.out) hshk.out).mono ?_; rw [← hk10.out]; rintro e w5 ⟨rfl, hb⟩; have b45 : Hid (Below w4.heap.size w4 w5) := hb; have bb5 : Hid (Below w.heap.size w w5) := bb4.out.trans (hb.mono bb4.out.size); clear hb)
    | (go_at_call 8; refine (refring_any ks2 N2 hN2.out.2 (by have := hN2.out.1; omega) Aq cq w5 (hPk2.out w5 bb5.out) hshk2.out).mono ?_; rw [← hk12.out]; rintro e w6 ⟨rfl, hb⟩; have b46 : Hid (Below w4.heap.size w4 w6) := b45.out.trans (hb.mono b45.out.size); have hpe := hPE.out w6 b46.out; clear hb bb5 b45))

          go_meet
          case rel => exact ⟨rfl, b46.out⟩
        · have e11 := hbad2.out h12
          subst e11
          have y2 : (k12 == 0) = false := by simpa using h12
          clear hlt1
          go_wp2_with (first
    | (go_at_call 8; clear tok3; refine (refring_any ks N hN.out.2 (by have := hN.out.1; omega) Ap cp w4 (hPk.out w4 bb4.out) hshk.out).mono ?_; rw [← hk10.out]; rintro e w5 ⟨rfl, hb⟩; have b45 : Hid (Below w4.heap.size w4 w5) := hb; have bb5 : Hid (Below w.heap.size w w5) := bb4.out.trans (hb.mono bb4.out.size); clear hb)
    | (go_at_call 8; refine (refring_any ks2 N2 hN2.out.2 (by have := hN2.out.1; omega) Aq cq w5 (hPk2.out w5 bb5.out) hshk2.out).mono ?_; rw [← hk12.out]; rintro e w6 ⟨rfl, hb⟩; have b46 : Hid (Below w4.heap.size w4 w6) := b45.out.trans (hb.mono b45.out.size); clear hb bb5 b45))

          go_meet
          case rel => exact ⟨rfl, b46.out⟩
      · have e9 := hbad1.out h10
        subst e9
        have y1 : (k10 == 0) = false := by simpa using h10
        by_cases h12 : k12 = 0
        · obtain ⟨l2, e11, -, -, -⟩ := G4.out h12
          subst h12 e11
          go_wp2_with (first
    | (go_at_call 8; clear tok3; refine (refring_any ks N hN.out.2 (by have := hN.out.1; omega) Ap cp w4 (hPk.out w4 bb4.out) hshk.out).mono ?_; rw [← hk10.out]; rintro e w5 ⟨rfl, hb⟩; have b45 : Hid (Below w4.heap.size w4 w5) := hb; have bb5 : Hid (Below w.heap.size w w5) := bb4.out.trans (hb.mono bb4.out.size); clear hb)
    | (go_at_call 8; refine (refring_any ks2 N2 hN2.out.2 (by have := hN2.out.1; omega) Aq cq w5 (hPk2.out w5 bb5.out) hshk2.out).mono ?_; rw [← hk12.out]; rintro e w6 ⟨rfl, hb⟩; have b46 : Hid (Below w4.heap.size w4 w6) := b45.out.trans (hb.mono b45.out.size); clear hb bb5 b45))

          go_meet
          case rel => exact ⟨rfl, b46.out⟩
        · have e11 := hbad2.out h12
          subst e11
          have y2 : (k12 == 0) = false := by simpa using h12
          go_wp2_with (first
    | (go_at_call 8; clear tok3; refine (refring_any ks N hN.out.2 (by have := hN.out.1; omega) Ap cp w4 (hPk.out w4 bb4.out) hshk.out).mono ?_; rw [← hk10.out]; rintro e w5 ⟨rfl, hb⟩; have b45 : Hid (Below w4.heap.size w4 w5) := hb; have bb5 : Hid (Below w.heap.size w w5) := bb4.out.trans (hb.mono bb4.out.size); clear hb)
    | (go_at_call 8; refine (refring_any ks2 N2 hN2.out.2 (by have := hN2.out.1; omega) Aq cq w5 (hPk2.out w5 bb5.out) hshk2.out).mono ?_; rw [← hk12.out]; rintro e w6 ⟨rfl, hb⟩; have b46 : Hid (Below w4.heap.size w4 w6) := b45.out.trans (hb.mono b45.out.size); clear hb bb5 b45))

          go_meet
          case rel => exact ⟨rfl, b46.out⟩
    case rest =>
      obtain ⟨rfl, hcb⟩ := hcut
      obtain ⟨w6, rfl⟩ : ∃ w6, w6 = wc := ⟨_, rfl⟩
      have L6 := Lib.hid (L4.out.below hcb.out)
      have M6 := Lib.hid (M4.out.below hcb.out)
      have F6 := Lib.hid (F4.out.below hcb.out)
      have G6 := Lib.hid (G4.out.below hcb.out)
      have bb6 : Hid (Below w.heap.size w w6) := bb4.out.trans (hcb.out.mono bb4.out.size)
      obtain ⟨R1, hR1, Fq⟩ : ∃ R1, Hid (w2.heap.size ≤ R1) ∧ Hid (RingFact w6 k10 v9 R1 ks) := ⟨_, Nat.le_refl _, F6.out⟩
      obtain ⟨R2, hR2, Gq⟩ : ∃ R2, Hid (w2.heap.size ≤ R2) ∧ Hid (RingFact w6 k12 v11 R2 ks2) := ⟨_, hB3.out, G6.out⟩
      replace F6 := Fq
      replace G6 := Gq
      clear hcb L4 M4 F3 F4 G4 L2 M2 bb4 b24 hR12 hbad1 hbad2 Fq Gq hB3
      go_wp2_with fail
      go_loopw [13] (fun v wr => ∃ i : Nat, v = .int .i64 (i : Int) ∧ Hid (i ≤ N) ∧ Hid (Below w6.heap.size w6 wr)) (fun v _ => N - (intOf v).toNat)
      case atStart => exact ⟨0, rfl, Nat.zero_le _, Below.refl _ _⟩
      case round =>
        obtain ⟨i, rfl, hiN, hbe⟩ := hrel
        have hi6 : (i : Int) ≤ 100 := by have := hiN.out; omega
        have hi0 : (0 : Int) ≤ (i : Int) := by omega
        have bbr : Hid (Below w.heap.size w wr) := bb6.out.trans (hbe.out.mono bb6.out.size)
        by_cases hlt : i < N
        · have hz : (i : Int) < (N : Int) := by omega
          have hlt' := Lib.hid hlt
          obtain ⟨q, hq⟩ : ∃ q, Hid (ks[i]? = some q) := ⟨_, List.getElem?_eq_getElem (by rw [hN.out.2]; exact hlt)⟩
          obtain ⟨g, hg⟩ : ∃ g, Hid (g7[i]? = some g) := ⟨_, List.getElem?_eq_getElem (by rw [L6.out.lg]; exact hlt)⟩
          obtain ⟨b, o, Ak, ck, hAp, hcq, -, hRq, -⟩ := piece_of hPk.out hq.out
          subst hAp
          have hql : Hid (q.length < 140737488355228) := hshk.out q (List.mem_of_getElem? hq.out)
          obtain ⟨A9, c9, e9, -, -, -, hrow⟩ := L6.out.at_
          injection e9 with e9 _ e10
          subst e9 e10
          obtain ⟨br, hbr, -, hbl, cur, hcur, hcs⟩ := hrow (Nat.lt_of_le_of_lt (Nat.zero_le _) hlt)
          subst hbr
          have hcl := hcs i g q hg.out hq.out
          have hrm := (L6.out.rooms i g q hg.out hq.out).2
          obtain ⟨k, hk⟩ : ∃ k, Hid (q.length = k) := ⟨_, Lib.hid rfl⟩
          rw [hk.out] at hql hcq hRq
          have hcl2 : Hid (∀ w', Below w6.heap.size w6 w' → w'.cell? ⟨br, i, none⟩ = some (.slice (some ⟨g, 0, none⟩) k (k + 100))) := fun w' hb => by
            have e : w'.heap[br]? = some (.cells cur 31 (0, 0)) := (hb.block _ hbl).trans hcur
            have := Blk.cell (show Blk w' br _ cur from e) i
            rw [this, hcl]
            unfold roomC
            rw [hk.out]
          have hck : Hid (∀ w', Below w6.heap.size w6 w' → w'.cell? ⟨b, o + i, none⟩ = some (.slice Ak k ck)) := fun w' hb => hcq w' (bb6.out.trans (hb.mono bb6.out.size))
          have hLf : Hid (∀ w', Below w6.heap.size w6 w' → Calls Tryz.prog 9 #[.slice (some ⟨g, 0, none⟩) k (k + 100), .slice Ak k ck] w' fun e w'' => e = .returned (.bool true) ∧ Below w'.heap.size w' w'') := fun w' hb => by
            have hr : Law16.Roomy w' g q := hrm.below hb (Tab.lt hrm)
            exact (left_any q k hk.out (by have := hql.out; omega) g Ak ck w' hr (hRq w' (bb6.out.trans (hb.mono bb6.out.size)))).mono fun e w'' ⟨he, n, hw⟩ => ⟨he, by rw [hw]; exact below_drawn (Below.refl _ _) n⟩
          clear hlt hcq hRq hrow hcs hcl hcur hrm
          go_upto_region 14 with fail
          refine q_region (Class wr) (by kernel_rfl) (by kernel_rfl) (Class.mk_ ((Below.refl _ _).drew)) ?_
          refine q_move rfl (.tmp 7) rfl ?_
          (intro K hK; go_simp; refine hK _ ?_; clear hK K)
          refine q_move rfl (.tmp 13) rfl ?_
          (intro K hK; go_simp; refine hK _ ?_; clear hK K)
          refine q_val (v := .pointer (some ⟨br, i, none⟩)) rfl (fun w' hw' => by go_simp) ?_
          (intro K hK; go_simp; refine hK _ ?_; clear hK K)
          refine q_val (v := .slice (some ⟨g, 0, none⟩) k (k + 100)) rfl (fun w' hw' => by have hc := hcl2.out w' (hbe.out.trans (hw'.below.mono hbe.out.size)); go_simp) ?_
          (intro K hK; go_simp; refine hK _ ?_; clear hK K)
          refine q_move rfl (.tmp 0) rfl ?_
          (intro K hK; go_simp; refine hK _ ?_; clear hK K)
          refine q_move rfl (.tmp 13) rfl ?_
          (intro K hK; go_simp; refine hK _ ?_; clear hK K)
          refine q_val (v := .pointer (some ⟨b, o + i, none⟩)) rfl (fun w' hw' => by go_simp) ?_
          (intro K hK; go_simp; refine hK _ ?_; clear hK K)
          refine q_val (v := .slice Ak k ck) rfl (fun w' hw' => by have hc := hck.out w' (hbe.out.trans (hw'.below.mono hbe.out.size)); go_simp) ?_
          (intro K hK; go_simp; refine hK _ ?_; clear hK K)
          refine q_fn (v := .bool true) (args := #[.slice (some ⟨g, 0, none⟩) k (k + 100), .slice Ak k ck]) rfl _ _ rfl rfl Tryz.func9 (by kernel_rfl) (by kernel_rfl) (fun w' hw' => ((hLf.out w' (hbe.out.trans (hw'.below.mono hbe.out.size))).mono fun e w'' ⟨he, hb⟩ => ⟨he, hw'.next hb⟩)) ?_
          (intro K hK; go_simp; refine hK _ ?_; clear hK K)
          refine q_val (v := .bool false) rfl (fun w' hw' => by go_simp) ?_
          (intro K hK; go_simp; refine hK _ ?_; clear hK K)
          refine q_nil ?_
          intro w7 hw7
          have hb7 : Hid (Below w6.heap.size w6 w7) := hbe.out.trans (hw7.below.mono hbe.out.size)
          clear hw7
          go_wp2_with fail
          go_roundw
          case rel => exact ⟨i + 1, by go_num, hlt'.out, hb7.out⟩
          case measure => (have := hlt'.out; simp [intOf]; omega)
        · have hz : ¬ ((i : Int) < (N : Int)) := by omega
          have Lr := Lib.hid (L6.out.below hbe.out)
          have Mr := Lib.hid (M6.out.below hbe.out)
          have Fr := Lib.hid (F6.out.below hbe.out)
          have Gr := Lib.hid (G6.out.below hbe.out)
          have tok4 := Lib.hid True.intro
          clear hlt L6 M6 F6 G6 hbe
          go_upto_region 18 with (first
    | (go_at_call 10; clear tok4; refine (spoil_any wr w.heap.size w1.heap.size N (.slice A7 N c7) g7 ks hN.out.1 Lr.out hT7.out.1 hT7.out.2 hshk.out).mono ?_; rintro e w7 ⟨rfl, hk⟩; have bb7 : Hid (Below w.heap.size w w7) := kept_below bbr.out hk (fun k s => s.1); have Mx : Hid (Lst w7 w1.heap.size (.slice A8 N2 c8) N2 g8 ks2) := Mr.out.keptB hk (fun k s => s.2); have Fr7 : Hid (RingFact w7 k10 v9 R1 ks) := Fr.out.kept hk (fun k s => by have := s.2; have := hR1.out; have := hB12.out; omega); have Gr7 : Hid (RingFact w7 k12 v11 R2 ks2) := Gr.out.kept hk (fun k s => by have := s.2; have := hR2.out; have := hB12.out; omega); clear hk bbr Lr Mr Fr Gr)
    | (go_at_call 10; refine (spoil_any w7 w1.heap.size w2.heap.size N2 (.slice A8 N2 c8) g8 ks2 hN2.out.1 Mx.out hT8.out.1 hT8.out.2 hshk2.out).mono ?_; rintro e w8 ⟨rfl, hk⟩; have bb8 : Hid (Below w.heap.size w w8) := kept_below bb7.out hk (fun k s => Nat.le_trans hB1.out s.1); have Fr8 : Hid (RingFact w8 k10 v9 R1 ks) := Fr7.out.kept hk (fun k s => by have := s.2; have := hR1.out; omega); have Gr8 : Hid (RingFact w8 k12 v11 R2 ks2) := Gr7.out.kept hk (fun k s => by have := s.2; have := hR2.out; omega); clear hk bb7 Fr7 Gr7 Mx))

          go_wp2_with fail
          go_loopw [14] (fun v wr => ∃ j : Nat, v = .int .i64 (j : Int) ∧ Hid (j ≤ na) ∧ Hid (Below w8.heap.size w8 wr)) (fun v _ => na - (intOf v).toNat)
          case atStart => exact ⟨0, rfl, Nat.zero_le _, Below.refl _ _⟩
          case round =>
            obtain ⟨j, rfl, hjn, hbe⟩ := hrel
            have hj6 : (j : Int) ≤ 140737488355328 := by have := hjn.out; have := hna0.out; omega
            have hj0 : (0 : Int) ≤ (j : Int) := by omega
            have bbr : Hid (Below w.heap.size w wr) := bb8.out.trans (hbe.out.mono bb8.out.size)
            by_cases hjt : j < na
            · have hy : (j : Int) < (na : Int) := by omega
              by_cases hjh : j < 100
              · have hy2 : (j : Int) < 100 := by omega
                have hjt' := Lib.hid hjt
                obtain ⟨x, hx⟩ : ∃ x, Hid (l[j]? = some x) := ⟨_, List.getElem?_eq_getElem (by rw [hA0.out.len]; exact hjt)⟩
                obtain ⟨xok, xnc, -⟩ := hA0.out.ok x (List.mem_of_getElem? hx.out)
                obtain ⟨b, o, hAa, -, -, -⟩ := hA0.out.at_ hx.out
                subst hAa
                have hfN : Hid (∀ w', Below w.heap.size w w' → ∀ (m : Nat) (u : Value), (noteCells x.h (.slice x.A x.n x.c))[m]? = some u → w'.cell? ⟨b, o + j * 100 + m, none⟩ = some u) := fun w' hb => by
                  obtain ⟨b2, o2, e, -, h1, -⟩ := (hAs.out w' hb).at_ hx.out
                  injection e with e
                  injection e with e1 e2
                  subst e1 e2
                  exact h1
                have hfL : Hid (∀ w', Below w.heap.size w w' → w'.cell? ⟨b, o + j * 100 + 99, none⟩ = some (.int .i64 x.least)) := fun w' hb => by
                  obtain ⟨b2, o2, e, -, -, h1⟩ := (hAs.out w' hb).at_ hx.out
                  injection e with e
                  injection e with e1 e2
                  subst e1 e2
                  exact h1
                have hfS : Hid (∀ w', Below w.heap.size w w' → Sgs w' x.A x.n x.ss) := fun w' hb => ((hAs.out w' hb).ok x (List.mem_of_getElem? hx.out)).2.2
                obtain ⟨h, A, n, c, ss, least⟩ := x
                have ok' : Hid (h.Ok) := xok
                have hc0 : Hid (n ≤ c) := xnc
                have hfN : Hid (∀ w', Below w.heap.size w w' → ∀ (m : Nat) (u : Value), (noteCells h (.slice A n c))[m]? = some u → w'.cell? ⟨b, o + j * 100 + m, none⟩ = some u) := hfN
                have hfL : Hid (∀ w', Below w.heap.size w w' → w'.cell? ⟨b, o + j * 100 + 99, none⟩ = some (.int .i64 least)) := hfL
                have hfS : Hid (∀ w', Below w.heap.size w w' → Sgs w' A n ss) := hfS
                have zN := Lib.hid (fun v => note_size ok'.out v)
                have zL : Hid ((Tryz.prog.info? 39).map (·.size) = some (noteCells h (.slice A n c)).length) := by have := zN.out (.slice A n c); rw [List.size_toArray] at this; exact this
                have oN := Lib.hid (fun A n c => note_one (h := h) A n c)
                have s0N := Lib.hid (fun v => note_zero ok'.out v)
                clear hjt hjh xok xnc hx
                go_upto_region 22 with (first
    | (((with_reducible change wpList _ _ _ ({ dst := some 107, op := _, type := _, pos := _, after := _, guard := _ } :: _) _ _); refine wpList_load_part (o := ⟨some 107, _, _, _, _, _⟩) rfl 39 (.tmp 106) rfl (b) ((o + j * 100)) rfl (noteCells h (.slice A n c)) _ (hfN.out wr bbr.out) Tryz.underlying39 rfl zL.out ?_))
    | (go_at_call 11; refine (short_any h ok'.out ss n A c hc0.out wr (hfS.out wr bbr.out)).mono ?_; rintro e w9 ⟨m, hm, rfl, hS9, hb⟩; replace hm := Lib.hid hm; have b98 : Hid (Below w8.heap.size w8 w9) := hbe.out.trans (hb.mono hbe.out.size); have bb9 : Hid (Below w.heap.size w w9) := bbr.out.trans (hb.mono bbr.out.size); replace hS9 := Lib.hid hS9; clear hb)
    | ((with_reducible change wpList _ _ _ ({ dst := none, op := Op.store 39 (.tmp 15) (.tmp 108), type := _, pos := _, after := _, guard := _ } :: _) _ _); refine wpList_store_all0 (o := ⟨none, _, _, _, _, _⟩) rfl rfl 39 (.tmp 15) (.tmp 108) rfl w9.heap.size (noteCells h (.slice A m c)).toArray rfl rfl 39 Z99 (Blk.new w9 _ _) (zN.out _) (s0N.out _) (oN.out _ _ _) ?_; intro wE hBE hkE; have hb := below_new hkE; have NE : Hid (NoteAt wE w9.heap.size h A m c (ss.take m)) := ⟨hBE.out, hS9.out.below hb⟩; have bE8 : Hid (Below w8.heap.size w8 wE) := b98.out.trans (hb.mono b98.out.size); have bbE : Hid (Below w.heap.size w wE) := bb9.out.trans (hb.mono bb9.out.size); clear hkE hBE hS9 hb b98 bb9; generalize w9.heap.size = g15 at *))

                go_cut [122] from 109 to 122 (fun v wx => v = .bool false ∧ Hid (Below wE.heap.size wE wx))
                case first =>
                  by_cases h10 : k10 = 0
                  · obtain ⟨l1, e9, hR, hpm, hst⟩ := Fr8.out h10
                    obtain ⟨h64, hkb, hap⟩ := ring_ok2 hk10.out h10
                    have hll : l1.length ≤ 64 := by have h1 := hpm.length_eq; rw [List.length_map] at h1; omega
                    have hlk : ∀ x ∈ l1, keyB x.q.length = true := fun x hx => List.all_eq_true.1 hkb x.q (hpm.mem_iff.1 (List.mem_map.2 ⟨x, hx, rfl⟩))
                    have hAk : Hid (∀ w', Below wE.heap.size wE w' → Calls Tryz.prog 12 #[.pointer (some ⟨R1, 0, none⟩), .slice Ap N cp, .agg (noteCells h (.slice A m c)).toArray, .int .i64 least] w' fun e w'' => e = .returned (.bool true) ∧ Below w'.heap.size w' w'') := fun w' hb => by
                      have hbw := bbE.out.trans (hb.mono bbE.out.size)
                      have hb8 := bE8.out.trans (hb.mono bE8.out.size)
                      exact asked_any ks N hN.out.2 (by have := hN.out.1; omega) hap Ap cp l1 hpm hst hll hlk R1 h ok'.out (ss.take m) m hm.out.1 A c least w' (hBs.out w' hbw) (hR.at_.below hb8) ((hfS.out w' hbw).take_ m hm.out.2) (hPk.out w' hbw) hshk.out
                    subst h10 e9
                    clear hR hpm hst h64 hkb hap hll hlk
                    refine q_region (Class wE) (by kernel_rfl) (by kernel_rfl) (Class.mk_ ((Below.refl _ _).drew)) ?_
                    refine q_move rfl (.tmp 10) rfl ?_
                    (intro K hK; go_simp; refine hK _ ?_; clear hK K)
                    refine q_val (v := .bool true) rfl (fun w' hw' => by go_simp) ?_
                    (intro K hK; go_simp; refine hK _ ?_; clear hK K)
                    refine q_val (v := .bool true) rfl (fun w' hw' => by go_simp) ?_
                    (intro K hK; go_simp; refine hK _ ?_; clear hK K)
                    refine q_move rfl (.tmp 9) rfl ?_
                    (intro K hK; go_simp; refine hK _ ?_; clear hK K)
                    refine q_move rfl (.tmp 0) rfl ?_
                    (intro K hK; go_simp; refine hK _ ?_; clear hK K)
                    refine q_row rfl 39 (.tmp 15) rfl g15 rfl 39 ((noteCells h (.slice A m c)).toArray) (0, 0) _ (fun w' hw' => (NE.out.below hw'.below).blk) Tryz.underlying39 rfl (zN.out _) ?_
                    (intro K hK; go_simp; refine hK _ ?_; clear hK K)
                    refine q_move rfl (.tmp 2) rfl ?_
                    (intro K hK; go_simp; refine hK _ ?_; clear hK K)
                    refine q_move rfl (.tmp 14) rfl ?_
                    (intro K hK; go_simp; refine hK _ ?_; clear hK K)
                    refine q_val (v := .pointer (some ⟨b, o + j * 100, none⟩)) rfl (fun w' hw' => by go_simp) ?_
                    (intro K hK; go_simp; refine hK _ ?_; clear hK K)
                    refine q_val (v := .pointer (some ⟨b, o + j * 100 + 99, none⟩)) rfl (fun w' hw' => by go_simp) ?_
                    (intro K hK; go_simp; refine hK _ ?_; clear hK K)
                    refine q_val (v := .int .i64 least) rfl (fun w' hw' => by have hc := hfL.out w' (bbE.out.trans (hw'.below.mono bbE.out.size)); go_simp) ?_
                    (intro K hK; go_simp; refine hK _ ?_; clear hK K)
                    refine q_fn (v := .bool true) (args := #[.pointer (some ⟨R1, 0, none⟩), .slice Ap N cp, .agg (noteCells h (.slice A m c)).toArray, .int .i64 least]) rfl _ _ rfl rfl Tryz.func12 (by kernel_rfl) (by kernel_rfl) (fun w' hw' => ((hAk.out w' hw'.below).mono fun e w'' ⟨he, hb⟩ => ⟨he, hw'.next hb⟩)) ?_
                    (intro K hK; go_simp; refine hK _ ?_; clear hK K)
                    refine q_val (v := .bool false) rfl (fun w' hw' => by go_simp) ?_
                    (intro K hK; go_simp; refine hK _ ?_; clear hK K)
                    refine q_val (v := .bool false) rfl (fun w' hw' => by go_simp) ?_
                    (intro K hK; go_simp; refine hK _ ?_; clear hK K)
                    refine q_nil ?_
                    intro w79 hw79
                    have b79 : Hid (Below wE.heap.size wE w79) := hw79.below
                    clear hw79
                    go_wp2_with fail
                    go_meet
                    case rel => exact ⟨rfl, b79.out⟩
                  · have y1 : (k10 == 0) = false := by simpa using h10
                    have y1' := Lib.hid y1
                    refine q_region (Class wE) (by kernel_rfl) (by kernel_rfl) (Class.mk_ ((Below.refl _ _).drew)) ?_
                    refine q_move rfl (.tmp 10) rfl ?_
                    (intro K hK; go_simp; refine hK _ ?_; clear hK K)
                    refine q_val (v := .bool false) rfl (fun w' hw' => by have hq := y1'.out; go_simp) ?_
                    (intro K hK; go_simp; refine hK _ ?_; clear hK K)
                    refine q_val (v := .bool false) rfl (fun w' hw' => by go_simp) ?_
                    (intro K hK; go_simp; refine hK _ ?_; clear hK K)
                    refine q_skip rfl ?_
                    (intro K hK; go_simp; refine hK _ ?_; clear hK K)
                    refine q_skip rfl ?_
                    (intro K hK; go_simp; refine hK _ ?_; clear hK K)
                    refine q_skip rfl ?_
                    (intro K hK; go_simp; refine hK _ ?_; clear hK K)
                    refine q_skip rfl ?_
                    (intro K hK; go_simp; refine hK _ ?_; clear hK K)
                    refine q_skip rfl ?_
                    (intro K hK; go_simp; refine hK _ ?_; clear hK K)
                    refine q_skip rfl ?_
                    (intro K hK; go_simp; refine hK _ ?_; clear hK K)
                    refine q_skip rfl ?_
                    (intro K hK; go_simp; refine hK _ ?_; clear hK K)
                    refine q_skip rfl ?_
                    (intro K hK; go_simp; refine hK _ ?_; clear hK K)
                    refine q_skip rfl ?_
                    (intro K hK; go_simp; refine hK _ ?_; clear hK K)
                    refine q_skip rfl ?_
                    (intro K hK; go_simp; refine hK _ ?_; clear hK K)
                    refine q_val (v := .bool false) rfl (fun w' hw' => by go_simp) ?_
                    (intro K hK; go_simp; refine hK _ ?_; clear hK K)
                    refine q_nil ?_
                    intro w79 hw79
                    have b79 : Hid (Below wE.heap.size wE w79) := hw79.below
                    clear hw79
                    go_wp2_with fail
                    go_meet
                    case rel => exact ⟨rfl, b79.out⟩
                case rest =>
                obtain ⟨rfl, hcb⟩ := hcut
                obtain ⟨wF, rfl⟩ : ∃ wF, wF = wc := ⟨_, rfl⟩
                have bF8 : Hid (Below w8.heap.size w8 wF) := bE8.out.trans (hcb.out.mono bE8.out.size)
                have bbF : Hid (Below w.heap.size w wF) := bbE.out.trans (hcb.out.mono bbE.out.size)
                have NF := Lib.hid (NE.out.below hcb.out)
                clear hcb NE bbE bE8
                go_upto_region 24 with fail
                go_cut [136] from 123 to 136 (fun v wx => v = .bool false ∧ Hid (Below wF.heap.size wF wx))
                case first =>
                  by_cases h12 : k12 = 0
                  · obtain ⟨l1, e9, hR, hpm, hst⟩ := Gr8.out h12
                    obtain ⟨h64, hkb, hap⟩ := ring_ok2 hk12.out h12
                    have hll : l1.length ≤ 64 := by have h1 := hpm.length_eq; rw [List.length_map] at h1; omega
                    have hlk : ∀ x ∈ l1, keyB x.q.length = true := fun x hx => List.all_eq_true.1 hkb x.q (hpm.mem_iff.1 (List.mem_map.2 ⟨x, hx, rfl⟩))
                    have hAk : Hid (∀ w', Below wF.heap.size wF w' → Calls Tryz.prog 12 #[.pointer (some ⟨R2, 0, none⟩), .slice Aq N2 cq, .agg (noteCells h (.slice A m c)).toArray, .int .i64 least] w' fun e w'' => e = .returned (.bool true) ∧ Below w'.heap.size w' w'') := fun w' hb => by
                      have hbw := bbF.out.trans (hb.mono bbF.out.size)
                      have hb8 := bF8.out.trans (hb.mono bF8.out.size)
                      exact asked_any ks2 N2 hN2.out.2 (by have := hN2.out.1; omega) hap Aq cq l1 hpm hst hll hlk R2 h ok'.out (ss.take m) m hm.out.1 A c least w' (hBs.out w' hbw) (hR.at_.below hb8) ((hfS.out w' hbw).take_ m hm.out.2) (hPk2.out w' hbw) hshk2.out
                    subst h12 e9
                    clear hR hpm hst h64 hkb hap hll hlk
                    refine q_region (Class wF) (by kernel_rfl) (by kernel_rfl) (Class.mk_ ((Below.refl _ _).drew)) ?_
                    refine q_move rfl (.tmp 12) rfl ?_
                    (intro K hK; go_simp; refine hK _ ?_; clear hK K)
                    refine q_val (v := .bool true) rfl (fun w' hw' => by go_simp) ?_
                    (intro K hK; go_simp; refine hK _ ?_; clear hK K)
                    refine q_val (v := .bool true) rfl (fun w' hw' => by go_simp) ?_
                    (intro K hK; go_simp; refine hK _ ?_; clear hK K)
                    refine q_move rfl (.tmp 11) rfl ?_
                    (intro K hK; go_simp; refine hK _ ?_; clear hK K)
                    refine q_move rfl (.tmp 1) rfl ?_
                    (intro K hK; go_simp; refine hK _ ?_; clear hK K)
                    refine q_row rfl 39 (.tmp 15) rfl g15 rfl 39 ((noteCells h (.slice A m c)).toArray) (0, 0) _ (fun w' hw' => (NF.out.below hw'.below).blk) Tryz.underlying39 rfl (zN.out _) ?_
                    (intro K hK; go_simp; refine hK _ ?_; clear hK K)
                    refine q_move rfl (.tmp 2) rfl ?_
                    (intro K hK; go_simp; refine hK _ ?_; clear hK K)
                    refine q_move rfl (.tmp 14) rfl ?_
                    (intro K hK; go_simp; refine hK _ ?_; clear hK K)
                    refine q_val (v := .pointer (some ⟨b, o + j * 100, none⟩)) rfl (fun w' hw' => by go_simp) ?_
                    (intro K hK; go_simp; refine hK _ ?_; clear hK K)
                    refine q_val (v := .pointer (some ⟨b, o + j * 100 + 99, none⟩)) rfl (fun w' hw' => by go_simp) ?_
                    (intro K hK; go_simp; refine hK _ ?_; clear hK K)
                    refine q_val (v := .int .i64 least) rfl (fun w' hw' => by have hc := hfL.out w' (bbF.out.trans (hw'.below.mono bbF.out.size)); go_simp) ?_
                    (intro K hK; go_simp; refine hK _ ?_; clear hK K)
                    refine q_fn (v := .bool true) (args := #[.pointer (some ⟨R2, 0, none⟩), .slice Aq N2 cq, .agg (noteCells h (.slice A m c)).toArray, .int .i64 least]) rfl _ _ rfl rfl Tryz.func12 (by kernel_rfl) (by kernel_rfl) (fun w' hw' => ((hAk.out w' hw'.below).mono fun e w'' ⟨he, hb⟩ => ⟨he, hw'.next hb⟩)) ?_
                    (intro K hK; go_simp; refine hK _ ?_; clear hK K)
                    refine q_val (v := .bool false) rfl (fun w' hw' => by go_simp) ?_
                    (intro K hK; go_simp; refine hK _ ?_; clear hK K)
                    refine q_val (v := .bool false) rfl (fun w' hw' => by go_simp) ?_
                    (intro K hK; go_simp; refine hK _ ?_; clear hK K)
                    refine q_nil ?_
                    intro w79 hw79
                    have b79 : Hid (Below wF.heap.size wF w79) := hw79.below
                    clear hw79
                    go_wp2_with fail
                    go_meet
                    case rel => exact ⟨rfl, b79.out⟩
                  · have y1 : (k12 == 0) = false := by simpa using h12
                    have y1' := Lib.hid y1
                    refine q_region (Class wF) (by kernel_rfl) (by kernel_rfl) (Class.mk_ ((Below.refl _ _).drew)) ?_
                    refine q_move rfl (.tmp 12) rfl ?_
                    (intro K hK; go_simp; refine hK _ ?_; clear hK K)
                    refine q_val (v := .bool false) rfl (fun w' hw' => by have hq := y1'.out; go_simp) ?_
                    (intro K hK; go_simp; refine hK _ ?_; clear hK K)
                    refine q_val (v := .bool false) rfl (fun w' hw' => by go_simp) ?_
                    (intro K hK; go_simp; refine hK _ ?_; clear hK K)
                    refine q_skip rfl ?_
                    (intro K hK; go_simp; refine hK _ ?_; clear hK K)
                    refine q_skip rfl ?_
                    (intro K hK; go_simp; refine hK _ ?_; clear hK K)
                    refine q_skip rfl ?_
                    (intro K hK; go_simp; refine hK _ ?_; clear hK K)
                    refine q_skip rfl ?_
                    (intro K hK; go_simp; refine hK _ ?_; clear hK K)
                    refine q_skip rfl ?_
                    (intro K hK; go_simp; refine hK _ ?_; clear hK K)
                    refine q_skip rfl ?_
                    (intro K hK; go_simp; refine hK _ ?_; clear hK K)
                    refine q_skip rfl ?_
                    (intro K hK; go_simp; refine hK _ ?_; clear hK K)
                    refine q_skip rfl ?_
                    (intro K hK; go_simp; refine hK _ ?_; clear hK K)
                    refine q_skip rfl ?_
                    (intro K hK; go_simp; refine hK _ ?_; clear hK K)
                    refine q_skip rfl ?_
                    (intro K hK; go_simp; refine hK _ ?_; clear hK K)
                    refine q_val (v := .bool false) rfl (fun w' hw' => by go_simp) ?_
                    (intro K hK; go_simp; refine hK _ ?_; clear hK K)
                    refine q_nil ?_
                    intro w79 hw79
                    have b79 : Hid (Below wF.heap.size wF w79) := hw79.below
                    clear hw79
                    go_wp2_with fail
                    go_meet
                    case rel => exact ⟨rfl, b79.out⟩
                case rest =>
                obtain ⟨rfl, hcb⟩ := hcut
                have bG8 := Lib.hid (bF8.out.trans (hcb.out.mono bF8.out.size))
                clear hcb
                go_wp2_with fail
                go_roundw
                case rel => exact ⟨j + 1, by go_num, hjt'.out, bG8.out⟩
                case measure => (have := hjt'.out; simp [intOf]; omega)
              · have hy2 : ¬ ((j : Int) < 100) := by omega
                clear hjt hjh
                go_wp2_with fail
                go_ret
                exact ⟨rfl, bbr.out⟩
            · have hy : ¬ ((j : Int) < (na : Int)) := by omega
              clear hjt
              go_wp2_with fail
              go_ret
              exact ⟨rfl, bbr.out⟩
end Go.Proofs.YtfbhjoejffagjaaGreatDoor.HeadRings
