/-
  Texts of the claim, put into one file: RefPiece.
-/
import Derived.Test.YtmdkfhfkdcbpgaaZ31
import Derived.Test.YtmdkfhfkdcbpgaaZ16
import Derived.Test.YtmdkfhfkdcbpgaaZ37
import Derived.Test.YtmdkfhfkdcbpgaaZ19
import Derived.Test.YtmdkfhfkdcbpgaaZ15
import Derived.Test.YtmdkfhfkdcbpgaaZ7
import Derived.Test.YtmdkfhfkdcbpgaaZ14

namespace Go.Proofs.Ytmdkfhfkdcbpgaa.RefPiece
open Go Go.RowKit Go.Proofs.Ytmdkfhfkdcbpgaa Go.Proofs.Ytmdkfhfkdcbpgaa.HeadMem Go.Proofs.Ytmdkfhfkdcbpgaa.Mem Go.Proofs.Ytmdkfhfkdcbpgaa.Sha Go.Proofs.Ytmdkfhfkdcbpgaa.Bytes Go.Proofs.Ytmdkfhfkdcbpgaa.HashMem Go.Proofs.Ytmdkfhfkdcbpgaa.Append Go.Proofs.Ytmdkfhfkdcbpgaa.Octet Go.Proofs.Ytmdkfhfkdcbpgaa.Octet2 Go.Proofs.Ytmdkfhfkdcbpgaa.Octet4 Go.Proofs.Ytmdkfhfkdcbpgaa.Own Go.Proofs.Ytmdkfhfkdcbpgaa.Held Go.Proofs.Ytmdkfhfkdcbpgaa.TreeMem Go.Proofs.Ytmdkfhfkdcbpgaa.Reader7 Go.Proofs.Ytmdkfhfkdcbpgaa.ProofBeside Go.Proofs.Ytmdkfhfkdcbpgaa.ProofEnc Go.Proofs.Ytmdkfhfkdcbpgaa.ProofIdx Go.Proofs.Ytmdkfhfkdcbpgaa.ProofIdx2 Go.Proofs.Ytmdkfhfkdcbpgaa.IdxRef0 Go.Proofs.Ytmdkfhfkdcbpgaa.IdxRef2 Go.Proofs.Ytmdkfhfkdcbpgaa.DigEq Go.Proofs.Ytmdkfhfkdcbpgaa.QuietTail Go.Proofs.Ytmdkfhfkdcbpgaa.Grown Go.Proofs.Ytmdkfhfkdcbpgaa.Want Go.Proofs.Ytmdkfhfkdcbpgaa.Plain Go.Proofs.Ytmdkfhfkdcbpgaa.Guard Go.Proofs.Ytmdkfhfkdcbpgaa.Guard2 Go.Proofs.Ytmdkfhfkdcbpgaa.Sides Go.Proofs.Ytmdkfhfkdcbpgaa.Beside17 Go.Proofs.Ytmdkfhfkdcbpgaa.Ref17 Go.Proofs.Ytmdkfhfkdcbpgaa.Ref17b Go.Proofs.Ytmdkfhfkdcbpgaa.Eight Go.Proofs.Ytmdkfhfkdcbpgaa.RefIncl0 Go.Proofs.Ytmdkfhfkdcbpgaa.PieceP Go.Proofs.Ytmdkfhfkdcbpgaa.PieceRow Go.Proofs.Ytmdkfhfkdcbpgaa.PieceBegins Go.Proofs.Ytmdkfhfkdcbpgaa.Prs Go.Proofs.Ytmdkfhfkdcbpgaa.Reach Go.Proofs.Ytmdkfhfkdcbpgaa.Reach2 Go.Proofs.Ytmdkfhfkdcbpgaa.PieceB Go.Proofs.Ytmdkfhfkdcbpgaa.PieceLay Go.Proofs.Ytmdkfhfkdcbpgaa.Ref17K

/-- What Piece leaves. -/
def RPost (w : World) (X : Option Text) (e : Ending) (w' : World) : Prop := ∃ A4 c4 t, e = .returned (.slice A4 t.length c4) ∧ Reads w' 1 A4 t.length (cells8 t) ∧ (A4 = none → t.length = 0 ∧ c4 = 0) ∧ t.length ≤ c4 ∧ (X = some t ∨ (X = none ∧ A4 = none ∧ t = [])) ∧ Below w.heap.size w w'
theorem RPost.none_ {w w' : World} {X : Option Text} {e : Ending} (he : e = .returned (.slice none 0 0)) (hX : X = none) (hb : Below w.heap.size w w') : RPost w X e w' := ⟨none, 0, [], he, Reads.nil_ _ _ _, fun _ => ⟨rfl, rfl⟩, Nat.le_refl _, .inr ⟨hX, rfl, rfl⟩, hb⟩
/-- May a piece's head be? -/
def headOk (s : ByteArray) (F : Int) (b : Text) (n n2 : Nat) : Prop := begB s.data.toList F b = true ∧ 1 ≤ n ∧ n ≤ 1000 ∧ n2 = n
instance (s : ByteArray) (F : Int) (b : Text) (n n2 : Nat) : Decidable (headOk s F b n n2) := by unfold headOk; infer_instance
theorem want_none {s : ByteArray} {F : Int} {b : Text} {es : List Text} {ps : List Pr} {n n2 : Nat} (hn : es.length = n) (hm : ps.length = n2) (h : ¬ headOk s F b n n2) : pieceWant s F b es ps = none := by
  unfold pieceWant
  rw [if_neg]
  intro hok
  rw [okP_iff] at hok
  exact h ⟨hok.1, by omega, by omega, by omega⟩
theorem digZ : (Try.prog.info? 23).map (·.size) = some 32 := by kernel_rfl
theorem qD : Try.prog.eqGuardType Try.prog.depth 23 = false := by kernel_rfl
theorem pr_one (x : Pr) : (x.cells.toArray.all fun v => v.oneCell') = true := by
  rw [List.all_toArray]
  rfl
theorem be4_cells (N : Nat) : cells8 (be4 N) = [.int .u8 ((N : Int) / 16777216 % 256), .int .u8 ((N : Int) / 65536 % 256), .int .u8 ((N : Int) / 256 % 256), .int .u8 ((N : Int) % 256)] := by
  have e : be4 N = [byteAt N 24, byteAt N 16, byteAt N 8, byteAt N 0] := rfl
  rw [e]
  show [cell8 _, cell8 _, cell8 _, cell8 _] = _
  unfold cell8
  rw [← b8_at N 24, ← b8_at N 16, ← b8_at N 8, ← b8_at N 0]
  simp
/-- Four bytes that were laid just now. -/
theorem be4_new (w : World) (N : Nat) (a b c d : Int) (ha : a = (N : Int) / 16777216 % 256) (hb : b = (N : Int) / 65536 % 256) (hc : c = (N : Int) / 256 % 256) (hd : d = (N : Int) % 256) :
    Reads (w.alloc (.cells #[.int .u8 a, .int .u8 b, .int .u8 c, .int .u8 d] 5)) 1 (some ⟨w.heap.size, 0, none⟩) 4 (cells8 (be4 N)) := by
  subst ha hb hc hd
  rw [be4_cells]
  exact Blk.reads (Blk.new w _ _) 0 _ rfl (fun j u hu => by rw [Nat.zero_add, List.getElem?_toArray]; exact hu)
theorem bs_eq {x y : Int} {n : Nat} : (bsOf x y = (n : Int)) ↔ (insideB x y = true ∧ bsNum x y = (n : Int)) := by
  unfold bsOf bsNum
  by_cases h : insideB x y = true
  · rw [if_pos h, if_pos h]
    have h2 := h
    simp only [insideB, Bool.and_eq_true, decide_eq_true_eq] at h2
    rw [beside_sides (n := x.toNat) (i := y.toNat) (by omega)]
    exact ⟨fun e => ⟨h, e⟩, fun e => e.2⟩
  · rw [if_neg h]
    exact ⟨fun e => by omega, fun e => absurd e.1 h⟩

set_option maxRecDepth 100000 in
set_option maxHeartbeats 20000000 in
theorem refPiece_any (s : ByteArray) (hs : s.size ≤ 140737488355328) (F : Int) (b : Text) (hb : b.length = 32) (es : List Text) (n : Nat) (hn : es.length = n) (hn47 : n < 140737488355328) (A : Option Addr) (c : Nat) (ps : List Pr) (n2 : Nat) (hm : ps.length = n2) (A2 : Option Addr) (c2 : Nat) (w : World) (hp : Pieces w A es) (hq : Prs w A2 ps) (hsh : ∀ e ∈ es, e.length < 140737488355328) (hnn : ∀ p ∈ ps, p.n < 140737488355328) :
    Calls Try.prog 17 #[.agg (pieceCells s F b (.slice A n c) (.slice A2 n2 c2)).toArray] w (RPost w (pieceWant s F b es ps)) := by
  obtain ⟨ii0, hi0, iz0, iz1, iz2⟩ := info_parts8 info8
  obtain ⟨X, hX⟩ : ∃ X, Hid (pieceWant s F b es ps = X) := ⟨_, Lib.hid rfl⟩
  have hXno : Hid (¬ headOk s F b n n2 → X = none) := fun h => hX.out.symm.trans (want_none hn hm h)
  rw [hX.out]
  obtain ⟨stop, hstop⟩ : ∃ x, Hid ((!(decide (headOk s F b n n2))) = x) := ⟨_, Lib.hid rfl⟩
  have hbad : Hid (¬ headOk s F b n n2 → stop = true) := fun h => by rw [← hstop.out, decide_eq_false h]; rfl
  have hgood : Hid (headOk s F b n n2 → stop = false) := fun h => by rw [← hstop.out, decide_eq_true h]; rfl
  obtain ⟨cs, hcs⟩ : ∃ cs : Array Value, (pieceCells s F b (.slice A n c) (.slice A2 n2 c2)).toArray = cs := ⟨_, rfl⟩
  have i0 : Hid (cs[0]? = some (.string s)) := by show _ = _; rw [← hcs, List.getElem?_toArray]; exact pc_name
  have i1 : Hid (cs[1]? = some (.int .i64 F)) := by show _ = _; rw [← hcs, List.getElem?_toArray]; exact pc_first
  have ib : Hid (∀ j v, (cells8 b)[j]? = some v → cs[2 + j]? = some v) := fun j v hv => by rw [← hcs, List.getElem?_toArray]; exact pc_before j v hv
  have i34 : Hid (cs[34]? = some (.slice A n c)) := by show _ = _; rw [← hcs, List.getElem?_toArray]; exact pc_events hb
  have i35 : Hid (cs[35]? = some (.slice A2 n2 c2)) := by show _ = _; rw [← hcs, List.getElem?_toArray]; exact pc_proofs hb
  rw [hcs]
  clear hcs
  have sD : Hid ((Try.prog.info? 23).map (·.size) = some (cells8 b).length) := agg_hi size32 (by rw [cells8_len, hb])
  have hqn := Lib.hid (fun w' => neq_dig b (List.replicate 32 0) hb (by simp) w')
  obtain ⟨zb, hzb⟩ : ∃ x, Hid ((!decide (b = List.replicate 32 0)) = x) := ⟨_, Lib.hid rfl⟩
  rw [hzb.out] at hqn
  have hB0 : Hid (Blk (w.alloc (.cells cs 44)) w.heap.size 44 cs) := Blk.new w _ _
  have hb0 : Hid (Below w.heap.size w (w.alloc (.cells cs 44))) := Below.heap_below w _
  have hz0 : Hid ((w.alloc (.cells cs 44)).heap.size = w.heap.size + 1) := by show _ = _; simp
  have e34 : (w.alloc (.cells cs 44)).cell? ⟨w.heap.size, 34, none⟩ = some (.slice A n c) := (hB0.out.cell 34).trans i34.out
  have hL0 : Hid (Blk ((w.alloc (.cells cs 44)).alloc (.cells Z32 23)) (w.heap.size + 1) 23 Z32) := by
    have := Blk.new (w.alloc (.cells cs 44)) 23 Z32
    rw [hz0.out] at this
    exact this

  have hZZ : Hid ((cells8 (List.replicate 32 0)).toArray = Z32) := by show _ = _; rfl
  obtain ⟨nb, hnb⟩ : ∃ x, Hid (namedB s.data.toList = x) := ⟨_, Lib.hid rfl⟩
  have hN := Lib.hid (fun w' => named17_any s w')
  rw [hnb.out] at hN
  replace hn := Lib.hid hn
  replace hm := Lib.hid hm
  replace hn47 := Lib.hid hn47
  replace hp := Lib.hid hp
  replace hq := Lib.hid hq
  replace hsh := Lib.hid hsh
  replace hnn := Lib.hid hnn
  replace hb := Lib.hid hb
  replace hs := Lib.hid hs
  go_enter Try.func17, Try.ntmps17
  go_upto_region 3 with ((with_reducible change wpList _ _ _ ({ dst := none, op := Op.store 23 (.tmp 4) _, type := _, pos := _, after := _, guard := _ } :: _) _ _); refine wpList_store_whole0 rfl rfl 23 (.tmp 4) (.tmp 13) rfl ((w.heap.size + 1)) (Z32) rfl rfl 23 (Z32) hL0.out (by kernel_rfl) rfl (by kernel_rfl) ?_; intro w1 hZ1 hk1; have hB1 : Hid (Blk w1 w.heap.size 44 cs) := Blk.kept (hB0.out.alloc _) hk1 (by omega); have hb1 : Hid (Below w.heap.size w w1) := (hb0.out.alloc (by have := hz0.out; omega) _).trans (Kept.below_of hk1 (by omega) (by have := hz0.out; simp; omega)); replace hZ1 := Lib.hid hZ1; clear hk1)
  have hC : Hid (∀ w', Below w1.heap.size w1 w' → ∀ j v, cs[j]? = some v → w'.cell? ⟨w.heap.size, j, none⟩ = some v) := fun w' hb j v hv => ((show Blk w' w.heap.size 44 cs from (hb.block _ hB1.out.lt).trans hB1.out).cell j).trans hv
  clear hB0 hb0 hL0 e34
  go_cut [48] from 14 to 48 (fun v wr => v = .bool stop ∧ Hid (Below w1.heap.size w1 wr))
  case first =>
    cases nb with
    | false =>
      have hst : stop = true := hbad.out (fun h => by have h := h.1; unfold begB at h; rw [hnb.out] at h; cases h)
      subst hst
      clear hbad hgood hXno
      refine q_plain (Class w1) (Class.mk_ (Below.refl _ _)) ?_
      refine q_val (v := .pointer (some ⟨w.heap.size, 0, none⟩)) rfl (fun w' hw' => by go_simp) ?_
      (intro K hK; go_simp; refine hK _ ?_; clear hK K)
      refine q_val (v := .string s) rfl (fun w' hw' => by have hc := hC.out w' hw'.below 0 _ i0.out; go_simp) ?_
      (intro K hK; go_simp; refine hK _ ?_; clear hK K)
      refine q_fn (v := .bool false) (args := #[.string s]) rfl _ _ rfl rfl Try.func28 (by kernel_rfl) (by kernel_rfl) (fun w' hw' => (hN.out w').mono (fun e w'' ⟨he, hw⟩ => ⟨he, hw ▸ hw'⟩)) ?_
      (intro K hK; go_simp; refine hK _ ?_; clear hK K)
      refine q_val (v := .bool true) rfl (fun w' hw' => by go_simp) ?_
      (intro K hK; go_simp; refine hK _ ?_; clear hK K)
      refine q_move rfl (.tmp 17) rfl ?_
      (intro K hK; go_simp; refine hK _ ?_; clear hK K)
      refine q_skip rfl ?_
      (intro K hK; go_simp; refine hK _ ?_; clear hK K)
      refine q_skip rfl ?_
      (intro K hK; go_simp; refine hK _ ?_; clear hK K)
      refine q_skip rfl ?_
      (intro K hK; go_simp; refine hK _ ?_; clear hK K)
      refine q_val (v := .bool true) rfl (fun w' hw' => by go_simp) ?_
      (intro K hK; go_simp; refine hK _ ?_; clear hK K)
      refine q_move rfl (.tmp 22) rfl ?_
      (intro K hK; go_simp; refine hK _ ?_; clear hK K)
      refine q_skip rfl ?_
      (intro K hK; go_simp; refine hK _ ?_; clear hK K)
      refine q_skip rfl ?_
      (intro K hK; go_simp; refine hK _ ?_; clear hK K)
      refine q_val (v := .bool true) rfl (fun w' hw' => by go_simp) ?_
      (intro K hK; go_simp; refine hK _ ?_; clear hK K)
      refine q_move rfl (.tmp 26) rfl ?_
      (intro K hK; go_simp; refine hK _ ?_; clear hK K)
      refine q_skip rfl ?_
      (intro K hK; go_simp; refine hK _ ?_; clear hK K)
      refine q_skip rfl ?_
      (intro K hK; go_simp; refine hK _ ?_; clear hK K)
      refine q_val (v := .bool true) rfl (fun w' hw' => by go_simp) ?_
      (intro K hK; go_simp; refine hK _ ?_; clear hK K)
      refine q_move rfl (.tmp 30) rfl ?_
      (intro K hK; go_simp; refine hK _ ?_; clear hK K)
      refine q_skip rfl ?_
      (intro K hK; go_simp; refine hK _ ?_; clear hK K)
      refine q_skip rfl ?_
      (intro K hK; go_simp; refine hK _ ?_; clear hK K)
      refine q_skip rfl ?_
      (intro K hK; go_simp; refine hK _ ?_; clear hK K)
      refine q_skip rfl ?_
      (intro K hK; go_simp; refine hK _ ?_; clear hK K)
      refine q_skip rfl ?_
      (intro K hK; go_simp; refine hK _ ?_; clear hK K)
      refine q_val (v := .bool true) rfl (fun w' hw' => by go_simp) ?_
      (intro K hK; go_simp; refine hK _ ?_; clear hK K)
      refine q_move rfl (.tmp 37) rfl ?_
      (intro K hK; go_simp; refine hK _ ?_; clear hK K)
      refine q_skip rfl ?_
      (intro K hK; go_simp; refine hK _ ?_; clear hK K)
      refine q_skip rfl ?_
      (intro K hK; go_simp; refine hK _ ?_; clear hK K)
      refine q_skip rfl ?_
      (intro K hK; go_simp; refine hK _ ?_; clear hK K)
      refine q_skip rfl ?_
      (intro K hK; go_simp; refine hK _ ?_; clear hK K)
      refine q_skip rfl ?_
      (intro K hK; go_simp; refine hK _ ?_; clear hK K)
      refine q_skip rfl ?_
      (intro K hK; go_simp; refine hK _ ?_; clear hK K)
      refine q_skip rfl ?_
      (intro K hK; go_simp; refine hK _ ?_; clear hK K)
      refine q_skip rfl ?_
      (intro K hK; go_simp; refine hK _ ?_; clear hK K)
      refine q_skip rfl ?_
      (intro K hK; go_simp; refine hK _ ?_; clear hK K)
      refine q_val (v := .bool true) rfl (fun w' hw' => by go_simp) ?_
      (intro K hK; go_simp; refine hK _ ?_; clear hK K)
      refine q_nil ?_
      intro w7 hw7
      have h7 : Hid (Below w1.heap.size w1 w7) := hw7.below
      go_wp2_with fail
      go_meet
      case rel => exact ⟨rfl, h7.out⟩
    | true =>
      by_cases h1 : F < 0
      · have hst : stop = true := hbad.out (fun h => by have h := h.1; unfold begB at h; simp only [Bool.and_eq_true, decide_eq_true_eq] at h; omega)
        subst hst
        clear hbad hgood hXno
        refine q_plain (Class w1) (Class.mk_ (Below.refl _ _)) ?_
        refine q_val (v := .pointer (some ⟨w.heap.size, 0, none⟩)) rfl (fun w' hw' => by go_simp) ?_
        (intro K hK; go_simp; refine hK _ ?_; clear hK K)
        refine q_val (v := .string s) rfl (fun w' hw' => by have hc := hC.out w' hw'.below 0 _ i0.out; go_simp) ?_
        (intro K hK; go_simp; refine hK _ ?_; clear hK K)
        refine q_fn (v := .bool true) (args := #[.string s]) rfl _ _ rfl rfl Try.func28 (by kernel_rfl) (by kernel_rfl) (fun w' hw' => (hN.out w').mono (fun e w'' ⟨he, hw⟩ => ⟨he, hw ▸ hw'⟩)) ?_
        (intro K hK; go_simp; refine hK _ ?_; clear hK K)
        refine q_val (v := .bool false) rfl (fun w' hw' => by go_simp) ?_
        (intro K hK; go_simp; refine hK _ ?_; clear hK K)
        refine q_move rfl (.tmp 17) rfl ?_
        (intro K hK; go_simp; refine hK _ ?_; clear hK K)
        refine q_val (v := .pointer (some ⟨w.heap.size, 1, none⟩)) rfl (fun w' hw' => by go_simp) ?_
        (intro K hK; go_simp; refine hK _ ?_; clear hK K)
        refine q_val (v := .int .i64 F) rfl (fun w' hw' => by have hc := hC.out w' hw'.below 1 _ i1.out; go_simp) ?_
        (intro K hK; go_simp; refine hK _ ?_; clear hK K)
        refine q_val (v := .bool true) rfl (fun w' hw' => by go_simp) ?_
        (intro K hK; go_simp; refine hK _ ?_; clear hK K)
        refine q_val (v := .bool true) rfl (fun w' hw' => by go_simp) ?_
        (intro K hK; go_simp; refine hK _ ?_; clear hK K)
        refine q_move rfl (.tmp 22) rfl ?_
        (intro K hK; go_simp; refine hK _ ?_; clear hK K)
        refine q_skip rfl ?_
        (intro K hK; go_simp; refine hK _ ?_; clear hK K)
        refine q_skip rfl ?_
        (intro K hK; go_simp; refine hK _ ?_; clear hK K)
        refine q_val (v := .bool true) rfl (fun w' hw' => by go_simp) ?_
        (intro K hK; go_simp; refine hK _ ?_; clear hK K)
        refine q_move rfl (.tmp 26) rfl ?_
        (intro K hK; go_simp; refine hK _ ?_; clear hK K)
        refine q_skip rfl ?_
        (intro K hK; go_simp; refine hK _ ?_; clear hK K)
        refine q_skip rfl ?_
        (intro K hK; go_simp; refine hK _ ?_; clear hK K)
        refine q_val (v := .bool true) rfl (fun w' hw' => by go_simp) ?_
        (intro K hK; go_simp; refine hK _ ?_; clear hK K)
        refine q_move rfl (.tmp 30) rfl ?_
        (intro K hK; go_simp; refine hK _ ?_; clear hK K)
        refine q_skip rfl ?_
        (intro K hK; go_simp; refine hK _ ?_; clear hK K)
        refine q_skip rfl ?_
        (intro K hK; go_simp; refine hK _ ?_; clear hK K)
        refine q_skip rfl ?_
        (intro K hK; go_simp; refine hK _ ?_; clear hK K)
        refine q_skip rfl ?_
        (intro K hK; go_simp; refine hK _ ?_; clear hK K)
        refine q_skip rfl ?_
        (intro K hK; go_simp; refine hK _ ?_; clear hK K)
        refine q_val (v := .bool true) rfl (fun w' hw' => by go_simp) ?_
        (intro K hK; go_simp; refine hK _ ?_; clear hK K)
        refine q_move rfl (.tmp 37) rfl ?_
        (intro K hK; go_simp; refine hK _ ?_; clear hK K)
        refine q_skip rfl ?_
        (intro K hK; go_simp; refine hK _ ?_; clear hK K)
        refine q_skip rfl ?_
        (intro K hK; go_simp; refine hK _ ?_; clear hK K)
        refine q_skip rfl ?_
        (intro K hK; go_simp; refine hK _ ?_; clear hK K)
        refine q_skip rfl ?_
        (intro K hK; go_simp; refine hK _ ?_; clear hK K)
        refine q_skip rfl ?_
        (intro K hK; go_simp; refine hK _ ?_; clear hK K)
        refine q_skip rfl ?_
        (intro K hK; go_simp; refine hK _ ?_; clear hK K)
        refine q_skip rfl ?_
        (intro K hK; go_simp; refine hK _ ?_; clear hK K)
        refine q_skip rfl ?_
        (intro K hK; go_simp; refine hK _ ?_; clear hK K)
        refine q_skip rfl ?_
        (intro K hK; go_simp; refine hK _ ?_; clear hK K)
        refine q_val (v := .bool true) rfl (fun w' hw' => by go_simp) ?_
        (intro K hK; go_simp; refine hK _ ?_; clear hK K)
        refine q_nil ?_
        intro w7 hw7
        have h7 : Hid (Below w1.heap.size w1 w7) := hw7.below
        go_wp2_with fail
        go_meet
        case rel => exact ⟨rfl, h7.out⟩
      · have z1 : ¬ F < 0 := h1
        by_cases h2 : n < 1
        · have z2 : (n : Int) < 1 := by omega
          have hst : stop = true := hbad.out (fun h => by have := h.2.1; omega)
          subst hst
          clear hbad hgood hXno
          clear h2
          refine q_plain (Class w1) (Class.mk_ (Below.refl _ _)) ?_
          refine q_val (v := .pointer (some ⟨w.heap.size, 0, none⟩)) rfl (fun w' hw' => by go_simp) ?_
          (intro K hK; go_simp; refine hK _ ?_; clear hK K)
          refine q_val (v := .string s) rfl (fun w' hw' => by have hc := hC.out w' hw'.below 0 _ i0.out; go_simp) ?_
          (intro K hK; go_simp; refine hK _ ?_; clear hK K)
          refine q_fn (v := .bool true) (args := #[.string s]) rfl _ _ rfl rfl Try.func28 (by kernel_rfl) (by kernel_rfl) (fun w' hw' => (hN.out w').mono (fun e w'' ⟨he, hw⟩ => ⟨he, hw ▸ hw'⟩)) ?_
          (intro K hK; go_simp; refine hK _ ?_; clear hK K)
          refine q_val (v := .bool false) rfl (fun w' hw' => by go_simp) ?_
          (intro K hK; go_simp; refine hK _ ?_; clear hK K)
          refine q_move rfl (.tmp 17) rfl ?_
          (intro K hK; go_simp; refine hK _ ?_; clear hK K)
          refine q_val (v := .pointer (some ⟨w.heap.size, 1, none⟩)) rfl (fun w' hw' => by go_simp) ?_
          (intro K hK; go_simp; refine hK _ ?_; clear hK K)
          refine q_val (v := .int .i64 F) rfl (fun w' hw' => by have hc := hC.out w' hw'.below 1 _ i1.out; go_simp) ?_
          (intro K hK; go_simp; refine hK _ ?_; clear hK K)
          refine q_val (v := .bool false) rfl (fun w' hw' => by go_simp) ?_
          (intro K hK; go_simp; refine hK _ ?_; clear hK K)
          refine q_val (v := .bool false) rfl (fun w' hw' => by go_simp) ?_
          (intro K hK; go_simp; refine hK _ ?_; clear hK K)
          refine q_move rfl (.tmp 22) rfl ?_
          (intro K hK; go_simp; refine hK _ ?_; clear hK K)
          refine q_move rfl (.tmp 3) rfl ?_
          (intro K hK; go_simp; refine hK _ ?_; clear hK K)
          refine q_val (v := .bool true) rfl (fun w' hw' => by go_simp) ?_
          (intro K hK; go_simp; refine hK _ ?_; clear hK K)
          refine q_val (v := .bool true) rfl (fun w' hw' => by go_simp) ?_
          (intro K hK; go_simp; refine hK _ ?_; clear hK K)
          refine q_move rfl (.tmp 26) rfl ?_
          (intro K hK; go_simp; refine hK _ ?_; clear hK K)
          refine q_skip rfl ?_
          (intro K hK; go_simp; refine hK _ ?_; clear hK K)
          refine q_skip rfl ?_
          (intro K hK; go_simp; refine hK _ ?_; clear hK K)
          refine q_val (v := .bool true) rfl (fun w' hw' => by go_simp) ?_
          (intro K hK; go_simp; refine hK _ ?_; clear hK K)
          refine q_move rfl (.tmp 30) rfl ?_
          (intro K hK; go_simp; refine hK _ ?_; clear hK K)
          refine q_skip rfl ?_
          (intro K hK; go_simp; refine hK _ ?_; clear hK K)
          refine q_skip rfl ?_
          (intro K hK; go_simp; refine hK _ ?_; clear hK K)
          refine q_skip rfl ?_
          (intro K hK; go_simp; refine hK _ ?_; clear hK K)
          refine q_skip rfl ?_
          (intro K hK; go_simp; refine hK _ ?_; clear hK K)
          refine q_skip rfl ?_
          (intro K hK; go_simp; refine hK _ ?_; clear hK K)
          refine q_val (v := .bool true) rfl (fun w' hw' => by go_simp) ?_
          (intro K hK; go_simp; refine hK _ ?_; clear hK K)
          refine q_move rfl (.tmp 37) rfl ?_
          (intro K hK; go_simp; refine hK _ ?_; clear hK K)
          refine q_skip rfl ?_
          (intro K hK; go_simp; refine hK _ ?_; clear hK K)
          refine q_skip rfl ?_
          (intro K hK; go_simp; refine hK _ ?_; clear hK K)
          refine q_skip rfl ?_
          (intro K hK; go_simp; refine hK _ ?_; clear hK K)
          refine q_skip rfl ?_
          (intro K hK; go_simp; refine hK _ ?_; clear hK K)
          refine q_skip rfl ?_
          (intro K hK; go_simp; refine hK _ ?_; clear hK K)
          refine q_skip rfl ?_
          (intro K hK; go_simp; refine hK _ ?_; clear hK K)
          refine q_skip rfl ?_
          (intro K hK; go_simp; refine hK _ ?_; clear hK K)
          refine q_skip rfl ?_
          (intro K hK; go_simp; refine hK _ ?_; clear hK K)
          refine q_skip rfl ?_
          (intro K hK; go_simp; refine hK _ ?_; clear hK K)
          refine q_val (v := .bool true) rfl (fun w' hw' => by go_simp) ?_
          (intro K hK; go_simp; refine hK _ ?_; clear hK K)
          refine q_nil ?_
          intro w7 hw7
          have h7 : Hid (Below w1.heap.size w1 w7) := hw7.below
          go_wp2_with fail
          go_meet
          case rel => exact ⟨rfl, h7.out⟩
        · have z2 : ¬ (n : Int) < 1 := by omega
          replace h2 := Lib.hid h2
          by_cases h3 : 1000 < n
          · have z3 : (1000 : Int) < (n : Int) := by omega
            have hst : stop = true := hbad.out (fun h => by have := h.2.2.1; omega)
            subst hst
            clear hbad hgood hXno
            clear h3
            refine q_plain (Class w1) (Class.mk_ (Below.refl _ _)) ?_
            refine q_val (v := .pointer (some ⟨w.heap.size, 0, none⟩)) rfl (fun w' hw' => by go_simp) ?_
            (intro K hK; go_simp; refine hK _ ?_; clear hK K)
            refine q_val (v := .string s) rfl (fun w' hw' => by have hc := hC.out w' hw'.below 0 _ i0.out; go_simp) ?_
            (intro K hK; go_simp; refine hK _ ?_; clear hK K)
            refine q_fn (v := .bool true) (args := #[.string s]) rfl _ _ rfl rfl Try.func28 (by kernel_rfl) (by kernel_rfl) (fun w' hw' => (hN.out w').mono (fun e w'' ⟨he, hw⟩ => ⟨he, hw ▸ hw'⟩)) ?_
            (intro K hK; go_simp; refine hK _ ?_; clear hK K)
            refine q_val (v := .bool false) rfl (fun w' hw' => by go_simp) ?_
            (intro K hK; go_simp; refine hK _ ?_; clear hK K)
            refine q_move rfl (.tmp 17) rfl ?_
            (intro K hK; go_simp; refine hK _ ?_; clear hK K)
            refine q_val (v := .pointer (some ⟨w.heap.size, 1, none⟩)) rfl (fun w' hw' => by go_simp) ?_
            (intro K hK; go_simp; refine hK _ ?_; clear hK K)
            refine q_val (v := .int .i64 F) rfl (fun w' hw' => by have hc := hC.out w' hw'.below 1 _ i1.out; go_simp) ?_
            (intro K hK; go_simp; refine hK _ ?_; clear hK K)
            refine q_val (v := .bool false) rfl (fun w' hw' => by go_simp) ?_
            (intro K hK; go_simp; refine hK _ ?_; clear hK K)
            refine q_val (v := .bool false) rfl (fun w' hw' => by go_simp) ?_
            (intro K hK; go_simp; refine hK _ ?_; clear hK K)
            refine q_move rfl (.tmp 22) rfl ?_
            (intro K hK; go_simp; refine hK _ ?_; clear hK K)
            refine q_move rfl (.tmp 3) rfl ?_
            (intro K hK; go_simp; refine hK _ ?_; clear hK K)
            refine q_val (v := .bool false) rfl (fun w' hw' => by go_simp) ?_
            (intro K hK; go_simp; refine hK _ ?_; clear hK K)
            refine q_val (v := .bool false) rfl (fun w' hw' => by go_simp) ?_
            (intro K hK; go_simp; refine hK _ ?_; clear hK K)
            refine q_move rfl (.tmp 26) rfl ?_
            (intro K hK; go_simp; refine hK _ ?_; clear hK K)
            refine q_move rfl (.tmp 3) rfl ?_
            (intro K hK; go_simp; refine hK _ ?_; clear hK K)
            refine q_val (v := .bool true) rfl (fun w' hw' => by go_simp) ?_
            (intro K hK; go_simp; refine hK _ ?_; clear hK K)
            refine q_val (v := .bool true) rfl (fun w' hw' => by go_simp) ?_
            (intro K hK; go_simp; refine hK _ ?_; clear hK K)
            refine q_move rfl (.tmp 30) rfl ?_
            (intro K hK; go_simp; refine hK _ ?_; clear hK K)
            refine q_skip rfl ?_
            (intro K hK; go_simp; refine hK _ ?_; clear hK K)
            refine q_skip rfl ?_
            (intro K hK; go_simp; refine hK _ ?_; clear hK K)
            refine q_skip rfl ?_
            (intro K hK; go_simp; refine hK _ ?_; clear hK K)
            refine q_skip rfl ?_
            (intro K hK; go_simp; refine hK _ ?_; clear hK K)
            refine q_skip rfl ?_
            (intro K hK; go_simp; refine hK _ ?_; clear hK K)
            refine q_val (v := .bool true) rfl (fun w' hw' => by go_simp) ?_
            (intro K hK; go_simp; refine hK _ ?_; clear hK K)
            refine q_move rfl (.tmp 37) rfl ?_
            (intro K hK; go_simp; refine hK _ ?_; clear hK K)
            refine q_skip rfl ?_
            (intro K hK; go_simp; refine hK _ ?_; clear hK K)
            refine q_skip rfl ?_
            (intro K hK; go_simp; refine hK _ ?_; clear hK K)
            refine q_skip rfl ?_
            (intro K hK; go_simp; refine hK _ ?_; clear hK K)
            refine q_skip rfl ?_
            (intro K hK; go_simp; refine hK _ ?_; clear hK K)
            refine q_skip rfl ?_
            (intro K hK; go_simp; refine hK _ ?_; clear hK K)
            refine q_skip rfl ?_
            (intro K hK; go_simp; refine hK _ ?_; clear hK K)
            refine q_skip rfl ?_
            (intro K hK; go_simp; refine hK _ ?_; clear hK K)
            refine q_skip rfl ?_
            (intro K hK; go_simp; refine hK _ ?_; clear hK K)
            refine q_skip rfl ?_
            (intro K hK; go_simp; refine hK _ ?_; clear hK K)
            refine q_val (v := .bool true) rfl (fun w' hw' => by go_simp) ?_
            (intro K hK; go_simp; refine hK _ ?_; clear hK K)
            refine q_nil ?_
            intro w7 hw7
            have h7 : Hid (Below w1.heap.size w1 w7) := hw7.below
            go_wp2_with fail
            go_meet
            case rel => exact ⟨rfl, h7.out⟩
          · have z3 : ¬ (1000 : Int) < (n : Int) := by omega
            replace h3 := Lib.hid h3
            by_cases h4 : n2 = n
            · have z4 : ((n2 : Int) != (n : Int)) = false := by simp; omega
              replace h4 := Lib.hid h4
              by_cases h5 : F = 0
              · have z5 : (F == 0) = true := by simp; omega
                replace h5 := Lib.hid h5
                clear h1 z1
                have z1 : ¬ F < 0 := by rw [h5.out]; decide
                cases zb with
                | false =>
                  have hbz : b = List.replicate 32 0 := by have h := hzb.out; simpa using h
                  have hst : stop = false := hgood.out ⟨by unfold begB; rw [hnb.out, hbz, h5.out]; rfl, by have := h2.out; omega, by have := h3.out; omega, h4.out⟩
                  subst hst
                  clear hbad hgood hXno
                  replace hbz := Lib.hid hbz
                  refine q_plain (Class w1) (Class.mk_ (Below.refl _ _)) ?_
                  refine q_val (v := .pointer (some ⟨w.heap.size, 0, none⟩)) rfl (fun w' hw' => by go_simp) ?_
                  (intro K hK; go_simp; refine hK _ ?_; clear hK K)
                  refine q_val (v := .string s) rfl (fun w' hw' => by have hc := hC.out w' hw'.below 0 _ i0.out; go_simp) ?_
                  (intro K hK; go_simp; refine hK _ ?_; clear hK K)
                  refine q_fn (v := .bool true) (args := #[.string s]) rfl _ _ rfl rfl Try.func28 (by kernel_rfl) (by kernel_rfl) (fun w' hw' => (hN.out w').mono (fun e w'' ⟨he, hw⟩ => ⟨he, hw ▸ hw'⟩)) ?_
                  (intro K hK; go_simp; refine hK _ ?_; clear hK K)
                  refine q_val (v := .bool false) rfl (fun w' hw' => by go_simp) ?_
                  (intro K hK; go_simp; refine hK _ ?_; clear hK K)
                  refine q_move rfl (.tmp 17) rfl ?_
                  (intro K hK; go_simp; refine hK _ ?_; clear hK K)
                  refine q_val (v := .pointer (some ⟨w.heap.size, 1, none⟩)) rfl (fun w' hw' => by go_simp) ?_
                  (intro K hK; go_simp; refine hK _ ?_; clear hK K)
                  refine q_val (v := .int .i64 F) rfl (fun w' hw' => by have hc := hC.out w' hw'.below 1 _ i1.out; go_simp) ?_
                  (intro K hK; go_simp; refine hK _ ?_; clear hK K)
                  refine q_val (v := .bool false) rfl (fun w' hw' => by go_simp) ?_
                  (intro K hK; go_simp; refine hK _ ?_; clear hK K)
                  refine q_val (v := .bool false) rfl (fun w' hw' => by go_simp) ?_
                  (intro K hK; go_simp; refine hK _ ?_; clear hK K)
                  refine q_move rfl (.tmp 22) rfl ?_
                  (intro K hK; go_simp; refine hK _ ?_; clear hK K)
                  refine q_move rfl (.tmp 3) rfl ?_
                  (intro K hK; go_simp; refine hK _ ?_; clear hK K)
                  refine q_val (v := .bool false) rfl (fun w' hw' => by go_simp) ?_
                  (intro K hK; go_simp; refine hK _ ?_; clear hK K)
                  refine q_val (v := .bool false) rfl (fun w' hw' => by go_simp) ?_
                  (intro K hK; go_simp; refine hK _ ?_; clear hK K)
                  refine q_move rfl (.tmp 26) rfl ?_
                  (intro K hK; go_simp; refine hK _ ?_; clear hK K)
                  refine q_move rfl (.tmp 3) rfl ?_
                  (intro K hK; go_simp; refine hK _ ?_; clear hK K)
                  refine q_val (v := .bool false) rfl (fun w' hw' => by go_simp) ?_
                  (intro K hK; go_simp; refine hK _ ?_; clear hK K)
                  refine q_val (v := .bool false) rfl (fun w' hw' => by go_simp) ?_
                  (intro K hK; go_simp; refine hK _ ?_; clear hK K)
                  refine q_move rfl (.tmp 30) rfl ?_
                  (intro K hK; go_simp; refine hK _ ?_; clear hK K)
                  refine q_val (v := .pointer (some ⟨w.heap.size, 35, none⟩)) rfl (fun w' hw' => by go_simp) ?_
                  (intro K hK; go_simp; refine hK _ ?_; clear hK K)
                  refine q_val (v := .slice A2 n2 c2) rfl (fun w' hw' => by have hc := hC.out w' hw'.below 35 _ i35.out; go_simp) ?_
                  (intro K hK; go_simp; refine hK _ ?_; clear hK K)
                  refine q_val (v := .int .i64 (n2 : Int)) rfl (fun w' hw' => by go_simp) ?_
                  (intro K hK; go_simp; refine hK _ ?_; clear hK K)
                  refine q_move rfl (.tmp 3) rfl ?_
                  (intro K hK; go_simp; refine hK _ ?_; clear hK K)
                  refine q_val (v := .bool false) rfl (fun w' hw' => by go_simp) ?_
                  (intro K hK; go_simp; refine hK _ ?_; clear hK K)
                  refine q_val (v := .bool false) rfl (fun w' hw' => by go_simp) ?_
                  (intro K hK; go_simp; refine hK _ ?_; clear hK K)
                  refine q_move rfl (.tmp 37) rfl ?_
                  (intro K hK; go_simp; refine hK _ ?_; clear hK K)
                  refine q_val (v := .pointer (some ⟨w.heap.size, 1, none⟩)) rfl (fun w' hw' => by go_simp) ?_
                  (intro K hK; go_simp; refine hK _ ?_; clear hK K)
                  refine q_val (v := .int .i64 F) rfl (fun w' hw' => by have hc := hC.out w' hw'.below 1 _ i1.out; go_simp) ?_
                  (intro K hK; go_simp; refine hK _ ?_; clear hK K)
                  refine q_val (v := .bool true) rfl (fun w' hw' => by go_simp) ?_
                  (intro K hK; go_simp; refine hK _ ?_; clear hK K)
                  refine q_move rfl (.tmp 41) rfl ?_
                  (intro K hK; go_simp; refine hK _ ?_; clear hK K)
                  refine q_val (v := .pointer (some ⟨w.heap.size, 2, none⟩)) rfl (fun w' hw' => by go_simp) ?_
                  (intro K hK; go_simp; refine hK _ ?_; clear hK K)
                  refine q_part rfl 23 (.tmp 43) rfl w.heap.size (2) rfl (cells8 b) _ (fun w' hw' => fun j v hv => hC.out w' hw'.below (2 + j) v (ib.out j v hv)) Try.underlying23 rfl sD.out ?_
                  (intro K hK; go_simp; refine hK _ ?_; clear hK K)
                  refine q_row rfl 23 (.tmp 4) rfl (w.heap.size + 1) rfl 23 (Z32) (0, 0) _ (fun w' hw' => (hw'.below.block _ hZ1.out.lt).trans hZ1.out) Try.underlying23 rfl digZ ?_
                  (intro K hK; go_simp; refine hK _ ?_; clear hK K)
                  refine q_val (v := .bool false) rfl (fun w' hw' => run_cmp rfl rfl rfl qD (hqn.out w')) ?_
                  (intro K hK; go_simp; refine hK _ ?_; clear hK K)
                  refine q_val (v := .bool false) rfl (fun w' hw' => by go_simp) ?_
                  (intro K hK; go_simp; refine hK _ ?_; clear hK K)
                  refine q_val (v := .bool false) rfl (fun w' hw' => by go_simp) ?_
                  (intro K hK; go_simp; refine hK _ ?_; clear hK K)
                  refine q_nil ?_
                  intro w7 hw7
                  have h7 : Hid (Below w1.heap.size w1 w7) := hw7.below
                  go_wp2_with fail
                  go_meet
                  case rel => exact ⟨rfl, h7.out⟩
                | true =>
                  have hbz : ¬ b = List.replicate 32 0 := by have h := hzb.out; simpa using h
                  have hst : stop = true := hbad.out (fun h => by have h := h.1; unfold begB at h; rw [h5.out, decide_eq_false hbz] at h; simp at h)
                  subst hst
                  clear hbad hgood hXno
                  replace hbz := Lib.hid hbz
                  refine q_plain (Class w1) (Class.mk_ (Below.refl _ _)) ?_
                  refine q_val (v := .pointer (some ⟨w.heap.size, 0, none⟩)) rfl (fun w' hw' => by go_simp) ?_
                  (intro K hK; go_simp; refine hK _ ?_; clear hK K)
                  refine q_val (v := .string s) rfl (fun w' hw' => by have hc := hC.out w' hw'.below 0 _ i0.out; go_simp) ?_
                  (intro K hK; go_simp; refine hK _ ?_; clear hK K)
                  refine q_fn (v := .bool true) (args := #[.string s]) rfl _ _ rfl rfl Try.func28 (by kernel_rfl) (by kernel_rfl) (fun w' hw' => (hN.out w').mono (fun e w'' ⟨he, hw⟩ => ⟨he, hw ▸ hw'⟩)) ?_
                  (intro K hK; go_simp; refine hK _ ?_; clear hK K)
                  refine q_val (v := .bool false) rfl (fun w' hw' => by go_simp) ?_
                  (intro K hK; go_simp; refine hK _ ?_; clear hK K)
                  refine q_move rfl (.tmp 17) rfl ?_
                  (intro K hK; go_simp; refine hK _ ?_; clear hK K)
                  refine q_val (v := .pointer (some ⟨w.heap.size, 1, none⟩)) rfl (fun w' hw' => by go_simp) ?_
                  (intro K hK; go_simp; refine hK _ ?_; clear hK K)
                  refine q_val (v := .int .i64 F) rfl (fun w' hw' => by have hc := hC.out w' hw'.below 1 _ i1.out; go_simp) ?_
                  (intro K hK; go_simp; refine hK _ ?_; clear hK K)
                  refine q_val (v := .bool false) rfl (fun w' hw' => by go_simp) ?_
                  (intro K hK; go_simp; refine hK _ ?_; clear hK K)
                  refine q_val (v := .bool false) rfl (fun w' hw' => by go_simp) ?_
                  (intro K hK; go_simp; refine hK _ ?_; clear hK K)
                  refine q_move rfl (.tmp 22) rfl ?_
                  (intro K hK; go_simp; refine hK _ ?_; clear hK K)
                  refine q_move rfl (.tmp 3) rfl ?_
                  (intro K hK; go_simp; refine hK _ ?_; clear hK K)
                  refine q_val (v := .bool false) rfl (fun w' hw' => by go_simp) ?_
                  (intro K hK; go_simp; refine hK _ ?_; clear hK K)
                  refine q_val (v := .bool false) rfl (fun w' hw' => by go_simp) ?_
                  (intro K hK; go_simp; refine hK _ ?_; clear hK K)
                  refine q_move rfl (.tmp 26) rfl ?_
                  (intro K hK; go_simp; refine hK _ ?_; clear hK K)
                  refine q_move rfl (.tmp 3) rfl ?_
                  (intro K hK; go_simp; refine hK _ ?_; clear hK K)
                  refine q_val (v := .bool false) rfl (fun w' hw' => by go_simp) ?_
                  (intro K hK; go_simp; refine hK _ ?_; clear hK K)
                  refine q_val (v := .bool false) rfl (fun w' hw' => by go_simp) ?_
                  (intro K hK; go_simp; refine hK _ ?_; clear hK K)
                  refine q_move rfl (.tmp 30) rfl ?_
                  (intro K hK; go_simp; refine hK _ ?_; clear hK K)
                  refine q_val (v := .pointer (some ⟨w.heap.size, 35, none⟩)) rfl (fun w' hw' => by go_simp) ?_
                  (intro K hK; go_simp; refine hK _ ?_; clear hK K)
                  refine q_val (v := .slice A2 n2 c2) rfl (fun w' hw' => by have hc := hC.out w' hw'.below 35 _ i35.out; go_simp) ?_
                  (intro K hK; go_simp; refine hK _ ?_; clear hK K)
                  refine q_val (v := .int .i64 (n2 : Int)) rfl (fun w' hw' => by go_simp) ?_
                  (intro K hK; go_simp; refine hK _ ?_; clear hK K)
                  refine q_move rfl (.tmp 3) rfl ?_
                  (intro K hK; go_simp; refine hK _ ?_; clear hK K)
                  refine q_val (v := .bool false) rfl (fun w' hw' => by go_simp) ?_
                  (intro K hK; go_simp; refine hK _ ?_; clear hK K)
                  refine q_val (v := .bool false) rfl (fun w' hw' => by go_simp) ?_
                  (intro K hK; go_simp; refine hK _ ?_; clear hK K)
                  refine q_move rfl (.tmp 37) rfl ?_
                  (intro K hK; go_simp; refine hK _ ?_; clear hK K)
                  refine q_val (v := .pointer (some ⟨w.heap.size, 1, none⟩)) rfl (fun w' hw' => by go_simp) ?_
                  (intro K hK; go_simp; refine hK _ ?_; clear hK K)
                  refine q_val (v := .int .i64 F) rfl (fun w' hw' => by have hc := hC.out w' hw'.below 1 _ i1.out; go_simp) ?_
                  (intro K hK; go_simp; refine hK _ ?_; clear hK K)
                  refine q_val (v := .bool true) rfl (fun w' hw' => by go_simp) ?_
                  (intro K hK; go_simp; refine hK _ ?_; clear hK K)
                  refine q_move rfl (.tmp 41) rfl ?_
                  (intro K hK; go_simp; refine hK _ ?_; clear hK K)
                  refine q_val (v := .pointer (some ⟨w.heap.size, 2, none⟩)) rfl (fun w' hw' => by go_simp) ?_
                  (intro K hK; go_simp; refine hK _ ?_; clear hK K)
                  refine q_part rfl 23 (.tmp 43) rfl w.heap.size (2) rfl (cells8 b) _ (fun w' hw' => fun j v hv => hC.out w' hw'.below (2 + j) v (ib.out j v hv)) Try.underlying23 rfl sD.out ?_
                  (intro K hK; go_simp; refine hK _ ?_; clear hK K)
                  refine q_row rfl 23 (.tmp 4) rfl (w.heap.size + 1) rfl 23 (Z32) (0, 0) _ (fun w' hw' => (hw'.below.block _ hZ1.out.lt).trans hZ1.out) Try.underlying23 rfl digZ ?_
                  (intro K hK; go_simp; refine hK _ ?_; clear hK K)
                  refine q_val (v := .bool true) rfl (fun w' hw' => run_cmp rfl rfl rfl qD (hqn.out w')) ?_
                  (intro K hK; go_simp; refine hK _ ?_; clear hK K)
                  refine q_val (v := .bool true) rfl (fun w' hw' => by go_simp) ?_
                  (intro K hK; go_simp; refine hK _ ?_; clear hK K)
                  refine q_val (v := .bool true) rfl (fun w' hw' => by go_simp) ?_
                  (intro K hK; go_simp; refine hK _ ?_; clear hK K)
                  refine q_nil ?_
                  intro w7 hw7
                  have h7 : Hid (Below w1.heap.size w1 w7) := hw7.below
                  go_wp2_with fail
                  go_meet
                  case rel => exact ⟨rfl, h7.out⟩
              · have z5 : (F == 0) = false := by simp; omega
                have hst : stop = false := hgood.out ⟨by unfold begB; rw [hnb.out, decide_eq_true (show 0 ≤ F by omega), decide_eq_true (show 0 < F by omega)]; rfl, by have := h2.out; omega, by have := h3.out; omega, h4.out⟩
                subst hst
                clear hbad hgood hXno
                replace h5 := Lib.hid h5
                refine q_plain (Class w1) (Class.mk_ (Below.refl _ _)) ?_
                refine q_val (v := .pointer (some ⟨w.heap.size, 0, none⟩)) rfl (fun w' hw' => by go_simp) ?_
                (intro K hK; go_simp; refine hK _ ?_; clear hK K)
                refine q_val (v := .string s) rfl (fun w' hw' => by have hc := hC.out w' hw'.below 0 _ i0.out; go_simp) ?_
                (intro K hK; go_simp; refine hK _ ?_; clear hK K)
                refine q_fn (v := .bool true) (args := #[.string s]) rfl _ _ rfl rfl Try.func28 (by kernel_rfl) (by kernel_rfl) (fun w' hw' => (hN.out w').mono (fun e w'' ⟨he, hw⟩ => ⟨he, hw ▸ hw'⟩)) ?_
                (intro K hK; go_simp; refine hK _ ?_; clear hK K)
                refine q_val (v := .bool false) rfl (fun w' hw' => by go_simp) ?_
                (intro K hK; go_simp; refine hK _ ?_; clear hK K)
                refine q_move rfl (.tmp 17) rfl ?_
                (intro K hK; go_simp; refine hK _ ?_; clear hK K)
                refine q_val (v := .pointer (some ⟨w.heap.size, 1, none⟩)) rfl (fun w' hw' => by go_simp) ?_
                (intro K hK; go_simp; refine hK _ ?_; clear hK K)
                refine q_val (v := .int .i64 F) rfl (fun w' hw' => by have hc := hC.out w' hw'.below 1 _ i1.out; go_simp) ?_
                (intro K hK; go_simp; refine hK _ ?_; clear hK K)
                refine q_val (v := .bool false) rfl (fun w' hw' => by go_simp) ?_
                (intro K hK; go_simp; refine hK _ ?_; clear hK K)
                refine q_val (v := .bool false) rfl (fun w' hw' => by go_simp) ?_
                (intro K hK; go_simp; refine hK _ ?_; clear hK K)
                refine q_move rfl (.tmp 22) rfl ?_
                (intro K hK; go_simp; refine hK _ ?_; clear hK K)
                refine q_move rfl (.tmp 3) rfl ?_
                (intro K hK; go_simp; refine hK _ ?_; clear hK K)
                refine q_val (v := .bool false) rfl (fun w' hw' => by go_simp) ?_
                (intro K hK; go_simp; refine hK _ ?_; clear hK K)
                refine q_val (v := .bool false) rfl (fun w' hw' => by go_simp) ?_
                (intro K hK; go_simp; refine hK _ ?_; clear hK K)
                refine q_move rfl (.tmp 26) rfl ?_
                (intro K hK; go_simp; refine hK _ ?_; clear hK K)
                refine q_move rfl (.tmp 3) rfl ?_
                (intro K hK; go_simp; refine hK _ ?_; clear hK K)
                refine q_val (v := .bool false) rfl (fun w' hw' => by go_simp) ?_
                (intro K hK; go_simp; refine hK _ ?_; clear hK K)
                refine q_val (v := .bool false) rfl (fun w' hw' => by go_simp) ?_
                (intro K hK; go_simp; refine hK _ ?_; clear hK K)
                refine q_move rfl (.tmp 30) rfl ?_
                (intro K hK; go_simp; refine hK _ ?_; clear hK K)
                refine q_val (v := .pointer (some ⟨w.heap.size, 35, none⟩)) rfl (fun w' hw' => by go_simp) ?_
                (intro K hK; go_simp; refine hK _ ?_; clear hK K)
                refine q_val (v := .slice A2 n2 c2) rfl (fun w' hw' => by have hc := hC.out w' hw'.below 35 _ i35.out; go_simp) ?_
                (intro K hK; go_simp; refine hK _ ?_; clear hK K)
                refine q_val (v := .int .i64 (n2 : Int)) rfl (fun w' hw' => by go_simp) ?_
                (intro K hK; go_simp; refine hK _ ?_; clear hK K)
                refine q_move rfl (.tmp 3) rfl ?_
                (intro K hK; go_simp; refine hK _ ?_; clear hK K)
                refine q_val (v := .bool false) rfl (fun w' hw' => by go_simp) ?_
                (intro K hK; go_simp; refine hK _ ?_; clear hK K)
                refine q_val (v := .bool false) rfl (fun w' hw' => by go_simp) ?_
                (intro K hK; go_simp; refine hK _ ?_; clear hK K)
                refine q_move rfl (.tmp 37) rfl ?_
                (intro K hK; go_simp; refine hK _ ?_; clear hK K)
                refine q_val (v := .pointer (some ⟨w.heap.size, 1, none⟩)) rfl (fun w' hw' => by go_simp) ?_
                (intro K hK; go_simp; refine hK _ ?_; clear hK K)
                refine q_val (v := .int .i64 F) rfl (fun w' hw' => by have hc := hC.out w' hw'.below 1 _ i1.out; go_simp) ?_
                (intro K hK; go_simp; refine hK _ ?_; clear hK K)
                refine q_val (v := .bool false) rfl (fun w' hw' => by go_simp) ?_
                (intro K hK; go_simp; refine hK _ ?_; clear hK K)
                refine q_move rfl (.tmp 41) rfl ?_
                (intro K hK; go_simp; refine hK _ ?_; clear hK K)
                refine q_skip rfl ?_
                (intro K hK; go_simp; refine hK _ ?_; clear hK K)
                refine q_skip rfl ?_
                (intro K hK; go_simp; refine hK _ ?_; clear hK K)
                refine q_skip rfl ?_
                (intro K hK; go_simp; refine hK _ ?_; clear hK K)
                refine q_skip rfl ?_
                (intro K hK; go_simp; refine hK _ ?_; clear hK K)
                refine q_val (v := .bool false) rfl (fun w' hw' => by go_simp) ?_
                (intro K hK; go_simp; refine hK _ ?_; clear hK K)
                refine q_val (v := .bool false) rfl (fun w' hw' => by go_simp) ?_
                (intro K hK; go_simp; refine hK _ ?_; clear hK K)
                refine q_nil ?_
                intro w7 hw7
                have h7 : Hid (Below w1.heap.size w1 w7) := hw7.below
                go_wp2_with fail
                go_meet
                case rel => exact ⟨rfl, h7.out⟩
            · have z4 : ((n2 : Int) != (n : Int)) = true := by simp; omega
              have hst : stop = true := hbad.out (fun h => h4 h.2.2.2)
              subst hst
              clear hbad hgood hXno
              replace h4 := Lib.hid h4
              refine q_plain (Class w1) (Class.mk_ (Below.refl _ _)) ?_
              refine q_val (v := .pointer (some ⟨w.heap.size, 0, none⟩)) rfl (fun w' hw' => by go_simp) ?_
              (intro K hK; go_simp; refine hK _ ?_; clear hK K)
              refine q_val (v := .string s) rfl (fun w' hw' => by have hc := hC.out w' hw'.below 0 _ i0.out; go_simp) ?_
              (intro K hK; go_simp; refine hK _ ?_; clear hK K)
              refine q_fn (v := .bool true) (args := #[.string s]) rfl _ _ rfl rfl Try.func28 (by kernel_rfl) (by kernel_rfl) (fun w' hw' => (hN.out w').mono (fun e w'' ⟨he, hw⟩ => ⟨he, hw ▸ hw'⟩)) ?_
              (intro K hK; go_simp; refine hK _ ?_; clear hK K)
              refine q_val (v := .bool false) rfl (fun w' hw' => by go_simp) ?_
              (intro K hK; go_simp; refine hK _ ?_; clear hK K)
              refine q_move rfl (.tmp 17) rfl ?_
              (intro K hK; go_simp; refine hK _ ?_; clear hK K)
              refine q_val (v := .pointer (some ⟨w.heap.size, 1, none⟩)) rfl (fun w' hw' => by go_simp) ?_
              (intro K hK; go_simp; refine hK _ ?_; clear hK K)
              refine q_val (v := .int .i64 F) rfl (fun w' hw' => by have hc := hC.out w' hw'.below 1 _ i1.out; go_simp) ?_
              (intro K hK; go_simp; refine hK _ ?_; clear hK K)
              refine q_val (v := .bool false) rfl (fun w' hw' => by go_simp) ?_
              (intro K hK; go_simp; refine hK _ ?_; clear hK K)
              refine q_val (v := .bool false) rfl (fun w' hw' => by go_simp) ?_
              (intro K hK; go_simp; refine hK _ ?_; clear hK K)
              refine q_move rfl (.tmp 22) rfl ?_
              (intro K hK; go_simp; refine hK _ ?_; clear hK K)
              refine q_move rfl (.tmp 3) rfl ?_
              (intro K hK; go_simp; refine hK _ ?_; clear hK K)
              refine q_val (v := .bool false) rfl (fun w' hw' => by go_simp) ?_
              (intro K hK; go_simp; refine hK _ ?_; clear hK K)
              refine q_val (v := .bool false) rfl (fun w' hw' => by go_simp) ?_
              (intro K hK; go_simp; refine hK _ ?_; clear hK K)
              refine q_move rfl (.tmp 26) rfl ?_
              (intro K hK; go_simp; refine hK _ ?_; clear hK K)
              refine q_move rfl (.tmp 3) rfl ?_
              (intro K hK; go_simp; refine hK _ ?_; clear hK K)
              refine q_val (v := .bool false) rfl (fun w' hw' => by go_simp) ?_
              (intro K hK; go_simp; refine hK _ ?_; clear hK K)
              refine q_val (v := .bool false) rfl (fun w' hw' => by go_simp) ?_
              (intro K hK; go_simp; refine hK _ ?_; clear hK K)
              refine q_move rfl (.tmp 30) rfl ?_
              (intro K hK; go_simp; refine hK _ ?_; clear hK K)
              refine q_val (v := .pointer (some ⟨w.heap.size, 35, none⟩)) rfl (fun w' hw' => by go_simp) ?_
              (intro K hK; go_simp; refine hK _ ?_; clear hK K)
              refine q_val (v := .slice A2 n2 c2) rfl (fun w' hw' => by have hc := hC.out w' hw'.below 35 _ i35.out; go_simp) ?_
              (intro K hK; go_simp; refine hK _ ?_; clear hK K)
              refine q_val (v := .int .i64 (n2 : Int)) rfl (fun w' hw' => by go_simp) ?_
              (intro K hK; go_simp; refine hK _ ?_; clear hK K)
              refine q_move rfl (.tmp 3) rfl ?_
              (intro K hK; go_simp; refine hK _ ?_; clear hK K)
              refine q_val (v := .bool true) rfl (fun w' hw' => by go_simp) ?_
              (intro K hK; go_simp; refine hK _ ?_; clear hK K)
              refine q_val (v := .bool true) rfl (fun w' hw' => by go_simp) ?_
              (intro K hK; go_simp; refine hK _ ?_; clear hK K)
              refine q_move rfl (.tmp 37) rfl ?_
              (intro K hK; go_simp; refine hK _ ?_; clear hK K)
              refine q_skip rfl ?_
              (intro K hK; go_simp; refine hK _ ?_; clear hK K)
              refine q_skip rfl ?_
              (intro K hK; go_simp; refine hK _ ?_; clear hK K)
              refine q_skip rfl ?_
              (intro K hK; go_simp; refine hK _ ?_; clear hK K)
              refine q_skip rfl ?_
              (intro K hK; go_simp; refine hK _ ?_; clear hK K)
              refine q_skip rfl ?_
              (intro K hK; go_simp; refine hK _ ?_; clear hK K)
              refine q_skip rfl ?_
              (intro K hK; go_simp; refine hK _ ?_; clear hK K)
              refine q_skip rfl ?_
              (intro K hK; go_simp; refine hK _ ?_; clear hK K)
              refine q_skip rfl ?_
              (intro K hK; go_simp; refine hK _ ?_; clear hK K)
              refine q_skip rfl ?_
              (intro K hK; go_simp; refine hK _ ?_; clear hK K)
              refine q_val (v := .bool true) rfl (fun w' hw' => by go_simp) ?_
              (intro K hK; go_simp; refine hK _ ?_; clear hK K)
              refine q_nil ?_
              intro w7 hw7
              have h7 : Hid (Below w1.heap.size w1 w7) := hw7.below
              go_wp2_with fail
              go_meet
              case rel => exact ⟨rfl, h7.out⟩
  case rest =>
    obtain ⟨rfl, hbc⟩ := hcut
    have hb2 : Hid (Below w.heap.size w wc) := hb1.out.trans (hbc.out.mono hb1.out.size)
    cases stop with
    | true =>
      have hXn := Lib.hid (hXno.out (fun h => by have := hgood.out h; cases this))
      go_wp2_with fail
      go_ret
      exact RPost.none_ rfl hXn.out hb2.out
    | false =>
      have hh : headOk s F b n n2 := by
        by_cases h : headOk s F b n n2
        · exact h
        · have := hbad.out h; cases this
      obtain ⟨hbg, hn1, hn1000, hn2⟩ := hh
      subst hn2
      clear hbad hgood hstop hXno hzb hnb hqn hN
      have hbg2 := hbg
      unfold begB namedB at hbg2
      simp only [Bool.and_eq_true, decide_eq_true_eq] at hbg2
      have h64 : s.size ≤ 64 := by have := hbg2.1.1; simpa using this
      have hF0 : Hid (0 ≤ F) := hbg2.2.1
      obtain ⟨x0, hx0⟩ : ∃ x, Hid (ps[0]? = some x) := ⟨ps[0]'(by rw [hm.out]; omega), List.getElem?_eq_getElem _⟩
      have hfs : Hid (firstSize ps = x0.x) := by
        show _ = _
        have h := hx0.out
        cases ps with
        | nil => cases h
        | cons a l => obtain rfl := Option.some.inj h; rfl
      obtain ⟨Z, hZ⟩ : ∃ Z, Hid (x0.x = Z) := ⟨_, Lib.hid rfl⟩
      rw [hZ.out] at hfs
      obtain ⟨bP, oP, rfl, hbP, hc0⟩ := hq.out.at_ hx0.out
      have hP0 : Hid (∀ w', Below w.heap.size w w' → w'.cell? ⟨bP, oP, none⟩ = some (.int .i64 Z)) := fun w' hb => (hb.cell (p := ⟨bP, oP, none⟩) hbP).trans (by have := hc0 0 _ rfl; rw [← hZ.out]; simpa using this)
      obtain ⟨w2, rfl⟩ : ∃ w2, w2 = wc := ⟨_, rfl⟩
      have hlt2 : Hid (w.heap.size < w2.heap.size) := Nat.lt_of_lt_of_le hB1.out.lt hbc.out.size
      have hcell : Hid (∀ w', Below w2.heap.size w2 w' → ∀ j v, cs[j]? = some v → w'.cell? ⟨w.heap.size, j, none⟩ = some v) := fun w' hb => hC.out w' (hbc.out.trans (hb.mono hbc.out.size))
      have hbR : Hid (∀ w', Below w2.heap.size w2 w' → Reads w' 1 (some ⟨w.heap.size, 2, none⟩) 32 (cells8 b)) := fun w' hb' => ⟨by rw [cells8_len, hb.out], fun _ => ⟨_, _, rfl, Nat.lt_of_lt_of_le hlt2.out hb'.size, fun j u hu => hcell.out w' hb' _ _ (ib.out j u hu)⟩⟩
      have hwB : Hid (∀ w', Below w2.heap.size w2 w' → Below w.heap.size w w') := fun w' hb' => hb2.out.trans (hb'.mono hb2.out.size)
      have y1 : IntKind.u8.wrap (s.size : Int) = (s.size : Int) := by simp [IntKind.wrap, IntKind.signed, IntKind.bits]; omega
      have z9 : (0 : Int) < (n2 : Int) := by omega
      have z8 : ¬ n2 = 0 := by omega
      have g35 : w2.cell? ⟨w.heap.size, 35, none⟩ = some (.slice (some ⟨bP, oP, none⟩) n2 c2) := hcell.out w2 (Below.refl _ _) 35 _ i35.out
      have g00 : w2.cell? ⟨bP, oP, none⟩ = some (.int .i64 Z) := hP0.out w2 hb2.out
      have e0 : w2.cell? ⟨w.heap.size, 0, none⟩ = some (.string s) := hcell.out w2 (Below.refl _ _) 0 _ i0.out
      have hV3 : Hid (Below w2.heap.size w2 (w2.alloc (.cells #[.int .u8 51, .int .u8 (s.size : Int)] 5))) := Below.heap_below w2 _
      have e0' : (w2.alloc (.cells #[.int .u8 51, .int .u8 (s.size : Int)] 5)).cell? ⟨w.heap.size, 0, none⟩ = some (.string s) := hcell.out _ hV3.out 0 _ i0.out
      have hO3 : Hid ((w2.alloc (.cells #[.int .u8 51, .int .u8 (s.size : Int)] 5)).ownsRow w2.heap.size 5 1 (.slice (some ⟨w2.heap.size, 0, none⟩) 2 2) 2 (cells8 [51, kb s.size])) := by
        have := own_new w2 w2.heap.size (Nat.le_refl _) 5 #[.int .u8 51, .int .u8 (s.size : Int)] 2 rfl (by unfold maxLen; omega)
        have e : cells8 [51, kb s.size] = [.int .u8 51, .int .u8 (s.size : Int)] := by show [cell8 51, cell8 (kb s.size)] = _; rw [cell_kb h64]; rfl
        show World.ownsRow _ _ _ _ _ _ _
        rw [e]
        exact this
      have h64h := Lib.hid h64
      have hn1000 := Lib.hid hn1000
      clear hc0 hbc hB1 hZ1 hC hb1 hbg2 hx0
      obtain ⟨T5, hT5⟩ : ∃ T, Hid ([51, kb s.size] ++ nm s = T) := ⟨_, Lib.hid rfl⟩
      obtain ⟨T7, hT7⟩ : ∃ T, Hid (T5 ++ be8i F = T) := ⟨_, Lib.hid rfl⟩
      obtain ⟨T8, hT8⟩ : ∃ T, Hid (T7 ++ b = T) := ⟨_, Lib.hid rfl⟩
      obtain ⟨T10, hT10⟩ : ∃ T, Hid (T8 ++ be8i Z = T) := ⟨_, Lib.hid rfl⟩
      obtain ⟨T12, hT12⟩ : ∃ T, Hid (T10 ++ be4 n2 = T) := ⟨_, Lib.hid rfl⟩
      go_wp2_with (first
        | ((with_reducible change wpList _ _ _ ({ dst := some 61, op := _, type := _, pos := _, after := _, guard := _ } :: _) _ _); refine Lib.wpList_append_own_string _ (o := ⟨some 61, _, _, _, _, _⟩) rfl (.tmp 58) (.tmp 60) 29 9 rfl w2.heap.size 5 ii0 Try.underlying29 Try.underlying9 hi0 iz0 iz1 iz2 (.slice (some ⟨w2.heap.size, 0, none⟩) 2 2) 2 (cells8 [51, kb s.size]) rfl hO3.out s rfl (by unfold maxLen; omega) (by omega) hV3.out.size ?_; intro v5 w5 ho5 hg5 _; obtain ⟨A5, c5, rfl, hO5, hb5⟩ := grew_string ho5 hg5 hV3.out hV3.out.size hO3.out; rw [hT5.out] at hO5; have e1 : w5.cell? ⟨w.heap.size, 1, none⟩ = some (.int .i64 F) := hcell.out _ hb5.out 1 _ i1.out; clear ho5 hg5 e0 e0' hO3 hV3)
        | (go_at_call 30; have tok := hO5; refine (eight_all (F) _).mono ?_; rintro e w6 ⟨rfl, hl, ho⟩; have hb6 : Hid (Below w2.heap.size w2 w6) := hb5.out.trans (hl.mono hb5.out.size); have hO6 := Lib.hid (own_below hO5.out hl); obtain ⟨Al, cl, el, -, -, hrl6, -⟩ := own_reads ho; injection el with el1 el2 el3; subst el1 el3; replace hrl6 := Lib.hid hrl6; clear tok hl ho hO5)
        | ((with_reducible change wpList _ _ _ ({ dst := some 66, op := _, type := _, pos := _, after := _, guard := _ } :: _) _ _); refine wpList_append_src _ (o := ⟨some 66, _, _, _, _, _⟩) rfl (.tmp 62) (.tmp 65) 29 rfl (w2.heap.size) 5 ii0 (.int .u8 0) 1 1 Try.underlying29 hi0 iz0 iz1 iz2 rfl (by decide) (.slice A5 (2 + s.size) c5) (2 + s.size) (cells8 T5) rfl hO6.out (some ⟨w5.heap.size, 0, none⟩) 8 8 (cells8 (be8i F)) rfl hrl6.out (fun e => by cases e) (cells8_one _) (by unfold maxLen; omega) (by omega) hb6.out.size ?_; intro v7 w7 hG; obtain ⟨A7, c7, rfl, hO7, hb7⟩ := grew_text hG hb6.out hb6.out.size hO6.out T7 (hT7.out.symm) (10 + s.size) (by omega); clear hG hO6 hrl6 e1)
        | ((with_reducible change wpList _ _ _ ({ dst := some 70, op := _, type := _, pos := _, after := _, guard := _ } :: _) _ _); refine wpList_append_src _ (o := ⟨some 70, _, _, _, _, _⟩) rfl (.tmp 67) (.tmp 69) 29 rfl (w2.heap.size) 5 ii0 (.int .u8 0) 1 1 Try.underlying29 hi0 iz0 iz1 iz2 rfl (by decide) (.slice A7 (10 + s.size) c7) (10 + s.size) (cells8 T7) rfl hO7.out (some ⟨w.heap.size, 2, none⟩) 32 32 (cells8 b) rfl (hbR.out _ hb7.out) (fun e => by cases e) (cells8_one _) (by unfold maxLen; omega) (by omega) hb7.out.size ?_; intro v8 w8 hG; obtain ⟨A8, c8, rfl, hO8, hb8⟩ := grew_text hG hb7.out hb7.out.size hO7.out T8 (hT8.out.symm) (42 + s.size) (by omega); clear hG hO7)
        | (go_at_call 30; have tok := hO8; refine (eight_all (Z) _).mono ?_; rintro e w9 ⟨rfl, hl, ho⟩; have hb9 : Hid (Below w2.heap.size w2 w9) := hb8.out.trans (hl.mono hb8.out.size); have hO9 := Lib.hid (own_below hO8.out hl); obtain ⟨Al, cl, el, -, -, hrl9, -⟩ := own_reads ho; injection el with el1 el2 el3; subst el1 el3; replace hrl9 := Lib.hid hrl9; clear tok hl ho hO8)
        | ((with_reducible change wpList _ _ _ ({ dst := some 74, op := _, type := _, pos := _, after := _, guard := _ } :: _) _ _); refine wpList_append_src _ (o := ⟨some 74, _, _, _, _, _⟩) rfl (.tmp 71) (.tmp 73) 29 rfl (w2.heap.size) 5 ii0 (.int .u8 0) 1 1 Try.underlying29 hi0 iz0 iz1 iz2 rfl (by decide) (.slice A8 (42 + s.size) c8) (42 + s.size) (cells8 T8) rfl hO9.out (some ⟨w8.heap.size, 0, none⟩) 8 8 (cells8 (be8i Z)) rfl hrl9.out (fun e => by cases e) (cells8_one _) (by unfold maxLen; omega) (by omega) hb9.out.size ?_; intro v10 w10 hG; obtain ⟨A10, c10, rfl, hO10, hb10⟩ := grew_text hG hb9.out hb9.out.size hO9.out T10 (hT10.out.symm) (50 + s.size) (by omega); clear hG hO9 hrl9)
        | ((with_reducible change wpList _ _ _ ({ dst := some 88, op := _, type := _, pos := _, after := _, guard := _ } :: _) _ _); refine wpList_append_src _ (o := ⟨some 88, _, _, _, _, _⟩) rfl (.tmp 75) (.tmp 87) 29 rfl (w2.heap.size) 5 ii0 (.int .u8 0) 1 1 Try.underlying29 hi0 iz0 iz1 iz2 rfl (by decide) (.slice A10 (50 + s.size) c10) (50 + s.size) (cells8 T10) rfl (own_below hO10.out (Below.heap_below w10 _)) (some ⟨w10.heap.size, 0, none⟩) 4 4 (cells8 (be4 n2)) rfl (be4_new w10 n2 _ _ _ _ (by omega) (by omega) (by omega) (by omega)) (fun e => by cases e) (cells8_one _) (by unfold maxLen; omega) (by omega) (hb10.out.alloc hb10.out.size _).size ?_; intro v12 w12 hG; obtain ⟨A12, c12, rfl, hO12, hb12⟩ := grew_text hG (hb10.out.alloc hb10.out.size _) (hb10.out.alloc hb10.out.size _).size (own_below hO10.out (Below.heap_below w10 _)) T12 (hT12.out.symm) (54 + s.size) (by omega); clear hG hO10))
      have hT12l : Hid (T12.length = 54 + s.size) := by show _ = _; rw [← hT12.out, ← hT10.out, ← hT8.out, ← hT7.out, ← hT5.out]; simp [be8i_len, be4_len, nm_len, hb.out]; omega
      have hXg : Hid (goodFrom Z (54 + s.size) none (itemsOf es ps) = false → X = none) := fun h => by
        rw [← hX.out]
        unfold pieceWant
        rw [if_neg]
        intro hok
        rw [okP_iff, hfs.out] at hok
        rw [hok.2.2.2.1] at h
        cases h
      have hXf : Hid (Z - (n2 : Int) < F → X = none) := fun h => by
        rw [← hX.out]
        unfold pieceWant
        rw [if_neg]
        intro hok
        rw [okP_iff, hfs.out, hn.out] at hok
        omega
      have hXy : Hid (goodFrom Z (54 + s.size) none (itemsOf es ps) = true → ¬ Z - (n2 : Int) < F → X = some (T12 ++ rowsB (rowsOf es ps)) ∧ 1 ≤ Z ∧ Z ≤ 1099511627776) := fun h1 h2 => by
        have hok : okP s F b es ps := by
          rw [okP_iff, hfs.out, hn.out]
          exact ⟨hbg, by omega, hm.out, h1, hn1000.out, by omega⟩
        obtain ⟨hf, -, -⟩ := okP_fits hok
        refine ⟨?_, by have := hf.x0; rw [hfs.out] at this; omega, by have := hf.x40; rw [hfs.out] at this; omega⟩
        rw [← hX.out]
        unfold pieceWant
        rw [if_pos hok, ← hT12.out, ← hT10.out, ← hT8.out, ← hT7.out, ← hT5.out]
        unfold pieceB
        rw [hn.out, hfs.out]
        have e1 : be8i F = be8 F.toNat := by
          have := be8i_nat F.toNat (by have := hf.f40; omega)
          rwa [Int.toNat_of_nonneg hF0.out] at this
        have e2 : be8i Z = be8 Z.toNat := by
          have h0 := hf.x0
          have h9 := hf.x40
          rw [hfs.out] at h0 h9
          have := be8i_nat Z.toNat (by omega)
          rwa [Int.toNat_of_nonneg (by omega)] at this
        rw [e1, e2]
        rfl
      have hZz : Hid (goodFrom Z (54 + s.size) none (itemsOf es ps) = true → 1 ≤ Z ∧ Z ≤ 1099511627776) := fun h => by
        have he0 : es[0]? = some (es[0]'(by rw [hn.out]; omega)) := List.getElem?_eq_getElem _
        have hp0 : ps[0]? = some (ps[0]'(by rw [hm.out]; omega)) := List.getElem?_eq_getElem _
        obtain ⟨k1, k2⟩ := good_all h _ (List.mem_of_getElem? (items_at he0 hp0))
        obtain ⟨-, -, -, -, -, k3, k4, -, -⟩ := fit_parts k1
        have k2 : (ps[0]'(by rw [hm.out]; omega)).x = Z := k2
        omega
      replace hbg := Lib.hid hbg
      clear hX hT5 hT7 hT8 hT10 hT12
      go_loopw [6, 7] (fun v6 v7 wr => ∃ (i k : Nat) (A' : Option Addr) (c' : Nat) (T : Text) (pv : Option Int), v6 = .slice A' k c' ∧ v7 = .int .i64 (i : Int) ∧ Hid (i ≤ n2) ∧ Hid (T.length = k) ∧ Hid (T = T12 ++ rowsB ((rowsOf es ps).take i)) ∧ Hid (wr.ownsRow w2.heap.size 5 1 (.slice A' k c') k (cells8 T)) ∧ Hid (k ≤ 2097152) ∧ Hid (goodFrom Z (54 + s.size) none (itemsOf es ps) = goodFrom Z k pv ((itemsOf es ps).drop i)) ∧ Hid (pv = if i = 0 then none else (ps[i - 1]?).map (·.y)) ∧ Hid (Below w2.heap.size w2 wr)) (fun _ v _ => n2 - (intOf v).toNat)
      case atStart => exact ⟨0, 54 + s.size, A12, c12, T12, none, rfl, rfl, Nat.zero_le _, hT12l.out, (by show _ = _; simp [rowsB]), hO12.out, (by show _ ≤ _; have := h64h.out; omega), rfl, rfl, hb12.out⟩
      case round =>
        clear hO12 hb12
        obtain ⟨i, k, A', c', T, pv, rfl, rfl, hi, hTk, hTe, hO, hk21, hgd, hpv, hW⟩ := hrel
        by_cases hlt : i < n2
        · have hz : (i : Int) < (n2 : Int) := by omega
          have hz0 : (0 : Int) ≤ (i : Int) := by omega
          have hz47 : (i : Int) ≤ 1000 := by have := hn1000.out; omega
          obtain ⟨q, hqi⟩ : ∃ q, Hid (es[i]? = some q) := ⟨_, List.getElem?_eq_getElem (by rw [hn.out]; exact hlt)⟩
          obtain ⟨x, hxi⟩ : ∃ x, Hid (ps[i]? = some x) := ⟨ps[i]'(by rw [hm.out]; omega), List.getElem?_eq_getElem _⟩
          obtain ⟨bA, oA, rfl, hbA, hcs⟩ := hp.out (by have := hn.out; omega)
          obtain ⟨Ae, ce, hc1, hc2, hc3, hc4⟩ := hcs i q hqi.out
          obtain ⟨bP', oP', heP, -, hcx⟩ := hq.out.at_ hxi.out
          injection heP with heP
          injection heP with heP1 heP2
          subst heP1 heP2
          obtain ⟨m, hqm⟩ : ∃ m, Hid (q.length = m) := ⟨_, Lib.hid rfl⟩
          have hm47 : Hid (m < 140737488355328) := by have := hsh.out q (List.mem_of_getElem? hqi.out); have := hqm.out; show _ < _; omega
          have hrd := Lib.hid (hq.out.2 x (List.mem_of_getElem? hxi.out)).1
          have hdr : Hid ((itemsOf es ps).drop i = itemOf q x :: (itemsOf es ps).drop (i + 1)) := by
            show _ = _
            have hget := items_at hqi.out hxi.out
            obtain ⟨hl, he⟩ := List.getElem?_eq_some_iff.1 hget
            rw [List.drop_eq_getElem_cons hl, he]
          rw [hdr.out] at hgd
          obtain ⟨R, hR⟩ : ∃ R, Hid ((itemsOf es ps).drop (i + 1) = R) := ⟨_, Lib.hid rfl⟩
          rw [hR.out] at hgd
          obtain ⟨bad, hbad⟩ : ∃ z, Hid ((!(fitB x.x x.y x.n m && (decide (x.x = Z) && !low pv x.y))) = z) := ⟨_, Lib.hid rfl⟩
          have hgs : Hid (goodFrom Z (54 + s.size) none (itemsOf es ps) = (!bad && (decide (k + (12 + m + 32 * x.n) ≤ 2097152) && goodFrom Z (k + (12 + m + 32 * x.n)) (some x.y) R))) := by
            rw [hgd.out, ← hbad.out, Bool.not_not]
            show goodFrom Z k pv (itemOf q x :: R) = _
            have e : goodFrom Z k pv (itemOf q x :: R) = (((itemOf q x).fit && decide ((itemOf q x).size = Z)) && (!low pv (itemOf q x).num && (decide (k + (12 + (itemOf q x).len + 32 * (itemOf q x).ways) ≤ 2097152) && goodFrom Z (k + (12 + (itemOf q x).len + 32 * (itemOf q x).ways)) (some (itemOf q x).num) R))) := rfl
            rw [e]
            show ((fitB x.x x.y x.n q.length && decide (x.x = Z)) && (!low pv x.y && (decide (k + (12 + q.length + 32 * x.n) ≤ 2097152) && goodFrom Z (k + (12 + q.length + 32 * x.n)) (some x.y) R))) = _
            rw [hqm.out]
            simp only [Bool.and_assoc]
          have hbw := Lib.hid (hwB.out wr hW.out)
          have c34 : wr.cell? ⟨w.heap.size, 34, none⟩ = some (.slice (some ⟨bA, oA, none⟩) n2 c) := hcell.out wr hW.out 34 _ i34.out
          have c35 : wr.cell? ⟨w.heap.size, 35, none⟩ = some (.slice (some ⟨bP, oP, none⟩) n2 c2) := hcell.out wr hW.out 35 _ i35.out
          have hfx : Hid (∀ w', Below w.heap.size w w' → ∀ j u, x.cells[j]? = some u → w'.cell? ⟨bP, oP + i * 3 + j, none⟩ = some u) := fun w' hb j u hu => (hb.cell (p := ⟨bP, oP + i * 3 + j, none⟩) hbP).trans (by rw [show oP + i * 3 + j = oP + (3 * i + j) by omega]; exact hcx j u hu)
          have hev : Hid (∀ w', Below w.heap.size w w' → w'.cell? ⟨bA, oA + i, none⟩ = some (.slice Ae m ce)) := fun w' hb => (hb.cell (p := ⟨bA, oA + i, none⟩) hbA).trans (by rw [← hqm.out]; exact hc1)
          have hprev : Hid (0 < i → ∃ z, pv = some z ∧ ∀ w', Below w.heap.size w w' → w'.cell? ⟨bP, oP + (i - 1) * 3 + 1, none⟩ = some (.int .i64 z)) := fun h0 => by
            obtain ⟨z, hz⟩ : ∃ z, ps[i - 1]? = some z := ⟨_, List.getElem?_eq_getElem (by rw [hm.out]; omega)⟩
            obtain ⟨b3, o3, e3, hb3, hc3⟩ := hq.out.at_ hz
            injection e3 with e3
            injection e3 with e31 e32
            subst e31 e32
            exact ⟨z.y, by rw [hpv.out, if_neg (by omega), hz]; rfl, fun w' hb => (hb.cell (p := ⟨bP, oP + (i - 1) * 3 + 1, none⟩) hbP).trans (by rw [show oP + (i - 1) * 3 + 1 = oP + (3 * (i - 1) + 1) by omega]; exact hc3 1 _ rfl)⟩
          have hpv0 : Hid (i = 0 → pv = none) := fun h => by rw [hpv.out, if_pos h]
          have hLr : Hid (Blk (wr.alloc (.cells #[.int .i64 0, .int .i64 0, .slice none 0 0] 48)) wr.heap.size 48 #[.int .i64 0, .int .i64 0, .slice none 0 0]) := Blk.new wr _ _
          have hrq : Hid (∀ w', Below w.heap.size w w' → Reads w' 1 Ae m (cells8 q)) := fun w' hb => by rw [← hqm.out]; exact hc3.below hb
          have hnq : Hid (Ae = none → m = 0 ∧ ce = 0) := by rw [← hqm.out]; exact hc4
          have hrw : Hid (∀ w', Below w.heap.size w w' → RdD w' x.A x.n x.ds) := fun w' hb => hrd.out.below hb
          have hAlt : Hid (0 < x.n → ∀ b' o', x.A = some ⟨b', o', none⟩ → b' < w2.heap.size) := fun h0 b' o' e => by
            obtain ⟨b2, o2, e2, hb2', -⟩ := hrd.out.2.2.at_ (by omega)
            rw [e] at e2
            injection e2 with e2
            injection e2 with e3 e4
            have := hlt2.out
            omega
          have hstep : Hid (T ++ be8i x.y ++ be4 m ++ q ++ x.ds.flatten = T12 ++ rowsB ((rowsOf es ps).take (i + 1)) ∨ bad = true) := by
            cases hbb : bad with
            | true => exact .inr rfl
            | false =>
              left
              rw [hbb] at hbad
              have h := hbad.out
              simp only [Bool.not_eq_false', Bool.and_eq_true] at h
              obtain ⟨-, -, -, -, -, -, -, h6, h7⟩ := fit_parts h.1
              have h8 := (fit_parts h.1).2.2.2.2.2.2.1
              rw [rowsB_snoc _ _ _ (rows_at hqi.out hxi.out), ← List.append_assoc, ← hTe.out]
              have e1 : be8i x.y = be8 x.y.toNat := by
                have := be8i_nat x.y.toNat (by omega)
                rwa [Int.toNat_of_nonneg h6] at this
              rw [e1]
              simp [rowOf, rowB, hqm.out]
          clear hcs hc1 hc2 hc3 hc4 hcx hbA hgd hdr
          go_upto_region 16 with (first
            | ((with_reducible change wpList _ _ _ ({ dst := some 98, op := _, type := _, pos := _, after := _, guard := _ } :: _) _ _); (with_reducible refine Veil.out ?_); refine wpList_partW (o := ⟨some 98, _, _, _, _, _⟩) rfl 48 (.tmp 97) rfl (bP) ((oP + i * 3)) rfl (x.cells) _ (hfx.out _ hbw.out) Try.underlying48 rfl size3 ?_)
            | ((with_reducible change wpList _ _ _ ({ dst := none, op := Op.store 48 (.tmp 8) _, type := _, pos := _, after := _, guard := _ } :: _) _ _); refine wpList_store_whole (o := ⟨none, _, _, _, _, _⟩) rfl 48 (.tmp 8) (.tmp 98) rfl (wr.heap.size) (x.cells.toArray) rfl rfl 48 (#[.int .i64 0, .int .i64 0, .slice none 0 0]) hLr.out size3 rfl (pr_one x) ?_; intro w4 hB4 hk4; have hb4 := Lib.hid (kept_fresh hk4); replace hB4 := Lib.hid hB4; have hev4 := hev.out w4 (hbw.out.trans (hb4.out.mono hbw.out.size)); have c344 := hcell.out w4 (hW.out.trans (hb4.out.mono hW.out.size)) 34 _ i34.out; clear hk4 hLr c34 c35))
          have hb4w : Hid (Below w2.heap.size w2 w4) := hW.out.trans (hb4.out.mono hW.out.size)
          have hO4 : Hid (w4.ownsRow w2.heap.size 5 1 (.slice A' k c') k (cells8 T)) := Own.own_below hO.out hb4.out
          have hM : Hid (∀ w', Below w4.heap.size w4 w' → ∀ j u, x.cells[j]? = some u → w'.cell? ⟨wr.heap.size, j, none⟩ = some u) := fun w' hb j u hu => by
            have h : Blk w' wr.heap.size 48 x.cells.toArray := (hb.block _ hB4.out.lt).trans hB4.out
            rw [h.cell j, List.getElem?_toArray]
            exact hu
          have hQ4 : Hid (∀ w', Below w4.heap.size w4 w' → Below w.heap.size w w') := fun w' hb => hwB.out w' (hb4w.out.trans (hb.mono hb4w.out.size))
          have hC4 : Hid (∀ w', Below w4.heap.size w4 w' → w'.cell? ⟨w.heap.size, 35, none⟩ = some (.slice (some ⟨bP, oP, none⟩) n2 c2)) := fun w' hb => hcell.out w' (hb4w.out.trans (hb.mono hb4w.out.size)) 35 _ i35.out
          have hmI : (m : Int) < 140737488355328 := by have := hm47.out; omega
          have hne0 : Hid (∀ k', Value.ownBlock (.slice A' k c') = some k' → k' ≠ wr.heap.size) := fun k' e h => by have := (hO.out.lt k' e).2; omega
          generalize wr.heap.size = mb at *
          clear hev4 c344
          go_cut [143] from 104 to 143 (fun v wr' => v = .bool bad ∧ Hid (Below w4.heap.size w4 wr'))
          case first =>
            clear hgs hstep hO4 hTe hO hk21 hXf hXy hXg hev hrq hrw hnq hAlt hcell hbR hT12l
            by_cases h1 : x.x = Z
            · have z1 : (x.x != Z) = false := by simp; exact h1
              by_cases h2 : bsOf Z x.y = (x.n : Int)
              · have z2 : (bsOf Z x.y != (x.n : Int)) = false := by rw [bne, beq_iff_eq.2 h2]; rfl
                by_cases h0 : i = 0
                · have z5 := Lib.hid h0
                  have hl : low pv x.y = false := by rw [hpv0.out h0]; rfl
                  by_cases h3 : m < 1
                  · have z3 : (m : Int) < 1 := by omega
                    have hst : bad = true := by
                      rw [← hbad.out]
                      have h : fitB x.x x.y x.n m = false := by
                        cases hf : fitB x.x x.y x.n m with
                        | false => rfl
                        | true => have := (fit_parts hf).2.2.1; omega
                      rw [h]
                      rfl
                    subst hst
                    clear hbad
                    replace h1 := Lib.hid h1; replace h2 := Lib.hid h2; clear hl h0
                    replace h3 := Lib.hid h3
                    refine q_region (Class w4) (by kernel_rfl) (by kernel_rfl) (Class.mk_ ((Below.refl _ _).drew)) ?_
                    refine q_val (v := .pointer (some ⟨mb, 0, none⟩)) rfl (fun w' hw' => by go_simp) ?_
                    (intro K hK; go_simp; refine hK _ ?_; clear hK K)
                    refine q_val (v := .int .i64 x.x) rfl (fun w' hw' => by have hc := hM.out w' hw'.below 0 _ rfl; go_simp) ?_
                    (intro K hK; go_simp; refine hK _ ?_; clear hK K)
                    refine q_move rfl (.tmp 5) rfl ?_
                    (intro K hK; go_simp; refine hK _ ?_; clear hK K)
                    refine q_val (v := .bool false) rfl (fun w' hw' => by go_simp) ?_
                    (intro K hK; go_simp; refine hK _ ?_; clear hK K)
                    refine q_move rfl (.tmp 107) rfl ?_
                    (intro K hK; go_simp; refine hK _ ?_; clear hK K)
                    refine q_move rfl (.tmp 5) rfl ?_
                    (intro K hK; go_simp; refine hK _ ?_; clear hK K)
                    refine q_val (v := .pointer (some ⟨mb, 1, none⟩)) rfl (fun w' hw' => by go_simp) ?_
                    (intro K hK; go_simp; refine hK _ ?_; clear hK K)
                    refine q_val (v := .int .i64 x.y) rfl (fun w' hw' => by have hc := hM.out w' hw'.below 1 _ rfl; go_simp) ?_
                    (intro K hK; go_simp; refine hK _ ?_; clear hK K)
                    refine q_fn (v := .int .i64 (bsOf Z x.y)) (args := #[.int .i64 Z, .int .i64 x.y]) rfl _ _ rfl rfl Try.func42 (by kernel_rfl) (by kernel_rfl) (fun w' hw' => (beside17_any Z x.y w').mono (fun e w'' ⟨he, hw⟩ => ⟨he, hw.symm ▸ hw'⟩)) ?_
                    (intro K hK; go_simp; refine hK _ ?_; clear hK K)
                    refine q_val (v := .pointer (some ⟨mb, 2, none⟩)) rfl (fun w' hw' => by go_simp) ?_
                    (intro K hK; go_simp; refine hK _ ?_; clear hK K)
                    refine q_val (v := .slice x.A x.n x.c) rfl (fun w' hw' => by have hc := hM.out w' hw'.below 2 _ rfl; go_simp) ?_
                    (intro K hK; go_simp; refine hK _ ?_; clear hK K)
                    refine q_val (v := .int .i64 (x.n : Int)) rfl (fun w' hw' => by go_simp) ?_
                    (intro K hK; go_simp; refine hK _ ?_; clear hK K)
                    refine q_val (v := .bool false) rfl (fun w' hw' => by go_simp) ?_
                    (intro K hK; go_simp; refine hK _ ?_; clear hK K)
                    refine q_val (v := .bool false) rfl (fun w' hw' => by go_simp) ?_
                    (intro K hK; go_simp; refine hK _ ?_; clear hK K)
                    refine q_move rfl (.tmp 117) rfl ?_
                    (intro K hK; go_simp; refine hK _ ?_; clear hK K)
                    refine q_move rfl (.tmp 7) rfl ?_
                    (intro K hK; go_simp; refine hK _ ?_; clear hK K)
                    refine q_val (v := .bool false) rfl (fun w' hw' => by (go_simp; have := z5.out; omega)) ?_
                    (intro K hK; go_simp; refine hK _ ?_; clear hK K)
                    refine q_move rfl (.tmp 120) rfl ?_
                    (intro K hK; go_simp; refine hK _ ?_; clear hK K)
                    refine q_skip rfl ?_
                    (intro K hK; go_simp; refine hK _ ?_; clear hK K)
                    refine q_skip rfl ?_
                    (intro K hK; go_simp; refine hK _ ?_; clear hK K)
                    refine q_skip rfl ?_
                    (intro K hK; go_simp; refine hK _ ?_; clear hK K)
                    refine q_skip rfl ?_
                    (intro K hK; go_simp; refine hK _ ?_; clear hK K)
                    refine q_skip rfl ?_
                    (intro K hK; go_simp; refine hK _ ?_; clear hK K)
                    refine q_skip rfl ?_
                    (intro K hK; go_simp; refine hK _ ?_; clear hK K)
                    refine q_skip rfl ?_
                    (intro K hK; go_simp; refine hK _ ?_; clear hK K)
                    refine q_skip rfl ?_
                    (intro K hK; go_simp; refine hK _ ?_; clear hK K)
                    refine q_skip rfl ?_
                    (intro K hK; go_simp; refine hK _ ?_; clear hK K)
                    refine q_skip rfl ?_
                    (intro K hK; go_simp; refine hK _ ?_; clear hK K)
                    refine q_val (v := .bool false) rfl (fun w' hw' => by go_simp) ?_
                    (intro K hK; go_simp; refine hK _ ?_; clear hK K)
                    refine q_val (v := .bool false) rfl (fun w' hw' => by go_simp) ?_
                    (intro K hK; go_simp; refine hK _ ?_; clear hK K)
                    refine q_move rfl (.tmp 133) rfl ?_
                    (intro K hK; go_simp; refine hK _ ?_; clear hK K)
                    refine q_move rfl (.tmp 9) rfl ?_
                    (intro K hK; go_simp; refine hK _ ?_; clear hK K)
                    refine q_val (v := .int .i64 (m : Int)) rfl (fun w' hw' => by go_simp) ?_
                    (intro K hK; go_simp; refine hK _ ?_; clear hK K)
                    refine q_val (v := .bool true) rfl (fun w' hw' => by go_simp) ?_
                    (intro K hK; go_simp; refine hK _ ?_; clear hK K)
                    refine q_val (v := .bool true) rfl (fun w' hw' => by go_simp) ?_
                    (intro K hK; go_simp; refine hK _ ?_; clear hK K)
                    refine q_move rfl (.tmp 138) rfl ?_
                    (intro K hK; go_simp; refine hK _ ?_; clear hK K)
                    refine q_skip rfl ?_
                    (intro K hK; go_simp; refine hK _ ?_; clear hK K)
                    refine q_skip rfl ?_
                    (intro K hK; go_simp; refine hK _ ?_; clear hK K)
                    refine q_skip rfl ?_
                    (intro K hK; go_simp; refine hK _ ?_; clear hK K)
                    refine q_val (v := .bool true) rfl (fun w' hw' => by go_simp) ?_
                    (intro K hK; go_simp; refine hK _ ?_; clear hK K)
                    refine q_nil ?_
                    intro w7 hw7
                    have h7 : Hid (Below w4.heap.size w4 w7) := hw7.below
                    go_wp2_with fail
                    go_meet
                    case rel => exact ⟨rfl, h7.out⟩
                  · have z3 : ¬ (m : Int) < 1 := by omega
                    by_cases h4 : 65536 < m
                    · have z4 : (65536 : Int) < (m : Int) := by omega
                      have hst : bad = true := by
                        rw [← hbad.out]
                        have h : fitB x.x x.y x.n m = false := by
                          cases hf : fitB x.x x.y x.n m with
                          | false => rfl
                          | true => have := (fit_parts hf).2.2.2.1; omega
                        rw [h]
                        rfl
                      subst hst
                      clear hbad
                      replace h1 := Lib.hid h1; replace h2 := Lib.hid h2; clear hl h0
                      replace h3 := Lib.hid h3
                      replace h4 := Lib.hid h4
                      refine q_region (Class w4) (by kernel_rfl) (by kernel_rfl) (Class.mk_ ((Below.refl _ _).drew)) ?_
                      refine q_val (v := .pointer (some ⟨mb, 0, none⟩)) rfl (fun w' hw' => by go_simp) ?_
                      (intro K hK; go_simp; refine hK _ ?_; clear hK K)
                      refine q_val (v := .int .i64 x.x) rfl (fun w' hw' => by have hc := hM.out w' hw'.below 0 _ rfl; go_simp) ?_
                      (intro K hK; go_simp; refine hK _ ?_; clear hK K)
                      refine q_move rfl (.tmp 5) rfl ?_
                      (intro K hK; go_simp; refine hK _ ?_; clear hK K)
                      refine q_val (v := .bool false) rfl (fun w' hw' => by go_simp) ?_
                      (intro K hK; go_simp; refine hK _ ?_; clear hK K)
                      refine q_move rfl (.tmp 107) rfl ?_
                      (intro K hK; go_simp; refine hK _ ?_; clear hK K)
                      refine q_move rfl (.tmp 5) rfl ?_
                      (intro K hK; go_simp; refine hK _ ?_; clear hK K)
                      refine q_val (v := .pointer (some ⟨mb, 1, none⟩)) rfl (fun w' hw' => by go_simp) ?_
                      (intro K hK; go_simp; refine hK _ ?_; clear hK K)
                      refine q_val (v := .int .i64 x.y) rfl (fun w' hw' => by have hc := hM.out w' hw'.below 1 _ rfl; go_simp) ?_
                      (intro K hK; go_simp; refine hK _ ?_; clear hK K)
                      refine q_fn (v := .int .i64 (bsOf Z x.y)) (args := #[.int .i64 Z, .int .i64 x.y]) rfl _ _ rfl rfl Try.func42 (by kernel_rfl) (by kernel_rfl) (fun w' hw' => (beside17_any Z x.y w').mono (fun e w'' ⟨he, hw⟩ => ⟨he, hw.symm ▸ hw'⟩)) ?_
                      (intro K hK; go_simp; refine hK _ ?_; clear hK K)
                      refine q_val (v := .pointer (some ⟨mb, 2, none⟩)) rfl (fun w' hw' => by go_simp) ?_
                      (intro K hK; go_simp; refine hK _ ?_; clear hK K)
                      refine q_val (v := .slice x.A x.n x.c) rfl (fun w' hw' => by have hc := hM.out w' hw'.below 2 _ rfl; go_simp) ?_
                      (intro K hK; go_simp; refine hK _ ?_; clear hK K)
                      refine q_val (v := .int .i64 (x.n : Int)) rfl (fun w' hw' => by go_simp) ?_
                      (intro K hK; go_simp; refine hK _ ?_; clear hK K)
                      refine q_val (v := .bool false) rfl (fun w' hw' => by go_simp) ?_
                      (intro K hK; go_simp; refine hK _ ?_; clear hK K)
                      refine q_val (v := .bool false) rfl (fun w' hw' => by go_simp) ?_
                      (intro K hK; go_simp; refine hK _ ?_; clear hK K)
                      refine q_move rfl (.tmp 117) rfl ?_
                      (intro K hK; go_simp; refine hK _ ?_; clear hK K)
                      refine q_move rfl (.tmp 7) rfl ?_
                      (intro K hK; go_simp; refine hK _ ?_; clear hK K)
                      refine q_val (v := .bool false) rfl (fun w' hw' => by (go_simp; have := z5.out; omega)) ?_
                      (intro K hK; go_simp; refine hK _ ?_; clear hK K)
                      refine q_move rfl (.tmp 120) rfl ?_
                      (intro K hK; go_simp; refine hK _ ?_; clear hK K)
                      refine q_skip rfl ?_
                      (intro K hK; go_simp; refine hK _ ?_; clear hK K)
                      refine q_skip rfl ?_
                      (intro K hK; go_simp; refine hK _ ?_; clear hK K)
                      refine q_skip rfl ?_
                      (intro K hK; go_simp; refine hK _ ?_; clear hK K)
                      refine q_skip rfl ?_
                      (intro K hK; go_simp; refine hK _ ?_; clear hK K)
                      refine q_skip rfl ?_
                      (intro K hK; go_simp; refine hK _ ?_; clear hK K)
                      refine q_skip rfl ?_
                      (intro K hK; go_simp; refine hK _ ?_; clear hK K)
                      refine q_skip rfl ?_
                      (intro K hK; go_simp; refine hK _ ?_; clear hK K)
                      refine q_skip rfl ?_
                      (intro K hK; go_simp; refine hK _ ?_; clear hK K)
                      refine q_skip rfl ?_
                      (intro K hK; go_simp; refine hK _ ?_; clear hK K)
                      refine q_skip rfl ?_
                      (intro K hK; go_simp; refine hK _ ?_; clear hK K)
                      refine q_val (v := .bool false) rfl (fun w' hw' => by go_simp) ?_
                      (intro K hK; go_simp; refine hK _ ?_; clear hK K)
                      refine q_val (v := .bool false) rfl (fun w' hw' => by go_simp) ?_
                      (intro K hK; go_simp; refine hK _ ?_; clear hK K)
                      refine q_move rfl (.tmp 133) rfl ?_
                      (intro K hK; go_simp; refine hK _ ?_; clear hK K)
                      refine q_move rfl (.tmp 9) rfl ?_
                      (intro K hK; go_simp; refine hK _ ?_; clear hK K)
                      refine q_val (v := .int .i64 (m : Int)) rfl (fun w' hw' => by go_simp) ?_
                      (intro K hK; go_simp; refine hK _ ?_; clear hK K)
                      refine q_val (v := .bool false) rfl (fun w' hw' => by go_simp) ?_
                      (intro K hK; go_simp; refine hK _ ?_; clear hK K)
                      refine q_val (v := .bool false) rfl (fun w' hw' => by go_simp) ?_
                      (intro K hK; go_simp; refine hK _ ?_; clear hK K)
                      refine q_move rfl (.tmp 138) rfl ?_
                      (intro K hK; go_simp; refine hK _ ?_; clear hK K)
                      refine q_move rfl (.tmp 9) rfl ?_
                      (intro K hK; go_simp; refine hK _ ?_; clear hK K)
                      refine q_val (v := .int .i64 (m : Int)) rfl (fun w' hw' => by go_simp) ?_
                      (intro K hK; go_simp; refine hK _ ?_; clear hK K)
                      refine q_val (v := .bool true) rfl (fun w' hw' => by go_simp) ?_
                      (intro K hK; go_simp; refine hK _ ?_; clear hK K)
                      refine q_val (v := .bool true) rfl (fun w' hw' => by go_simp) ?_
                      (intro K hK; go_simp; refine hK _ ?_; clear hK K)
                      refine q_nil ?_
                      intro w7 hw7
                      have h7 : Hid (Below w4.heap.size w4 w7) := hw7.below
                      go_wp2_with fail
                      go_meet
                      case rel => exact ⟨rfl, h7.out⟩
                    · have z4 : ¬ (65536 : Int) < (m : Int) := by omega
                      have hst : bad = false := by
                        rw [← hbad.out]
                        have h : fitB x.x x.y x.n m = true := by
                          obtain ⟨f1, f2⟩ := bs_eq.1 h2
                          rw [← h1] at f1 f2
                          unfold fitB
                          rw [f1, f2, decide_eq_true (show 1 ≤ m by omega), decide_eq_true (show m ≤ 65536 by omega)]
                          simp
                        rw [h, hl, decide_eq_true h1]
                        rfl
                      subst hst
                      clear hbad
                      replace h1 := Lib.hid h1; replace h2 := Lib.hid h2; clear hl h0
                      replace h3 := Lib.hid h3
                      replace h4 := Lib.hid h4
                      refine q_region (Class w4) (by kernel_rfl) (by kernel_rfl) (Class.mk_ ((Below.refl _ _).drew)) ?_
                      refine q_val (v := .pointer (some ⟨mb, 0, none⟩)) rfl (fun w' hw' => by go_simp) ?_
                      (intro K hK; go_simp; refine hK _ ?_; clear hK K)
                      refine q_val (v := .int .i64 x.x) rfl (fun w' hw' => by have hc := hM.out w' hw'.below 0 _ rfl; go_simp) ?_
                      (intro K hK; go_simp; refine hK _ ?_; clear hK K)
                      refine q_move rfl (.tmp 5) rfl ?_
                      (intro K hK; go_simp; refine hK _ ?_; clear hK K)
                      refine q_val (v := .bool false) rfl (fun w' hw' => by go_simp) ?_
                      (intro K hK; go_simp; refine hK _ ?_; clear hK K)
                      refine q_move rfl (.tmp 107) rfl ?_
                      (intro K hK; go_simp; refine hK _ ?_; clear hK K)
                      refine q_move rfl (.tmp 5) rfl ?_
                      (intro K hK; go_simp; refine hK _ ?_; clear hK K)
                      refine q_val (v := .pointer (some ⟨mb, 1, none⟩)) rfl (fun w' hw' => by go_simp) ?_
                      (intro K hK; go_simp; refine hK _ ?_; clear hK K)
                      refine q_val (v := .int .i64 x.y) rfl (fun w' hw' => by have hc := hM.out w' hw'.below 1 _ rfl; go_simp) ?_
                      (intro K hK; go_simp; refine hK _ ?_; clear hK K)
                      refine q_fn (v := .int .i64 (bsOf Z x.y)) (args := #[.int .i64 Z, .int .i64 x.y]) rfl _ _ rfl rfl Try.func42 (by kernel_rfl) (by kernel_rfl) (fun w' hw' => (beside17_any Z x.y w').mono (fun e w'' ⟨he, hw⟩ => ⟨he, hw.symm ▸ hw'⟩)) ?_
                      (intro K hK; go_simp; refine hK _ ?_; clear hK K)
                      refine q_val (v := .pointer (some ⟨mb, 2, none⟩)) rfl (fun w' hw' => by go_simp) ?_
                      (intro K hK; go_simp; refine hK _ ?_; clear hK K)
                      refine q_val (v := .slice x.A x.n x.c) rfl (fun w' hw' => by have hc := hM.out w' hw'.below 2 _ rfl; go_simp) ?_
                      (intro K hK; go_simp; refine hK _ ?_; clear hK K)
                      refine q_val (v := .int .i64 (x.n : Int)) rfl (fun w' hw' => by go_simp) ?_
                      (intro K hK; go_simp; refine hK _ ?_; clear hK K)
                      refine q_val (v := .bool false) rfl (fun w' hw' => by go_simp) ?_
                      (intro K hK; go_simp; refine hK _ ?_; clear hK K)
                      refine q_val (v := .bool false) rfl (fun w' hw' => by go_simp) ?_
                      (intro K hK; go_simp; refine hK _ ?_; clear hK K)
                      refine q_move rfl (.tmp 117) rfl ?_
                      (intro K hK; go_simp; refine hK _ ?_; clear hK K)
                      refine q_move rfl (.tmp 7) rfl ?_
                      (intro K hK; go_simp; refine hK _ ?_; clear hK K)
                      refine q_val (v := .bool false) rfl (fun w' hw' => by (go_simp; have := z5.out; omega)) ?_
                      (intro K hK; go_simp; refine hK _ ?_; clear hK K)
                      refine q_move rfl (.tmp 120) rfl ?_
                      (intro K hK; go_simp; refine hK _ ?_; clear hK K)
                      refine q_skip rfl ?_
                      (intro K hK; go_simp; refine hK _ ?_; clear hK K)
                      refine q_skip rfl ?_
                      (intro K hK; go_simp; refine hK _ ?_; clear hK K)
                      refine q_skip rfl ?_
                      (intro K hK; go_simp; refine hK _ ?_; clear hK K)
                      refine q_skip rfl ?_
                      (intro K hK; go_simp; refine hK _ ?_; clear hK K)
                      refine q_skip rfl ?_
                      (intro K hK; go_simp; refine hK _ ?_; clear hK K)
                      refine q_skip rfl ?_
                      (intro K hK; go_simp; refine hK _ ?_; clear hK K)
                      refine q_skip rfl ?_
                      (intro K hK; go_simp; refine hK _ ?_; clear hK K)
                      refine q_skip rfl ?_
                      (intro K hK; go_simp; refine hK _ ?_; clear hK K)
                      refine q_skip rfl ?_
                      (intro K hK; go_simp; refine hK _ ?_; clear hK K)
                      refine q_skip rfl ?_
                      (intro K hK; go_simp; refine hK _ ?_; clear hK K)
                      refine q_val (v := .bool false) rfl (fun w' hw' => by go_simp) ?_
                      (intro K hK; go_simp; refine hK _ ?_; clear hK K)
                      refine q_val (v := .bool false) rfl (fun w' hw' => by go_simp) ?_
                      (intro K hK; go_simp; refine hK _ ?_; clear hK K)
                      refine q_move rfl (.tmp 133) rfl ?_
                      (intro K hK; go_simp; refine hK _ ?_; clear hK K)
                      refine q_move rfl (.tmp 9) rfl ?_
                      (intro K hK; go_simp; refine hK _ ?_; clear hK K)
                      refine q_val (v := .int .i64 (m : Int)) rfl (fun w' hw' => by go_simp) ?_
                      (intro K hK; go_simp; refine hK _ ?_; clear hK K)
                      refine q_val (v := .bool false) rfl (fun w' hw' => by go_simp) ?_
                      (intro K hK; go_simp; refine hK _ ?_; clear hK K)
                      refine q_val (v := .bool false) rfl (fun w' hw' => by go_simp) ?_
                      (intro K hK; go_simp; refine hK _ ?_; clear hK K)
                      refine q_move rfl (.tmp 138) rfl ?_
                      (intro K hK; go_simp; refine hK _ ?_; clear hK K)
                      refine q_move rfl (.tmp 9) rfl ?_
                      (intro K hK; go_simp; refine hK _ ?_; clear hK K)
                      refine q_val (v := .int .i64 (m : Int)) rfl (fun w' hw' => by go_simp) ?_
                      (intro K hK; go_simp; refine hK _ ?_; clear hK K)
                      refine q_val (v := .bool false) rfl (fun w' hw' => by go_simp) ?_
                      (intro K hK; go_simp; refine hK _ ?_; clear hK K)
                      refine q_val (v := .bool false) rfl (fun w' hw' => by go_simp) ?_
                      (intro K hK; go_simp; refine hK _ ?_; clear hK K)
                      refine q_nil ?_
                      intro w7 hw7
                      have h7 : Hid (Below w4.heap.size w4 w7) := hw7.below
                      go_wp2_with fail
                      go_meet
                      case rel => exact ⟨rfl, h7.out⟩
                · have z5 : Hid (0 < i) := by show _ < _; omega
                  obtain ⟨zy, hpz, hzc⟩ := hprev.out (by omega)
                  obtain ⟨kp, hkp⟩ : ∃ kp, i - 1 = kp := ⟨_, rfl⟩
                  rw [hkp] at hzc
                  have z7 : IntKind.i64.wrap ((i : Int) - 1) = (kp : Int) := by rw [IntWalk.i64_in _ (by omega)]; omega
                  have z8 : (kp : Int) < (n2 : Int) := by omega
                  have z9 : (0 : Int) ≤ (kp : Int) := by omega
                  replace hzc := Lib.hid hzc
                  replace hkp := Lib.hid hkp
                  replace h0 := Lib.hid h0
                  by_cases hy : x.y ≤ zy
                  · have hl : low pv x.y = true := by rw [hpz]; exact decide_eq_true hy
                    have hst : bad = true := by
                      rw [← hbad.out]
                      rw [hl]
                      simp
                    subst hst
                    clear hbad
                    replace h1 := Lib.hid h1
                    replace h2 := Lib.hid h2
                    clear hl hpz
                    refine q_region (Class w4) (by kernel_rfl) (by kernel_rfl) (Class.mk_ ((Below.refl _ _).drew)) ?_
                    refine q_val (v := .pointer (some ⟨mb, 0, none⟩)) rfl (fun w' hw' => by go_simp) ?_
                    (intro K hK; go_simp; refine hK _ ?_; clear hK K)
                    refine q_val (v := .int .i64 x.x) rfl (fun w' hw' => by have hc := hM.out w' hw'.below 0 _ rfl; go_simp) ?_
                    (intro K hK; go_simp; refine hK _ ?_; clear hK K)
                    refine q_move rfl (.tmp 5) rfl ?_
                    (intro K hK; go_simp; refine hK _ ?_; clear hK K)
                    refine q_val (v := .bool false) rfl (fun w' hw' => by go_simp) ?_
                    (intro K hK; go_simp; refine hK _ ?_; clear hK K)
                    refine q_move rfl (.tmp 107) rfl ?_
                    (intro K hK; go_simp; refine hK _ ?_; clear hK K)
                    refine q_move rfl (.tmp 5) rfl ?_
                    (intro K hK; go_simp; refine hK _ ?_; clear hK K)
                    refine q_val (v := .pointer (some ⟨mb, 1, none⟩)) rfl (fun w' hw' => by go_simp) ?_
                    (intro K hK; go_simp; refine hK _ ?_; clear hK K)
                    refine q_val (v := .int .i64 x.y) rfl (fun w' hw' => by have hc := hM.out w' hw'.below 1 _ rfl; go_simp) ?_
                    (intro K hK; go_simp; refine hK _ ?_; clear hK K)
                    refine q_fn (v := .int .i64 (bsOf Z x.y)) (args := #[.int .i64 Z, .int .i64 x.y]) rfl _ _ rfl rfl Try.func42 (by kernel_rfl) (by kernel_rfl) (fun w' hw' => (beside17_any Z x.y w').mono (fun e w'' ⟨he, hw⟩ => ⟨he, hw.symm ▸ hw'⟩)) ?_
                    (intro K hK; go_simp; refine hK _ ?_; clear hK K)
                    refine q_val (v := .pointer (some ⟨mb, 2, none⟩)) rfl (fun w' hw' => by go_simp) ?_
                    (intro K hK; go_simp; refine hK _ ?_; clear hK K)
                    refine q_val (v := .slice x.A x.n x.c) rfl (fun w' hw' => by have hc := hM.out w' hw'.below 2 _ rfl; go_simp) ?_
                    (intro K hK; go_simp; refine hK _ ?_; clear hK K)
                    refine q_val (v := .int .i64 (x.n : Int)) rfl (fun w' hw' => by go_simp) ?_
                    (intro K hK; go_simp; refine hK _ ?_; clear hK K)
                    refine q_val (v := .bool false) rfl (fun w' hw' => by go_simp) ?_
                    (intro K hK; go_simp; refine hK _ ?_; clear hK K)
                    refine q_val (v := .bool false) rfl (fun w' hw' => by go_simp) ?_
                    (intro K hK; go_simp; refine hK _ ?_; clear hK K)
                    refine q_move rfl (.tmp 117) rfl ?_
                    (intro K hK; go_simp; refine hK _ ?_; clear hK K)
                    refine q_move rfl (.tmp 7) rfl ?_
                    (intro K hK; go_simp; refine hK _ ?_; clear hK K)
                    refine q_val (v := .bool true) rfl (fun w' hw' => by (go_simp; have := z5.out; omega)) ?_
                    (intro K hK; go_simp; refine hK _ ?_; clear hK K)
                    refine q_move rfl (.tmp 120) rfl ?_
                    (intro K hK; go_simp; refine hK _ ?_; clear hK K)
                    refine q_val (v := .pointer (some ⟨mb, 1, none⟩)) rfl (fun w' hw' => by go_simp) ?_
                    (intro K hK; go_simp; refine hK _ ?_; clear hK K)
                    refine q_val (v := .int .i64 x.y) rfl (fun w' hw' => by have hc := hM.out w' hw'.below 1 _ rfl; go_simp) ?_
                    (intro K hK; go_simp; refine hK _ ?_; clear hK K)
                    refine q_val (v := .pointer (some ⟨w.heap.size, 35, none⟩)) rfl (fun w' hw' => by go_simp) ?_
                    (intro K hK; go_simp; refine hK _ ?_; clear hK K)
                    refine q_val (v := .slice (some ⟨bP, oP, none⟩) n2 c2) rfl (fun w' hw' => by have hc := hC4.out w' hw'.below; go_simp) ?_
                    (intro K hK; go_simp; refine hK _ ?_; clear hK K)
                    refine q_move rfl (.tmp 7) rfl ?_
                    (intro K hK; go_simp; refine hK _ ?_; clear hK K)
                    refine q_val (v := .int .i64 (kp : Int)) rfl (fun w' hw' => by go_simp) ?_
                    (intro K hK; go_simp; refine hK _ ?_; clear hK K)
                    refine q_val (v := .pointer (some ⟨bP, oP + kp * 3, none⟩)) rfl (fun w' hw' => by go_simp) ?_
                    (intro K hK; go_simp; refine hK _ ?_; clear hK K)
                    refine q_val (v := .pointer (some ⟨bP, oP + kp * 3 + 1, none⟩)) rfl (fun w' hw' => by go_simp) ?_
                    (intro K hK; go_simp; refine hK _ ?_; clear hK K)
                    refine q_val (v := .int .i64 zy) rfl (fun w' hw' => by have hc := hzc.out w' (hQ4.out w' hw'.below); go_simp) ?_
                    (intro K hK; go_simp; refine hK _ ?_; clear hK K)
                    refine q_val (v := .bool true) rfl (fun w' hw' => by go_simp) ?_
                    (intro K hK; go_simp; refine hK _ ?_; clear hK K)
                    refine q_val (v := .bool true) rfl (fun w' hw' => by go_simp) ?_
                    (intro K hK; go_simp; refine hK _ ?_; clear hK K)
                    refine q_val (v := .bool true) rfl (fun w' hw' => by go_simp) ?_
                    (intro K hK; go_simp; refine hK _ ?_; clear hK K)
                    refine q_move rfl (.tmp 133) rfl ?_
                    (intro K hK; go_simp; refine hK _ ?_; clear hK K)
                    refine q_skip rfl ?_
                    (intro K hK; go_simp; refine hK _ ?_; clear hK K)
                    refine q_skip rfl ?_
                    (intro K hK; go_simp; refine hK _ ?_; clear hK K)
                    refine q_skip rfl ?_
                    (intro K hK; go_simp; refine hK _ ?_; clear hK K)
                    refine q_val (v := .bool true) rfl (fun w' hw' => by go_simp) ?_
                    (intro K hK; go_simp; refine hK _ ?_; clear hK K)
                    refine q_move rfl (.tmp 138) rfl ?_
                    (intro K hK; go_simp; refine hK _ ?_; clear hK K)
                    refine q_skip rfl ?_
                    (intro K hK; go_simp; refine hK _ ?_; clear hK K)
                    refine q_skip rfl ?_
                    (intro K hK; go_simp; refine hK _ ?_; clear hK K)
                    refine q_skip rfl ?_
                    (intro K hK; go_simp; refine hK _ ?_; clear hK K)
                    refine q_val (v := .bool true) rfl (fun w' hw' => by go_simp) ?_
                    (intro K hK; go_simp; refine hK _ ?_; clear hK K)
                    refine q_nil ?_
                    intro w7 hw7
                    have h7 : Hid (Below w4.heap.size w4 w7) := hw7.below
                    go_wp2_with fail
                    go_meet
                    case rel => exact ⟨rfl, h7.out⟩
                  · have hl : low pv x.y = false := by rw [hpz]; exact decide_eq_false hy
                    by_cases h3 : m < 1
                    · have z3 : (m : Int) < 1 := by omega
                      have hst : bad = true := by
                        rw [← hbad.out]
                        have h : fitB x.x x.y x.n m = false := by
                          cases hf : fitB x.x x.y x.n m with
                          | false => rfl
                          | true => have := (fit_parts hf).2.2.1; omega
                        rw [h]
                        rfl
                      subst hst
                      clear hbad
                      replace h1 := Lib.hid h1; replace h2 := Lib.hid h2; clear hl hpz
                      replace h3 := Lib.hid h3
                      refine q_region (Class w4) (by kernel_rfl) (by kernel_rfl) (Class.mk_ ((Below.refl _ _).drew)) ?_
                      refine q_val (v := .pointer (some ⟨mb, 0, none⟩)) rfl (fun w' hw' => by go_simp) ?_
                      (intro K hK; go_simp; refine hK _ ?_; clear hK K)
                      refine q_val (v := .int .i64 x.x) rfl (fun w' hw' => by have hc := hM.out w' hw'.below 0 _ rfl; go_simp) ?_
                      (intro K hK; go_simp; refine hK _ ?_; clear hK K)
                      refine q_move rfl (.tmp 5) rfl ?_
                      (intro K hK; go_simp; refine hK _ ?_; clear hK K)
                      refine q_val (v := .bool false) rfl (fun w' hw' => by go_simp) ?_
                      (intro K hK; go_simp; refine hK _ ?_; clear hK K)
                      refine q_move rfl (.tmp 107) rfl ?_
                      (intro K hK; go_simp; refine hK _ ?_; clear hK K)
                      refine q_move rfl (.tmp 5) rfl ?_
                      (intro K hK; go_simp; refine hK _ ?_; clear hK K)
                      refine q_val (v := .pointer (some ⟨mb, 1, none⟩)) rfl (fun w' hw' => by go_simp) ?_
                      (intro K hK; go_simp; refine hK _ ?_; clear hK K)
                      refine q_val (v := .int .i64 x.y) rfl (fun w' hw' => by have hc := hM.out w' hw'.below 1 _ rfl; go_simp) ?_
                      (intro K hK; go_simp; refine hK _ ?_; clear hK K)
                      refine q_fn (v := .int .i64 (bsOf Z x.y)) (args := #[.int .i64 Z, .int .i64 x.y]) rfl _ _ rfl rfl Try.func42 (by kernel_rfl) (by kernel_rfl) (fun w' hw' => (beside17_any Z x.y w').mono (fun e w'' ⟨he, hw⟩ => ⟨he, hw.symm ▸ hw'⟩)) ?_
                      (intro K hK; go_simp; refine hK _ ?_; clear hK K)
                      refine q_val (v := .pointer (some ⟨mb, 2, none⟩)) rfl (fun w' hw' => by go_simp) ?_
                      (intro K hK; go_simp; refine hK _ ?_; clear hK K)
                      refine q_val (v := .slice x.A x.n x.c) rfl (fun w' hw' => by have hc := hM.out w' hw'.below 2 _ rfl; go_simp) ?_
                      (intro K hK; go_simp; refine hK _ ?_; clear hK K)
                      refine q_val (v := .int .i64 (x.n : Int)) rfl (fun w' hw' => by go_simp) ?_
                      (intro K hK; go_simp; refine hK _ ?_; clear hK K)
                      refine q_val (v := .bool false) rfl (fun w' hw' => by go_simp) ?_
                      (intro K hK; go_simp; refine hK _ ?_; clear hK K)
                      refine q_val (v := .bool false) rfl (fun w' hw' => by go_simp) ?_
                      (intro K hK; go_simp; refine hK _ ?_; clear hK K)
                      refine q_move rfl (.tmp 117) rfl ?_
                      (intro K hK; go_simp; refine hK _ ?_; clear hK K)
                      refine q_move rfl (.tmp 7) rfl ?_
                      (intro K hK; go_simp; refine hK _ ?_; clear hK K)
                      refine q_val (v := .bool true) rfl (fun w' hw' => by (go_simp; have := z5.out; omega)) ?_
                      (intro K hK; go_simp; refine hK _ ?_; clear hK K)
                      refine q_move rfl (.tmp 120) rfl ?_
                      (intro K hK; go_simp; refine hK _ ?_; clear hK K)
                      refine q_val (v := .pointer (some ⟨mb, 1, none⟩)) rfl (fun w' hw' => by go_simp) ?_
                      (intro K hK; go_simp; refine hK _ ?_; clear hK K)
                      refine q_val (v := .int .i64 x.y) rfl (fun w' hw' => by have hc := hM.out w' hw'.below 1 _ rfl; go_simp) ?_
                      (intro K hK; go_simp; refine hK _ ?_; clear hK K)
                      refine q_val (v := .pointer (some ⟨w.heap.size, 35, none⟩)) rfl (fun w' hw' => by go_simp) ?_
                      (intro K hK; go_simp; refine hK _ ?_; clear hK K)
                      refine q_val (v := .slice (some ⟨bP, oP, none⟩) n2 c2) rfl (fun w' hw' => by have hc := hC4.out w' hw'.below; go_simp) ?_
                      (intro K hK; go_simp; refine hK _ ?_; clear hK K)
                      refine q_move rfl (.tmp 7) rfl ?_
                      (intro K hK; go_simp; refine hK _ ?_; clear hK K)
                      refine q_val (v := .int .i64 (kp : Int)) rfl (fun w' hw' => by go_simp) ?_
                      (intro K hK; go_simp; refine hK _ ?_; clear hK K)
                      refine q_val (v := .pointer (some ⟨bP, oP + kp * 3, none⟩)) rfl (fun w' hw' => by go_simp) ?_
                      (intro K hK; go_simp; refine hK _ ?_; clear hK K)
                      refine q_val (v := .pointer (some ⟨bP, oP + kp * 3 + 1, none⟩)) rfl (fun w' hw' => by go_simp) ?_
                      (intro K hK; go_simp; refine hK _ ?_; clear hK K)
                      refine q_val (v := .int .i64 zy) rfl (fun w' hw' => by have hc := hzc.out w' (hQ4.out w' hw'.below); go_simp) ?_
                      (intro K hK; go_simp; refine hK _ ?_; clear hK K)
                      refine q_val (v := .bool false) rfl (fun w' hw' => by go_simp) ?_
                      (intro K hK; go_simp; refine hK _ ?_; clear hK K)
                      refine q_val (v := .bool false) rfl (fun w' hw' => by go_simp) ?_
                      (intro K hK; go_simp; refine hK _ ?_; clear hK K)
                      refine q_val (v := .bool false) rfl (fun w' hw' => by go_simp) ?_
                      (intro K hK; go_simp; refine hK _ ?_; clear hK K)
                      refine q_move rfl (.tmp 133) rfl ?_
                      (intro K hK; go_simp; refine hK _ ?_; clear hK K)
                      refine q_move rfl (.tmp 9) rfl ?_
                      (intro K hK; go_simp; refine hK _ ?_; clear hK K)
                      refine q_val (v := .int .i64 (m : Int)) rfl (fun w' hw' => by go_simp) ?_
                      (intro K hK; go_simp; refine hK _ ?_; clear hK K)
                      refine q_val (v := .bool true) rfl (fun w' hw' => by go_simp) ?_
                      (intro K hK; go_simp; refine hK _ ?_; clear hK K)
                      refine q_val (v := .bool true) rfl (fun w' hw' => by go_simp) ?_
                      (intro K hK; go_simp; refine hK _ ?_; clear hK K)
                      refine q_move rfl (.tmp 138) rfl ?_
                      (intro K hK; go_simp; refine hK _ ?_; clear hK K)
                      refine q_skip rfl ?_
                      (intro K hK; go_simp; refine hK _ ?_; clear hK K)
                      refine q_skip rfl ?_
                      (intro K hK; go_simp; refine hK _ ?_; clear hK K)
                      refine q_skip rfl ?_
                      (intro K hK; go_simp; refine hK _ ?_; clear hK K)
                      refine q_val (v := .bool true) rfl (fun w' hw' => by go_simp) ?_
                      (intro K hK; go_simp; refine hK _ ?_; clear hK K)
                      refine q_nil ?_
                      intro w7 hw7
                      have h7 : Hid (Below w4.heap.size w4 w7) := hw7.below
                      go_wp2_with fail
                      go_meet
                      case rel => exact ⟨rfl, h7.out⟩
                    · have z3 : ¬ (m : Int) < 1 := by omega
                      by_cases h4 : 65536 < m
                      · have z4 : (65536 : Int) < (m : Int) := by omega
                        have hst : bad = true := by
                          rw [← hbad.out]
                          have h : fitB x.x x.y x.n m = false := by
                            cases hf : fitB x.x x.y x.n m with
                            | false => rfl
                            | true => have := (fit_parts hf).2.2.2.1; omega
                          rw [h]
                          rfl
                        subst hst
                        clear hbad
                        replace h1 := Lib.hid h1; replace h2 := Lib.hid h2; clear hl hpz
                        replace h3 := Lib.hid h3
                        replace h4 := Lib.hid h4
                        refine q_region (Class w4) (by kernel_rfl) (by kernel_rfl) (Class.mk_ ((Below.refl _ _).drew)) ?_
                        refine q_val (v := .pointer (some ⟨mb, 0, none⟩)) rfl (fun w' hw' => by go_simp) ?_
                        (intro K hK; go_simp; refine hK _ ?_; clear hK K)
                        refine q_val (v := .int .i64 x.x) rfl (fun w' hw' => by have hc := hM.out w' hw'.below 0 _ rfl; go_simp) ?_
                        (intro K hK; go_simp; refine hK _ ?_; clear hK K)
                        refine q_move rfl (.tmp 5) rfl ?_
                        (intro K hK; go_simp; refine hK _ ?_; clear hK K)
                        refine q_val (v := .bool false) rfl (fun w' hw' => by go_simp) ?_
                        (intro K hK; go_simp; refine hK _ ?_; clear hK K)
                        refine q_move rfl (.tmp 107) rfl ?_
                        (intro K hK; go_simp; refine hK _ ?_; clear hK K)
                        refine q_move rfl (.tmp 5) rfl ?_
                        (intro K hK; go_simp; refine hK _ ?_; clear hK K)
                        refine q_val (v := .pointer (some ⟨mb, 1, none⟩)) rfl (fun w' hw' => by go_simp) ?_
                        (intro K hK; go_simp; refine hK _ ?_; clear hK K)
                        refine q_val (v := .int .i64 x.y) rfl (fun w' hw' => by have hc := hM.out w' hw'.below 1 _ rfl; go_simp) ?_
                        (intro K hK; go_simp; refine hK _ ?_; clear hK K)
                        refine q_fn (v := .int .i64 (bsOf Z x.y)) (args := #[.int .i64 Z, .int .i64 x.y]) rfl _ _ rfl rfl Try.func42 (by kernel_rfl) (by kernel_rfl) (fun w' hw' => (beside17_any Z x.y w').mono (fun e w'' ⟨he, hw⟩ => ⟨he, hw.symm ▸ hw'⟩)) ?_
                        (intro K hK; go_simp; refine hK _ ?_; clear hK K)
                        refine q_val (v := .pointer (some ⟨mb, 2, none⟩)) rfl (fun w' hw' => by go_simp) ?_
                        (intro K hK; go_simp; refine hK _ ?_; clear hK K)
                        refine q_val (v := .slice x.A x.n x.c) rfl (fun w' hw' => by have hc := hM.out w' hw'.below 2 _ rfl; go_simp) ?_
                        (intro K hK; go_simp; refine hK _ ?_; clear hK K)
                        refine q_val (v := .int .i64 (x.n : Int)) rfl (fun w' hw' => by go_simp) ?_
                        (intro K hK; go_simp; refine hK _ ?_; clear hK K)
                        refine q_val (v := .bool false) rfl (fun w' hw' => by go_simp) ?_
                        (intro K hK; go_simp; refine hK _ ?_; clear hK K)
                        refine q_val (v := .bool false) rfl (fun w' hw' => by go_simp) ?_
                        (intro K hK; go_simp; refine hK _ ?_; clear hK K)
                        refine q_move rfl (.tmp 117) rfl ?_
                        (intro K hK; go_simp; refine hK _ ?_; clear hK K)
                        refine q_move rfl (.tmp 7) rfl ?_
                        (intro K hK; go_simp; refine hK _ ?_; clear hK K)
                        refine q_val (v := .bool true) rfl (fun w' hw' => by (go_simp; have := z5.out; omega)) ?_
                        (intro K hK; go_simp; refine hK _ ?_; clear hK K)
                        refine q_move rfl (.tmp 120) rfl ?_
                        (intro K hK; go_simp; refine hK _ ?_; clear hK K)
                        refine q_val (v := .pointer (some ⟨mb, 1, none⟩)) rfl (fun w' hw' => by go_simp) ?_
                        (intro K hK; go_simp; refine hK _ ?_; clear hK K)
                        refine q_val (v := .int .i64 x.y) rfl (fun w' hw' => by have hc := hM.out w' hw'.below 1 _ rfl; go_simp) ?_
                        (intro K hK; go_simp; refine hK _ ?_; clear hK K)
                        refine q_val (v := .pointer (some ⟨w.heap.size, 35, none⟩)) rfl (fun w' hw' => by go_simp) ?_
                        (intro K hK; go_simp; refine hK _ ?_; clear hK K)
                        refine q_val (v := .slice (some ⟨bP, oP, none⟩) n2 c2) rfl (fun w' hw' => by have hc := hC4.out w' hw'.below; go_simp) ?_
                        (intro K hK; go_simp; refine hK _ ?_; clear hK K)
                        refine q_move rfl (.tmp 7) rfl ?_
                        (intro K hK; go_simp; refine hK _ ?_; clear hK K)
                        refine q_val (v := .int .i64 (kp : Int)) rfl (fun w' hw' => by go_simp) ?_
                        (intro K hK; go_simp; refine hK _ ?_; clear hK K)
                        refine q_val (v := .pointer (some ⟨bP, oP + kp * 3, none⟩)) rfl (fun w' hw' => by go_simp) ?_
                        (intro K hK; go_simp; refine hK _ ?_; clear hK K)
                        refine q_val (v := .pointer (some ⟨bP, oP + kp * 3 + 1, none⟩)) rfl (fun w' hw' => by go_simp) ?_
                        (intro K hK; go_simp; refine hK _ ?_; clear hK K)
                        refine q_val (v := .int .i64 zy) rfl (fun w' hw' => by have hc := hzc.out w' (hQ4.out w' hw'.below); go_simp) ?_
                        (intro K hK; go_simp; refine hK _ ?_; clear hK K)
                        refine q_val (v := .bool false) rfl (fun w' hw' => by go_simp) ?_
                        (intro K hK; go_simp; refine hK _ ?_; clear hK K)
                        refine q_val (v := .bool false) rfl (fun w' hw' => by go_simp) ?_
                        (intro K hK; go_simp; refine hK _ ?_; clear hK K)
                        refine q_val (v := .bool false) rfl (fun w' hw' => by go_simp) ?_
                        (intro K hK; go_simp; refine hK _ ?_; clear hK K)
                        refine q_move rfl (.tmp 133) rfl ?_
                        (intro K hK; go_simp; refine hK _ ?_; clear hK K)
                        refine q_move rfl (.tmp 9) rfl ?_
                        (intro K hK; go_simp; refine hK _ ?_; clear hK K)
                        refine q_val (v := .int .i64 (m : Int)) rfl (fun w' hw' => by go_simp) ?_
                        (intro K hK; go_simp; refine hK _ ?_; clear hK K)
                        refine q_val (v := .bool false) rfl (fun w' hw' => by go_simp) ?_
                        (intro K hK; go_simp; refine hK _ ?_; clear hK K)
                        refine q_val (v := .bool false) rfl (fun w' hw' => by go_simp) ?_
                        (intro K hK; go_simp; refine hK _ ?_; clear hK K)
                        refine q_move rfl (.tmp 138) rfl ?_
                        (intro K hK; go_simp; refine hK _ ?_; clear hK K)
                        refine q_move rfl (.tmp 9) rfl ?_
                        (intro K hK; go_simp; refine hK _ ?_; clear hK K)
                        refine q_val (v := .int .i64 (m : Int)) rfl (fun w' hw' => by go_simp) ?_
                        (intro K hK; go_simp; refine hK _ ?_; clear hK K)
                        refine q_val (v := .bool true) rfl (fun w' hw' => by go_simp) ?_
                        (intro K hK; go_simp; refine hK _ ?_; clear hK K)
                        refine q_val (v := .bool true) rfl (fun w' hw' => by go_simp) ?_
                        (intro K hK; go_simp; refine hK _ ?_; clear hK K)
                        refine q_nil ?_
                        intro w7 hw7
                        have h7 : Hid (Below w4.heap.size w4 w7) := hw7.below
                        go_wp2_with fail
                        go_meet
                        case rel => exact ⟨rfl, h7.out⟩
                      · have z4 : ¬ (65536 : Int) < (m : Int) := by omega
                        have hst : bad = false := by
                          rw [← hbad.out]
                          have h : fitB x.x x.y x.n m = true := by
                            obtain ⟨f1, f2⟩ := bs_eq.1 h2
                            rw [← h1] at f1 f2
                            unfold fitB
                            rw [f1, f2, decide_eq_true (show 1 ≤ m by omega), decide_eq_true (show m ≤ 65536 by omega)]
                            simp
                          rw [h, hl, decide_eq_true h1]
                          rfl
                        subst hst
                        clear hbad
                        replace h1 := Lib.hid h1; replace h2 := Lib.hid h2; clear hl hpz
                        replace h3 := Lib.hid h3
                        replace h4 := Lib.hid h4
                        refine q_region (Class w4) (by kernel_rfl) (by kernel_rfl) (Class.mk_ ((Below.refl _ _).drew)) ?_
                        refine q_val (v := .pointer (some ⟨mb, 0, none⟩)) rfl (fun w' hw' => by go_simp) ?_
                        (intro K hK; go_simp; refine hK _ ?_; clear hK K)
                        refine q_val (v := .int .i64 x.x) rfl (fun w' hw' => by have hc := hM.out w' hw'.below 0 _ rfl; go_simp) ?_
                        (intro K hK; go_simp; refine hK _ ?_; clear hK K)
                        refine q_move rfl (.tmp 5) rfl ?_
                        (intro K hK; go_simp; refine hK _ ?_; clear hK K)
                        refine q_val (v := .bool false) rfl (fun w' hw' => by go_simp) ?_
                        (intro K hK; go_simp; refine hK _ ?_; clear hK K)
                        refine q_move rfl (.tmp 107) rfl ?_
                        (intro K hK; go_simp; refine hK _ ?_; clear hK K)
                        refine q_move rfl (.tmp 5) rfl ?_
                        (intro K hK; go_simp; refine hK _ ?_; clear hK K)
                        refine q_val (v := .pointer (some ⟨mb, 1, none⟩)) rfl (fun w' hw' => by go_simp) ?_
                        (intro K hK; go_simp; refine hK _ ?_; clear hK K)
                        refine q_val (v := .int .i64 x.y) rfl (fun w' hw' => by have hc := hM.out w' hw'.below 1 _ rfl; go_simp) ?_
                        (intro K hK; go_simp; refine hK _ ?_; clear hK K)
                        refine q_fn (v := .int .i64 (bsOf Z x.y)) (args := #[.int .i64 Z, .int .i64 x.y]) rfl _ _ rfl rfl Try.func42 (by kernel_rfl) (by kernel_rfl) (fun w' hw' => (beside17_any Z x.y w').mono (fun e w'' ⟨he, hw⟩ => ⟨he, hw.symm ▸ hw'⟩)) ?_
                        (intro K hK; go_simp; refine hK _ ?_; clear hK K)
                        refine q_val (v := .pointer (some ⟨mb, 2, none⟩)) rfl (fun w' hw' => by go_simp) ?_
                        (intro K hK; go_simp; refine hK _ ?_; clear hK K)
                        refine q_val (v := .slice x.A x.n x.c) rfl (fun w' hw' => by have hc := hM.out w' hw'.below 2 _ rfl; go_simp) ?_
                        (intro K hK; go_simp; refine hK _ ?_; clear hK K)
                        refine q_val (v := .int .i64 (x.n : Int)) rfl (fun w' hw' => by go_simp) ?_
                        (intro K hK; go_simp; refine hK _ ?_; clear hK K)
                        refine q_val (v := .bool false) rfl (fun w' hw' => by go_simp) ?_
                        (intro K hK; go_simp; refine hK _ ?_; clear hK K)
                        refine q_val (v := .bool false) rfl (fun w' hw' => by go_simp) ?_
                        (intro K hK; go_simp; refine hK _ ?_; clear hK K)
                        refine q_move rfl (.tmp 117) rfl ?_
                        (intro K hK; go_simp; refine hK _ ?_; clear hK K)
                        refine q_move rfl (.tmp 7) rfl ?_
                        (intro K hK; go_simp; refine hK _ ?_; clear hK K)
                        refine q_val (v := .bool true) rfl (fun w' hw' => by (go_simp; have := z5.out; omega)) ?_
                        (intro K hK; go_simp; refine hK _ ?_; clear hK K)
                        refine q_move rfl (.tmp 120) rfl ?_
                        (intro K hK; go_simp; refine hK _ ?_; clear hK K)
                        refine q_val (v := .pointer (some ⟨mb, 1, none⟩)) rfl (fun w' hw' => by go_simp) ?_
                        (intro K hK; go_simp; refine hK _ ?_; clear hK K)
                        refine q_val (v := .int .i64 x.y) rfl (fun w' hw' => by have hc := hM.out w' hw'.below 1 _ rfl; go_simp) ?_
                        (intro K hK; go_simp; refine hK _ ?_; clear hK K)
                        refine q_val (v := .pointer (some ⟨w.heap.size, 35, none⟩)) rfl (fun w' hw' => by go_simp) ?_
                        (intro K hK; go_simp; refine hK _ ?_; clear hK K)
                        refine q_val (v := .slice (some ⟨bP, oP, none⟩) n2 c2) rfl (fun w' hw' => by have hc := hC4.out w' hw'.below; go_simp) ?_
                        (intro K hK; go_simp; refine hK _ ?_; clear hK K)
                        refine q_move rfl (.tmp 7) rfl ?_
                        (intro K hK; go_simp; refine hK _ ?_; clear hK K)
                        refine q_val (v := .int .i64 (kp : Int)) rfl (fun w' hw' => by go_simp) ?_
                        (intro K hK; go_simp; refine hK _ ?_; clear hK K)
                        refine q_val (v := .pointer (some ⟨bP, oP + kp * 3, none⟩)) rfl (fun w' hw' => by go_simp) ?_
                        (intro K hK; go_simp; refine hK _ ?_; clear hK K)
                        refine q_val (v := .pointer (some ⟨bP, oP + kp * 3 + 1, none⟩)) rfl (fun w' hw' => by go_simp) ?_
                        (intro K hK; go_simp; refine hK _ ?_; clear hK K)
                        refine q_val (v := .int .i64 zy) rfl (fun w' hw' => by have hc := hzc.out w' (hQ4.out w' hw'.below); go_simp) ?_
                        (intro K hK; go_simp; refine hK _ ?_; clear hK K)
                        refine q_val (v := .bool false) rfl (fun w' hw' => by go_simp) ?_
                        (intro K hK; go_simp; refine hK _ ?_; clear hK K)
                        refine q_val (v := .bool false) rfl (fun w' hw' => by go_simp) ?_
                        (intro K hK; go_simp; refine hK _ ?_; clear hK K)
                        refine q_val (v := .bool false) rfl (fun w' hw' => by go_simp) ?_
                        (intro K hK; go_simp; refine hK _ ?_; clear hK K)
                        refine q_move rfl (.tmp 133) rfl ?_
                        (intro K hK; go_simp; refine hK _ ?_; clear hK K)
                        refine q_move rfl (.tmp 9) rfl ?_
                        (intro K hK; go_simp; refine hK _ ?_; clear hK K)
                        refine q_val (v := .int .i64 (m : Int)) rfl (fun w' hw' => by go_simp) ?_
                        (intro K hK; go_simp; refine hK _ ?_; clear hK K)
                        refine q_val (v := .bool false) rfl (fun w' hw' => by go_simp) ?_
                        (intro K hK; go_simp; refine hK _ ?_; clear hK K)
                        refine q_val (v := .bool false) rfl (fun w' hw' => by go_simp) ?_
                        (intro K hK; go_simp; refine hK _ ?_; clear hK K)
                        refine q_move rfl (.tmp 138) rfl ?_
                        (intro K hK; go_simp; refine hK _ ?_; clear hK K)
                        refine q_move rfl (.tmp 9) rfl ?_
                        (intro K hK; go_simp; refine hK _ ?_; clear hK K)
                        refine q_val (v := .int .i64 (m : Int)) rfl (fun w' hw' => by go_simp) ?_
                        (intro K hK; go_simp; refine hK _ ?_; clear hK K)
                        refine q_val (v := .bool false) rfl (fun w' hw' => by go_simp) ?_
                        (intro K hK; go_simp; refine hK _ ?_; clear hK K)
                        refine q_val (v := .bool false) rfl (fun w' hw' => by go_simp) ?_
                        (intro K hK; go_simp; refine hK _ ?_; clear hK K)
                        refine q_nil ?_
                        intro w7 hw7
                        have h7 : Hid (Below w4.heap.size w4 w7) := hw7.below
                        go_wp2_with fail
                        go_meet
                        case rel => exact ⟨rfl, h7.out⟩
              · have z2 : (bsOf Z x.y != (x.n : Int)) = true := by rw [bne, beq_eq_false_iff_ne.2 h2]; rfl
                have hst : bad = true := by
                  rw [← hbad.out]
                  have h : fitB x.x x.y x.n m = false := by
                    cases hf : fitB x.x x.y x.n m with
                    | false => rfl
                    | true =>
                      obtain ⟨f1, f2, -⟩ := fit_parts hf
                      rw [h1] at f1 f2
                      exact absurd (bs_eq.2 ⟨f1, f2⟩) h2
                  rw [h]
                  rfl
                subst hst
                clear hbad
                replace h1 := Lib.hid h1
                replace h2 := Lib.hid h2
                refine q_region (Class w4) (by kernel_rfl) (by kernel_rfl) (Class.mk_ ((Below.refl _ _).drew)) ?_
                refine q_val (v := .pointer (some ⟨mb, 0, none⟩)) rfl (fun w' hw' => by go_simp) ?_
                (intro K hK; go_simp; refine hK _ ?_; clear hK K)
                refine q_val (v := .int .i64 x.x) rfl (fun w' hw' => by have hc := hM.out w' hw'.below 0 _ rfl; go_simp) ?_
                (intro K hK; go_simp; refine hK _ ?_; clear hK K)
                refine q_move rfl (.tmp 5) rfl ?_
                (intro K hK; go_simp; refine hK _ ?_; clear hK K)
                refine q_val (v := .bool false) rfl (fun w' hw' => by go_simp) ?_
                (intro K hK; go_simp; refine hK _ ?_; clear hK K)
                refine q_move rfl (.tmp 107) rfl ?_
                (intro K hK; go_simp; refine hK _ ?_; clear hK K)
                refine q_move rfl (.tmp 5) rfl ?_
                (intro K hK; go_simp; refine hK _ ?_; clear hK K)
                refine q_val (v := .pointer (some ⟨mb, 1, none⟩)) rfl (fun w' hw' => by go_simp) ?_
                (intro K hK; go_simp; refine hK _ ?_; clear hK K)
                refine q_val (v := .int .i64 x.y) rfl (fun w' hw' => by have hc := hM.out w' hw'.below 1 _ rfl; go_simp) ?_
                (intro K hK; go_simp; refine hK _ ?_; clear hK K)
                refine q_fn (v := .int .i64 (bsOf Z x.y)) (args := #[.int .i64 Z, .int .i64 x.y]) rfl _ _ rfl rfl Try.func42 (by kernel_rfl) (by kernel_rfl) (fun w' hw' => (beside17_any Z x.y w').mono (fun e w'' ⟨he, hw⟩ => ⟨he, hw.symm ▸ hw'⟩)) ?_
                (intro K hK; go_simp; refine hK _ ?_; clear hK K)
                refine q_val (v := .pointer (some ⟨mb, 2, none⟩)) rfl (fun w' hw' => by go_simp) ?_
                (intro K hK; go_simp; refine hK _ ?_; clear hK K)
                refine q_val (v := .slice x.A x.n x.c) rfl (fun w' hw' => by have hc := hM.out w' hw'.below 2 _ rfl; go_simp) ?_
                (intro K hK; go_simp; refine hK _ ?_; clear hK K)
                refine q_val (v := .int .i64 (x.n : Int)) rfl (fun w' hw' => by go_simp) ?_
                (intro K hK; go_simp; refine hK _ ?_; clear hK K)
                refine q_val (v := .bool true) rfl (fun w' hw' => by go_simp) ?_
                (intro K hK; go_simp; refine hK _ ?_; clear hK K)
                refine q_val (v := .bool true) rfl (fun w' hw' => by go_simp) ?_
                (intro K hK; go_simp; refine hK _ ?_; clear hK K)
                refine q_move rfl (.tmp 117) rfl ?_
                (intro K hK; go_simp; refine hK _ ?_; clear hK K)
                refine q_skip rfl ?_
                (intro K hK; go_simp; refine hK _ ?_; clear hK K)
                refine q_skip rfl ?_
                (intro K hK; go_simp; refine hK _ ?_; clear hK K)
                refine q_skip rfl ?_
                (intro K hK; go_simp; refine hK _ ?_; clear hK K)
                refine q_skip rfl ?_
                (intro K hK; go_simp; refine hK _ ?_; clear hK K)
                refine q_skip rfl ?_
                (intro K hK; go_simp; refine hK _ ?_; clear hK K)
                refine q_skip rfl ?_
                (intro K hK; go_simp; refine hK _ ?_; clear hK K)
                refine q_skip rfl ?_
                (intro K hK; go_simp; refine hK _ ?_; clear hK K)
                refine q_skip rfl ?_
                (intro K hK; go_simp; refine hK _ ?_; clear hK K)
                refine q_skip rfl ?_
                (intro K hK; go_simp; refine hK _ ?_; clear hK K)
                refine q_skip rfl ?_
                (intro K hK; go_simp; refine hK _ ?_; clear hK K)
                refine q_skip rfl ?_
                (intro K hK; go_simp; refine hK _ ?_; clear hK K)
                refine q_skip rfl ?_
                (intro K hK; go_simp; refine hK _ ?_; clear hK K)
                refine q_skip rfl ?_
                (intro K hK; go_simp; refine hK _ ?_; clear hK K)
                refine q_skip rfl ?_
                (intro K hK; go_simp; refine hK _ ?_; clear hK K)
                refine q_val (v := .bool true) rfl (fun w' hw' => by go_simp) ?_
                (intro K hK; go_simp; refine hK _ ?_; clear hK K)
                refine q_move rfl (.tmp 133) rfl ?_
                (intro K hK; go_simp; refine hK _ ?_; clear hK K)
                refine q_skip rfl ?_
                (intro K hK; go_simp; refine hK _ ?_; clear hK K)
                refine q_skip rfl ?_
                (intro K hK; go_simp; refine hK _ ?_; clear hK K)
                refine q_skip rfl ?_
                (intro K hK; go_simp; refine hK _ ?_; clear hK K)
                refine q_val (v := .bool true) rfl (fun w' hw' => by go_simp) ?_
                (intro K hK; go_simp; refine hK _ ?_; clear hK K)
                refine q_move rfl (.tmp 138) rfl ?_
                (intro K hK; go_simp; refine hK _ ?_; clear hK K)
                refine q_skip rfl ?_
                (intro K hK; go_simp; refine hK _ ?_; clear hK K)
                refine q_skip rfl ?_
                (intro K hK; go_simp; refine hK _ ?_; clear hK K)
                refine q_skip rfl ?_
                (intro K hK; go_simp; refine hK _ ?_; clear hK K)
                refine q_val (v := .bool true) rfl (fun w' hw' => by go_simp) ?_
                (intro K hK; go_simp; refine hK _ ?_; clear hK K)
                refine q_nil ?_
                intro w7 hw7
                have h7 : Hid (Below w4.heap.size w4 w7) := hw7.below
                go_wp2_with fail
                go_meet
                case rel => exact ⟨rfl, h7.out⟩
            · have z1 : (x.x != Z) = true := by simp; exact h1
              have hst : bad = true := by
                rw [← hbad.out]
                rw [decide_eq_false h1]
                simp
              subst hst
              clear hbad
              replace h1 := Lib.hid h1
              refine q_region (Class w4) (by kernel_rfl) (by kernel_rfl) (Class.mk_ ((Below.refl _ _).drew)) ?_
              refine q_val (v := .pointer (some ⟨mb, 0, none⟩)) rfl (fun w' hw' => by go_simp) ?_
              (intro K hK; go_simp; refine hK _ ?_; clear hK K)
              refine q_val (v := .int .i64 x.x) rfl (fun w' hw' => by have hc := hM.out w' hw'.below 0 _ rfl; go_simp) ?_
              (intro K hK; go_simp; refine hK _ ?_; clear hK K)
              refine q_move rfl (.tmp 5) rfl ?_
              (intro K hK; go_simp; refine hK _ ?_; clear hK K)
              refine q_val (v := .bool true) rfl (fun w' hw' => by go_simp) ?_
              (intro K hK; go_simp; refine hK _ ?_; clear hK K)
              refine q_move rfl (.tmp 107) rfl ?_
              (intro K hK; go_simp; refine hK _ ?_; clear hK K)
              refine q_skip rfl ?_
              (intro K hK; go_simp; refine hK _ ?_; clear hK K)
              refine q_skip rfl ?_
              (intro K hK; go_simp; refine hK _ ?_; clear hK K)
              refine q_skip rfl ?_
              (intro K hK; go_simp; refine hK _ ?_; clear hK K)
              refine q_skip rfl ?_
              (intro K hK; go_simp; refine hK _ ?_; clear hK K)
              refine q_skip rfl ?_
              (intro K hK; go_simp; refine hK _ ?_; clear hK K)
              refine q_skip rfl ?_
              (intro K hK; go_simp; refine hK _ ?_; clear hK K)
              refine q_skip rfl ?_
              (intro K hK; go_simp; refine hK _ ?_; clear hK K)
              refine q_skip rfl ?_
              (intro K hK; go_simp; refine hK _ ?_; clear hK K)
              refine q_val (v := .bool true) rfl (fun w' hw' => by go_simp) ?_
              (intro K hK; go_simp; refine hK _ ?_; clear hK K)
              refine q_move rfl (.tmp 117) rfl ?_
              (intro K hK; go_simp; refine hK _ ?_; clear hK K)
              refine q_skip rfl ?_
              (intro K hK; go_simp; refine hK _ ?_; clear hK K)
              refine q_skip rfl ?_
              (intro K hK; go_simp; refine hK _ ?_; clear hK K)
              refine q_skip rfl ?_
              (intro K hK; go_simp; refine hK _ ?_; clear hK K)
              refine q_skip rfl ?_
              (intro K hK; go_simp; refine hK _ ?_; clear hK K)
              refine q_skip rfl ?_
              (intro K hK; go_simp; refine hK _ ?_; clear hK K)
              refine q_skip rfl ?_
              (intro K hK; go_simp; refine hK _ ?_; clear hK K)
              refine q_skip rfl ?_
              (intro K hK; go_simp; refine hK _ ?_; clear hK K)
              refine q_skip rfl ?_
              (intro K hK; go_simp; refine hK _ ?_; clear hK K)
              refine q_skip rfl ?_
              (intro K hK; go_simp; refine hK _ ?_; clear hK K)
              refine q_skip rfl ?_
              (intro K hK; go_simp; refine hK _ ?_; clear hK K)
              refine q_skip rfl ?_
              (intro K hK; go_simp; refine hK _ ?_; clear hK K)
              refine q_skip rfl ?_
              (intro K hK; go_simp; refine hK _ ?_; clear hK K)
              refine q_skip rfl ?_
              (intro K hK; go_simp; refine hK _ ?_; clear hK K)
              refine q_skip rfl ?_
              (intro K hK; go_simp; refine hK _ ?_; clear hK K)
              refine q_val (v := .bool true) rfl (fun w' hw' => by go_simp) ?_
              (intro K hK; go_simp; refine hK _ ?_; clear hK K)
              refine q_move rfl (.tmp 133) rfl ?_
              (intro K hK; go_simp; refine hK _ ?_; clear hK K)
              refine q_skip rfl ?_
              (intro K hK; go_simp; refine hK _ ?_; clear hK K)
              refine q_skip rfl ?_
              (intro K hK; go_simp; refine hK _ ?_; clear hK K)
              refine q_skip rfl ?_
              (intro K hK; go_simp; refine hK _ ?_; clear hK K)
              refine q_val (v := .bool true) rfl (fun w' hw' => by go_simp) ?_
              (intro K hK; go_simp; refine hK _ ?_; clear hK K)
              refine q_move rfl (.tmp 138) rfl ?_
              (intro K hK; go_simp; refine hK _ ?_; clear hK K)
              refine q_skip rfl ?_
              (intro K hK; go_simp; refine hK _ ?_; clear hK K)
              refine q_skip rfl ?_
              (intro K hK; go_simp; refine hK _ ?_; clear hK K)
              refine q_skip rfl ?_
              (intro K hK; go_simp; refine hK _ ?_; clear hK K)
              refine q_val (v := .bool true) rfl (fun w' hw' => by go_simp) ?_
              (intro K hK; go_simp; refine hK _ ?_; clear hK K)
              refine q_nil ?_
              intro w7 hw7
              have h7 : Hid (Below w4.heap.size w4 w7) := hw7.below
              go_wp2_with fail
              go_meet
              case rel => exact ⟨rfl, h7.out⟩
          case rest =>
            obtain ⟨rfl, hb5⟩ := hcut
            obtain ⟨w5, rfl⟩ : ∃ w5, w5 = wc := ⟨_, rfl⟩
            have hb5w : Hid (Below w2.heap.size w2 w5) := hb4w.out.trans (hb5.out.mono hb4w.out.size)
            cases bad with
            | true =>
              have hXn := Lib.hid (hXg.out (by rw [hgs.out]; rfl))
              have hbe := Lib.hid (hwB.out w5 hb5w.out)
              clear hXg hXf hXy hgs hstep
              go_wp2_with fail
              go_ret
              exact RPost.none_ rfl hXn.out hbe.out
            | false =>
              have hfx2 := hbad.out
              simp only [Bool.not_eq_false', Bool.and_eq_true, decide_eq_true_eq, Bool.not_eq_true'] at hfx2
              obtain ⟨hfit, hxZ, hlo⟩ := hfx2
              obtain ⟨-, -, hm1, hm6, hxn40, -, -, -, -⟩ := fit_parts hfit
              have hst : Hid (T ++ be8i x.y ++ be4 m ++ q ++ x.ds.flatten = T12 ++ rowsB ((rowsOf es ps).take (i + 1))) := by
                rcases hstep.out with h | h
                · exact h
                · cases h
              have hO5 : Hid (w5.ownsRow w2.heap.size 5 1 (.slice A' k c') k (cells8 T)) := Own.own_below hO4.out hb5.out
              have hM5 : Hid (∀ w', Below w5.heap.size w5 w' → ∀ j u, x.cells[j]? = some u → w'.cell? ⟨mb, j, none⟩ = some u) := fun w' hb => hM.out w' (hb5.out.trans (hb.mono hb5.out.size))
              have hM2 : Hid (∀ w', Below w2.heap.size w2 w' → w5.heap.size ≤ w'.heap.size → True) := fun _ _ _ => trivial
              have cy : w5.cell? ⟨mb, 1, none⟩ = some (.int .i64 x.y) := hM5.out w5 (Below.refl _ _) 1 _ rfl
              have hm6I : (m : Int) ≤ 65536 := by omega
              have hk21I : (k : Int) ≤ 2097152 := by have := hk21.out; omega
              obtain ⟨S1, hS1⟩ : ∃ S, Hid (T ++ be8i x.y = S) := ⟨_, Lib.hid rfl⟩
              obtain ⟨S2, hS2⟩ : ∃ S, Hid (S1 ++ be4 m = S) := ⟨_, Lib.hid rfl⟩
              obtain ⟨S3, hS3⟩ : ∃ S, Hid (S2 ++ q = S) := ⟨_, Lib.hid rfl⟩
              have hst3 : Hid (S3 ++ x.ds.flatten = T12 ++ rowsB ((rowsOf es ps).take (i + 1))) := by show _ = _; rw [← hS3.out, ← hS2.out, ← hS1.out]; exact hst.out
              have hk3 := hk21.out
              replace hk21 := Lib.hid hk21.out
              replace hfit := Lib.hid hfit
              replace hxZ := Lib.hid hxZ
              replace hlo := Lib.hid hlo
              clear hst hstep hO4 hM hQ4 hC4 hO hbad hM2
              have hmb : mb < w5.heap.size := Nat.lt_of_lt_of_le hB4.out.lt hb5.out.size
              have hKm : Hid (∀ w', Kept (· ≠ mb) w5 w' → ∀ j u, x.cells[j]? = some u → w'.cell? ⟨mb, j, none⟩ = some u) := fun w' hk j u hu => (hk.cell (p := ⟨mb, j, none⟩) hmb (fun h => h rfl)).trans (hM5.out w5 (Below.refl _ _) j u hu)
              have hne5 : Hid (∀ k', Value.ownBlock (.slice A' k c') = some k' → k' ≠ mb) := hne0
              have hk5 : Hid (Kept (· ≠ mb) w5 w5) := Kept.refl _ _
              obtain ⟨KK, hKK⟩ : ∃ K, Hid (k + 12 + m + 32 * x.n = K) := ⟨_, Lib.hid rfl⟩
              clear hM5
              go_upto_region 20 with (first
                | (go_at_call 30; have tok := hO5; refine (eight_all (x.y) _).mono ?_; rintro e w20 ⟨rfl, hl, ho⟩; have hb20 : Hid (Below w2.heap.size w2 w20) := hb5w.out.trans (hl.mono hb5w.out.size); have hO20 := Lib.hid (own_below hO5.out hl); obtain ⟨Al, cl, el, -, -, hrl20, -⟩ := own_reads ho; injection el with el1 el2 el3; subst el1 el3; replace hrl20 := Lib.hid hrl20; have hk20 : Hid (Kept (· ≠ mb) w5 w20) := hk5.out.trans (Kept.of_below (S := (· ≠ mb)) hl) (fun _ _ h => h); clear tok hl ho hO5 cy)
                | ((with_reducible change wpList _ _ _ ({ dst := some 148, op := _, type := _, pos := _, after := _, guard := _ } :: _) _ _); refine wpList_append_src _ (o := ⟨some 148, _, _, _, _, _⟩) rfl (.tmp 144) (.tmp 147) 29 rfl (w2.heap.size) 5 ii0 (.int .u8 0) 1 1 Try.underlying29 hi0 iz0 iz1 iz2 rfl (by decide) (.slice A' k c') (k) (cells8 T) rfl hO20.out (some ⟨w5.heap.size, 0, none⟩) 8 8 (cells8 (be8i x.y)) rfl hrl20.out (fun e => by cases e) (cells8_one _) (by unfold maxLen; omega) (by omega) hb20.out.size ?_; intro v21 w21 hG; obtain ⟨A21, c21, rfl, hO21, hb21, hk21, hne21⟩ := grew_text2 hG hb20.out hb20.out.size hO20.out S1 (hS1.out.symm) (k + 8) (by omega) hk20.out hmb hne5.out; clear hG hO20 hrl20)
                | ((with_reducible change wpList _ _ _ ({ dst := some 166, op := _, type := _, pos := _, after := _, guard := _ } :: _) _ _); refine wpList_append_src _ (o := ⟨some 166, _, _, _, _, _⟩) rfl (.tmp 149) (.tmp 165) 29 rfl (w2.heap.size) 5 ii0 (.int .u8 0) 1 1 Try.underlying29 hi0 iz0 iz1 iz2 rfl (by decide) (.slice A21 (k + 8) c21) (k + 8) (cells8 S1) rfl (own_below hO21.out (Below.heap_below w21 _)) (some ⟨w21.heap.size, 0, none⟩) 4 4 (cells8 (be4 m)) rfl (be4_new w21 m _ _ _ _ (by omega) (by omega) (by omega) (by omega)) (fun e => by cases e) (cells8_one _) (by unfold maxLen; omega) (by omega) (hb21.out.alloc hb21.out.size _).size ?_; intro v22 w22 hG; obtain ⟨A22, c22, rfl, hO22, hb22, hk22, hne22⟩ := grew_text2 hG (hb21.out.alloc hb21.out.size _) (hb21.out.alloc hb21.out.size _).size (own_below hO21.out (Below.heap_below w21 _)) S2 (hS2.out.symm) (k + 12) (by omega) (hk21.out.alloc _) hmb hne21.out; clear hG hO21))
              have s22 : Hid (Below w2.heap.size w2 w22.drew ∧ Kept (· ≠ mb) w5 w22.drew) := ⟨hb22.out.drew, hk22.out.drew⟩
              refine held_start (fun w' => Below w2.heap.size w2 w' ∧ Kept (· ≠ mb) w5 w') 7 rfl (by kernel_rfl) ?_
              refine held_take (i := 0) (v := .slice A22 (k + 12) c22) rfl (by kernel_rfl) (by kernel_rfl) (by kernel_rfl) (fun _ _ _ h => h) s22.out (by rfl) (fun w' hw' => run_mv (.tmp 6) rfl w') ?_
              (intro K hK; go_simp; refine hK _ ?_; clear hK K)
              refine held_take (i := 1) (v := .slice Ae m ce) rfl (by kernel_rfl) (by kernel_rfl) (by kernel_rfl) (fun _ _ _ h => h) s22.out (by rfl) (fun w' hw' => run_mv (.tmp 9) rfl w') ?_
              (intro K hK; go_simp; refine hK _ ?_; clear hK K)
              refine held_take (i := 3) (v := .pointer (some ⟨mb, 2, none⟩)) rfl (by kernel_rfl) (by kernel_rfl) (by kernel_rfl) (fun _ _ _ h => h) s22.out (by rfl) (fun w' hw' => by go_simp) ?_
              (intro K hK; go_simp; refine hK _ ?_; clear hK K)
              refine held_take (i := 4) (v := .slice x.A x.n x.c) rfl (by kernel_rfl) (by kernel_rfl) (by kernel_rfl) (fun _ _ _ h => h) s22.out (by rfl) (fun w' hw' => by have h := hKm.out w' hw'.2 2 _ rfl; go_simp) ?_
              (intro K hK; go_simp; refine hK _ ?_; clear hK K)
              refine held_only (i := 2) rfl (by kernel_rfl) (by rfl) (fun K hK => ?_)
              refine wp_append_src _ (.tmp 167) (.tmp 168) 29 rfl w2.heap.size 5 ii0 (.int .u8 0) 1 1 Try.underlying29 hi0 iz0 iz1 iz2 rfl (by decide) (.slice A22 (k + 12) c22) (k + 12) (cells8 S2) rfl hO22.out Ae m ce (cells8 q) rfl (hrq.out _ (hwB.out _ s22.out.1)) hnq.out (cells8_one _) (by unfold maxLen; omega) (by omega) hb22.out.size ?_
              intro v23 w23 hG
              obtain ⟨A23, c23, rfl, hO23, hb23, hk23, hne23⟩ := grew_text2 hG s22.out.1 s22.out.1.size hO22.out S3 hS3.out.symm (k + 12 + m) rfl s22.out.2 hmb hne22.out
              clear hG
              go_simp
              refine hK _ _ ⟨hb23.out, hk23.out⟩ ?_
              clear hK K
              refine held_only (i := 5) rfl (by kernel_rfl) (by rfl) (fun K hK => ?_)
              refine wp_fn (R := fun v w'' => w''.ownsRow w2.heap.size 5 1 v KK (cells8 (T12 ++ rowsB ((rowsOf es ps).take (i + 1)))) ∧ Below w2.heap.size w23 w'' ∧ Kept (· ≠ mb) w23 w'') (args := #[.slice A23 (k + 12 + m) c23, .slice x.A x.n x.c]) _ _ rfl rfl Try.func31 (by kernel_rfl) (by kernel_rfl) ((digests17_mb w2.heap.size S3 (k + 12 + m) A23 c23 x.ds x.n x.A x.c w23 hb23.out.size hO23.out (hrw.out w23 (hwB.out _ hb23.out)) hAlt.out (by omega) mb (Nat.lt_of_lt_of_le hmb hk23.out.size) hne23.out).mono fun e w'' ⟨v, he, ho, hb, hkm⟩ => ⟨_, he, by rw [← hst3.out, ← hKK.out]; exact ho, hb, hkm⟩) ?_
              rintro v24 w24 ⟨ho24, h24, hk24⟩
              obtain ⟨A24, c24, rfl, -⟩ := own_reads ho24
              have hb24 : Hid (Below w2.heap.size w2 w24) := hb23.out.trans h24
              have hk24 := Lib.hid (hk23.out.trans hk24 (fun _ _ h => h))
              have hO24 := Lib.hid ho24
              clear h24 ho24
              go_simp
              refine hK _ _ ⟨hb24.out, hk24.out⟩ ?_
              clear hK K
              refine held_only (i := 6) rfl (by kernel_rfl) (by rfl) (fun K hK => ?_)
              go_simp
              refine hK _ _ ⟨hb24.out, hk24.out⟩ ?_
              clear hK K
              refine held_end (by kernel_rfl) ?_
              have hKI : (KK : Int) < 9223372036854775807 := by have := hKK.out; omega
              have hbe := Lib.hid (hwB.out w24 hb24.out)
              by_cases hbig : 2097152 < KK
              · have zb : (2097152 : Int) < (KK : Int) := by omega
                have hXn := Lib.hid (hXg.out (by rw [hgs.out, decide_eq_false (show ¬ k + (12 + m + 32 * x.n) ≤ 2097152 by have := hKK.out; omega)]; rfl))
                clear hXg hXf hXy hgs hst3 hbig
                go_wp2_with fail
                go_ret
                exact RPost.none_ rfl hXn.out hbe.out
              · have zb : ¬ (2097152 : Int) < (KK : Int) := by omega
                have hgn : Hid (goodFrom Z (54 + s.size) none (itemsOf es ps) = goodFrom Z KK (some x.y) ((itemsOf es ps).drop (i + 1))) := by
                  show _ = _
                  rw [hgs.out, decide_eq_true (show k + (12 + m + 32 * x.n) ≤ 2097152 by have := hKK.out; omega), hR.out, show k + (12 + m + 32 * x.n) = KK by have := hKK.out; omega]
                  rfl
                have hpn : Hid (some x.y = if i + 1 = 0 then none else (ps[i + 1 - 1]?).map (·.y)) := by show _ = _; rw [if_neg (by omega), Nat.add_sub_cancel, hxi.out]; rfl
                have hln : Hid ((T12 ++ rowsB ((rowsOf es ps).take (i + 1))).length = KK) := by
                  have h := hO24.out.1
                  rw [cells8_len] at h
                  show _ = _
                  omega
                have hKn : Hid (KK ≤ 2097152) := by show _ ≤ _; omega
                have hin : Hid (i + 1 ≤ n2) := by show _ ≤ _; omega
                clear hgs hbig hbe
                go_wp2_with fail
                go_roundw
                case rel => exact ⟨i + 1, KK, A24, c24, _, some x.y, rfl, by go_num, hin.out, hln.out, rfl, hO24.out, hKn.out, hgn.out, hpn.out, hb24.out⟩
                case measure => (have := hin.out; simp [intOf]; omega)
        · obtain rfl : i = n2 := by have := hi.out; omega
          have hz : ¬ (i : Int) < (i : Int) := by omega
          have hbe := Lib.hid (hwB.out wr hW.out)
          have hdn : (itemsOf es ps).drop i = [] := List.drop_eq_nil_of_le (by unfold itemsOf; rw [List.length_zipWith, hn.out, hm.out]; omega)
          have hgt : Hid (goodFrom Z (54 + s.size) none (itemsOf es ps) = true) := by show _ = _; rw [hgd.out, hdn]; rfl
          have hTf : Hid (T = T12 ++ rowsB (rowsOf es ps)) := by
            show _ = _
            rw [hTe.out, List.take_of_length_le (by unfold rowsOf; rw [List.length_zipWith, hn.out, hm.out, Nat.min_self]; exact Nat.le_refl _)]
          have c1 : wr.cell? ⟨w.heap.size, 1, none⟩ = some (.int .i64 F) := hcell.out wr hW.out 1 _ i1.out
          clear hlt hdn hgd hTe
          by_cases hF : Z - (i : Int) < F
          · have hXn := Lib.hid (hXf.out hF)
            have hZb : Hid (1 ≤ Z ∧ Z ≤ 1099511627776) := hZz.out hgt.out
            have zw : IntKind.i64.wrap (Z - (i : Int)) = Z - (i : Int) := IntWalk.i64_in _ (by have := hZb.out; have := hn1000.out; omega)
            clear hXf hXy hXg hgt
            go_wp2_with fail
            go_ret
            exact RPost.none_ rfl hXn.out hbe.out
          · have hXY := Lib.hid (hXy.out hgt.out hF)
            have zw : IntKind.i64.wrap (Z - (i : Int)) = Z - (i : Int) := IntWalk.i64_in _ (by have := hXY.out.2; have := hn1000.out; omega)
            have hfin : Hid (RPost w X (.returned (.slice A' k c')) wr) := by
              obtain ⟨A2', c2', e2, hc2, hnl, hr2, -⟩ := own_reads hO.out
              injection e2 with e3 e4 e5
              subst e3 e5
              refine ⟨A', c', T, by rw [hTk.out], by rw [hTk.out]; exact hr2, fun h => by rw [hTk.out]; exact hnl h, by rw [hTk.out]; exact hc2, .inl ?_, hbe.out⟩
              rw [hXY.out.1, hTf.out]
            clear hXf hXy hXg hgt hXY hO
            go_wp2_with fail
            go_ret
            exact hfin.out
end Go.Proofs.Ytmdkfhfkdcbpgaa.RefPiece
