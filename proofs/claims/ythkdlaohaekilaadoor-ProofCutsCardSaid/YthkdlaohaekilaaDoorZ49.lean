/-
  Texts of the claim, put into one file: RefPieces.
-/
import Derived.Test.YthkdlaohaekilaaDoorZ46
import Derived.Test.YthkdlaohaekilaaDoorZ47
import Derived.Test.YthkdlaohaekilaaDoorZ37
import Derived.Deep.CutBlock

namespace Go.Proofs.YthkdlaohaekilaaDoor.RefPieces
open Go Go.RowKit Go.Proofs.YthkdlaohaekilaaDoor Go.Proofs.YthkdlaohaekilaaDoor.HeadMem Go.Proofs.YthkdlaohaekilaaDoor.Mem Go.Proofs.YthkdlaohaekilaaDoor.Sha Go.Proofs.YthkdlaohaekilaaDoor.Bytes Go.Proofs.YthkdlaohaekilaaDoor.HashMem Go.Proofs.YthkdlaohaekilaaDoor.DigestMem Go.Proofs.YthkdlaohaekilaaDoor.Digest Go.Proofs.YthkdlaohaekilaaDoor.DigestTop Go.Proofs.YthkdlaohaekilaaDoor.Chain Go.Proofs.YthkdlaohaekilaaDoor.Append Go.Proofs.YthkdlaohaekilaaDoor.TreeMem Go.Proofs.YthkdlaohaekilaaDoor.Held Go.Proofs.YthkdlaohaekilaaDoor.Own Go.Proofs.YthkdlaohaekilaaDoor.QuietTail Go.Proofs.YthkdlaohaekilaaDoor.Grown Go.Proofs.YthkdlaohaekilaaDoor.Guard Go.Proofs.YthkdlaohaekilaaDoor.Guard2 Go.Proofs.YthkdlaohaekilaaDoor.Want Go.Proofs.YthkdlaohaekilaaDoor.Plain Go.Proofs.YthkdlaohaekilaaDoor.ProofIdx Go.Proofs.YthkdlaohaekilaaDoor.Book Go.Proofs.YthkdlaohaekilaaDoor.PieceP Go.Proofs.YthkdlaohaekilaaDoor.PieceRow Go.Proofs.YthkdlaohaekilaaDoor.PieceBegins Go.Proofs.YthkdlaohaekilaaDoor.Prs Go.Proofs.YthkdlaohaekilaaDoor.Reach Go.Proofs.YthkdlaohaekilaaDoor.Reach2 Go.Proofs.YthkdlaohaekilaaDoor.PieceLay Go.Proofs.YthkdlaohaekilaaDoor.PieceMem Go.Proofs.YthkdlaohaekilaaDoor.PieceMem2 Go.Proofs.YthkdlaohaekilaaDoor.SamePiece Go.Proofs.YthkdlaohaekilaaDoor.Pcs Go.Proofs.YthkdlaohaekilaaDoor.CutP Go.Proofs.YthkdlaohaekilaaDoor.CutM Go.Proofs.YthkdlaohaekilaaDoor.CutQ Go.Proofs.YthkdlaohaekilaaDoor.CutW Go.Proofs.YthkdlaohaekilaaDoor.PiecesW Go.Proofs.YthkdlaohaekilaaDoor.DigEq Go.Proofs.YthkdlaohaekilaaDoor.RefIncl0 Go.Proofs.YthkdlaohaekilaaDoor.IdxRef0 Go.Proofs.YthkdlaohaekilaaDoor.Beside17 Go.Proofs.YthkdlaohaekilaaDoor.Ref17b Go.Proofs.YthkdlaohaekilaaDoor.RefTop Go.Proofs.YthkdlaohaekilaaDoor.ProofBeside Go.Proofs.YthkdlaohaekilaaDoor.Fill
open Go.Proofs.YthkdlaohaekilaaDoor.RefPiece (bs_eq pr_one digZ qD)
open Go.Proofs.YthkdlaohaekilaaDoor.CutR

set_option maxRecDepth 100000 in
set_option maxHeartbeats 16000000 in
theorem refPieces_any (wd : Int) (hwd : wd < 9223372036854775808) (s : ByteArray) (hs : s.size ≤ 140737488355328) (F : Int) (b : Text) (hb : b.length = 32) (es : List Text) (n : Nat) (hn : es.length = n) (hn6 : n ≤ 1000000) (hsh : ∀ e ∈ es, e.length < 140737488355328) (ps : List Pr) (m : Nat) (hm : ps.length = m) (hm6 : m ≤ 1000000) (hnn : ∀ p ∈ ps, p.n < 140737488355328) (A A2 : Option Addr) (c c2 : Nat) (hnc : n ≤ c) (hmc : m ≤ c2) (w : World) (hp : Pieces w A es) (hq : Prs w A2 ps) :
    Calls Tryd.prog 13 #[.int .i64 wd, .string s, .int .i64 F, .agg (cells8 b).toArray, .slice A n c, .slice A2 m c2] w (RPost w A A2 s es ps (cutsW wd s F b es ps)) := by
  obtain ⟨W, hW⟩ : ∃ W, Hid (cutsW wd s F b es ps = W) := ⟨_, Lib.hid rfl⟩
  rw [hW.out]
  have hB0 : Hid (Blk (w.alloc (.cells (cells8 b).toArray 23)) w.heap.size 23 (cells8 b).toArray) := Blk.new w _ _
  have hb0 : Hid (Below w.heap.size w (w.alloc (.cells (cells8 b).toArray 23))) := Below.heap_below w _
  have hz0 : Hid ((w.alloc (.cells (cells8 b).toArray 23)).heap.size = w.heap.size + 1) := by show _ = _; simp
  have hL0 : Hid (Blk ((w.alloc (.cells (cells8 b).toArray 23)).alloc (.cells Z32 23)) (w.heap.size + 1) 23 Z32) := by
    have := Blk.new (w.alloc (.cells (cells8 b).toArray 23)) 23 Z32
    rw [hz0.out] at this
    exact this
  have sD := Lib.hid (dig_size b hb)
  obtain ⟨stop, hstop⟩ : ∃ x, Hid ((!(decide (n = m ∧ begB s.data.toList F b = true))) = x) := ⟨_, Lib.hid rfl⟩
  have hbad : Hid (¬ (n = m ∧ begB s.data.toList F b = true) → stop = true) := fun h => by rw [← hstop.out, decide_eq_false h]; rfl
  have hgood : Hid (n = m ∧ begB s.data.toList F b = true → stop = false) := fun h => by rw [← hstop.out, decide_eq_true h]; rfl
  have hqn := Lib.hid (fun w' => neq_dig b (List.replicate 32 0) hb (by simp) w')
  obtain ⟨zb, hzb⟩ : ∃ x, Hid ((!decide (b = List.replicate 32 0)) = x) := ⟨_, Lib.hid rfl⟩
  rw [hzb.out] at hqn
  have hZZ : Hid ((cells8 (List.replicate 32 0)).toArray = Z32) := by show _ = _; rfl
  obtain ⟨nb, hnb⟩ : ∃ x, Hid (namedB s.data.toList = x) := ⟨_, Lib.hid rfl⟩
  have hN := Lib.hid (fun w' => named17_any s w')
  rw [hnb.out] at hN
  replace hn := Lib.hid hn
  replace hm := Lib.hid hm
  replace hp := Lib.hid hp
  replace hq := Lib.hid hq
  replace hsh := Lib.hid hsh
  replace hnn := Lib.hid hnn
  replace hb := Lib.hid hb
  replace hs := Lib.hid hs
  replace hwd := Lib.hid hwd
  go_enter Tryd.func13, Tryd.ntmps13
  go_upto_region 2 with ((with_reducible change wpList _ _ _ ({ dst := none, op := Op.store 23 (.tmp 14) _, type := _, pos := _, after := _, guard := _ } :: _) _ _); refine wpList_store_whole0 rfl rfl 23 (.tmp 14) (.tmp 23) rfl ((w.heap.size + 1)) (Z32) rfl rfl 23 (Z32) hL0.out (by kernel_rfl) rfl (by kernel_rfl) ?_; intro w1 hZ1 hk1; have hB1 : Hid (Blk w1 w.heap.size 23 (cells8 b).toArray) := Blk.kept (hB0.out.alloc _) hk1 (by omega); have hb1 : Hid (Below w.heap.size w w1) := (hb0.out.alloc (by have := hz0.out; omega) _).trans (Kept.below_of hk1 (by omega) (by have := hz0.out; simp; omega)); replace hZ1 := Lib.hid hZ1; clear hk1)
  clear hB0 hb0 hL0
  go_cut [46] from 24 to 46 (fun v wr => v = .bool stop ∧ Hid (Below w1.heap.size w1 wr))
  case first =>
    by_cases h0 : n = m
    · have z0 : ((n : Int) != (m : Int)) = false := by simp; omega
      replace h0 := Lib.hid h0
      cases nb with
      | false =>
        have hst : stop = true := hbad.out (fun h => by have h := h.2; unfold begB at h; rw [hnb.out] at h; cases h)
        subst hst
        clear hbad hgood
        refine q_plain (Class w1) (Class.mk_ (Below.refl _ _)) ?_
        refine q_move rfl (.tmp 4) rfl ?_
        (intro K hK; go_simp; refine hK _ ?_; clear hK K)
        refine q_val (v := .int .i64 (n : Int)) rfl (fun w' hw' => by go_simp) ?_
        (intro K hK; go_simp; refine hK _ ?_; clear hK K)
        refine q_move rfl (.tmp 5) rfl ?_
        (intro K hK; go_simp; refine hK _ ?_; clear hK K)
        refine q_val (v := .int .i64 (m : Int)) rfl (fun w' hw' => by go_simp) ?_
        (intro K hK; go_simp; refine hK _ ?_; clear hK K)
        refine q_val (v := .bool false) rfl (fun w' hw' => by go_simp) ?_
        (intro K hK; go_simp; refine hK _ ?_; clear hK K)
        refine q_move rfl (.tmp 28) rfl ?_
        (intro K hK; go_simp; refine hK _ ?_; clear hK K)
        refine q_move rfl (.tmp 1) rfl ?_
        (intro K hK; go_simp; refine hK _ ?_; clear hK K)
        refine q_fn (v := .bool false) (args := #[.string s]) rfl _ _ rfl rfl Tryd.func54 (by kernel_rfl) (by kernel_rfl) (fun w' hw' => (hN.out w').mono (fun e w'' ⟨he, hw⟩ => ⟨he, hw ▸ hw'⟩)) ?_
        (intro K hK; go_simp; refine hK _ ?_; clear hK K)
        refine q_val (v := .bool true) rfl (fun w' hw' => by go_simp) ?_
        (intro K hK; go_simp; refine hK _ ?_; clear hK K)
        refine q_val (v := .bool true) rfl (fun w' hw' => by go_simp) ?_
        (intro K hK; go_simp; refine hK _ ?_; clear hK K)
        refine q_move rfl (.tmp 33) rfl ?_
        (intro K hK; go_simp; refine hK _ ?_; clear hK K)
        refine q_skip rfl ?_
        (intro K hK; go_simp; refine hK _ ?_; clear hK K)
        refine q_skip rfl ?_
        (intro K hK; go_simp; refine hK _ ?_; clear hK K)
        refine q_val (v := .bool true) rfl (fun w' hw' => by go_simp) ?_
        (intro K hK; go_simp; refine hK _ ?_; clear hK K)
        refine q_move rfl (.tmp 37) rfl ?_
        (intro K hK; go_simp; refine hK _ ?_; clear hK K)
        refine q_skip rfl ?_
        (intro K hK; go_simp; refine hK _ ?_; clear hK K)
        refine q_skip rfl ?_
        (intro K hK; go_simp; refine hK _ ?_; clear hK K)
        refine q_skip rfl ?_
        (intro K hK; go_simp; refine hK _ ?_; clear hK K)
        refine q_skip rfl ?_
        (intro K hK; go_simp; refine hK _ ?_; clear hK K)
        refine q_skip rfl ?_
        (intro K hK; go_simp; refine hK _ ?_; clear hK K)
        refine q_skip rfl ?_
        (intro K hK; go_simp; refine hK _ ?_; clear hK K)
        refine q_skip rfl ?_
        (intro K hK; go_simp; refine hK _ ?_; clear hK K)
        refine q_val (v := .bool true) rfl (fun w' hw' => by go_simp) ?_
        (intro K hK; go_simp; refine hK _ ?_; clear hK K)
        refine q_nil ?_
        intro w7 hw7
        have h7 : Hid (Below w1.heap.size w1 w7) := hw7.below
        go_wp2_with fail
        go_meet
        case rel => exact ⟨rfl, h7.out⟩
      | true =>
        by_cases h1 : F < 0
        · have hst : stop = true := hbad.out (fun h => by have h := h.2; unfold begB at h; simp only [Bool.and_eq_true, decide_eq_true_eq] at h; omega)
          subst hst
          clear hbad hgood
          refine q_plain (Class w1) (Class.mk_ (Below.refl _ _)) ?_
          refine q_move rfl (.tmp 4) rfl ?_
          (intro K hK; go_simp; refine hK _ ?_; clear hK K)
          refine q_val (v := .int .i64 (n : Int)) rfl (fun w' hw' => by go_simp) ?_
          (intro K hK; go_simp; refine hK _ ?_; clear hK K)
          refine q_move rfl (.tmp 5) rfl ?_
          (intro K hK; go_simp; refine hK _ ?_; clear hK K)
          refine q_val (v := .int .i64 (m : Int)) rfl (fun w' hw' => by go_simp) ?_
          (intro K hK; go_simp; refine hK _ ?_; clear hK K)
          refine q_val (v := .bool false) rfl (fun w' hw' => by go_simp) ?_
          (intro K hK; go_simp; refine hK _ ?_; clear hK K)
          refine q_move rfl (.tmp 28) rfl ?_
          (intro K hK; go_simp; refine hK _ ?_; clear hK K)
          refine q_move rfl (.tmp 1) rfl ?_
          (intro K hK; go_simp; refine hK _ ?_; clear hK K)
          refine q_fn (v := .bool true) (args := #[.string s]) rfl _ _ rfl rfl Tryd.func54 (by kernel_rfl) (by kernel_rfl) (fun w' hw' => (hN.out w').mono (fun e w'' ⟨he, hw⟩ => ⟨he, hw ▸ hw'⟩)) ?_
          (intro K hK; go_simp; refine hK _ ?_; clear hK K)
          refine q_val (v := .bool false) rfl (fun w' hw' => by go_simp) ?_
          (intro K hK; go_simp; refine hK _ ?_; clear hK K)
          refine q_val (v := .bool false) rfl (fun w' hw' => by go_simp) ?_
          (intro K hK; go_simp; refine hK _ ?_; clear hK K)
          refine q_move rfl (.tmp 33) rfl ?_
          (intro K hK; go_simp; refine hK _ ?_; clear hK K)
          refine q_move rfl (.tmp 2) rfl ?_
          (intro K hK; go_simp; refine hK _ ?_; clear hK K)
          refine q_val (v := .bool true) rfl (fun w' hw' => by go_simp) ?_
          (intro K hK; go_simp; refine hK _ ?_; clear hK K)
          refine q_val (v := .bool true) rfl (fun w' hw' => by go_simp) ?_
          (intro K hK; go_simp; refine hK _ ?_; clear hK K)
          refine q_move rfl (.tmp 37) rfl ?_
          (intro K hK; go_simp; refine hK _ ?_; clear hK K)
          refine q_skip rfl ?_
          (intro K hK; go_simp; refine hK _ ?_; clear hK K)
          refine q_skip rfl ?_
          (intro K hK; go_simp; refine hK _ ?_; clear hK K)
          refine q_skip rfl ?_
          (intro K hK; go_simp; refine hK _ ?_; clear hK K)
          refine q_skip rfl ?_
          (intro K hK; go_simp; refine hK _ ?_; clear hK K)
          refine q_skip rfl ?_
          (intro K hK; go_simp; refine hK _ ?_; clear hK K)
          refine q_skip rfl ?_
          (intro K hK; go_simp; refine hK _ ?_; clear hK K)
          refine q_skip rfl ?_
          (intro K hK; go_simp; refine hK _ ?_; clear hK K)
          refine q_val (v := .bool true) rfl (fun w' hw' => by go_simp) ?_
          (intro K hK; go_simp; refine hK _ ?_; clear hK K)
          refine q_nil ?_
          intro w7 hw7
          have h7 : Hid (Below w1.heap.size w1 w7) := hw7.below
          go_wp2_with fail
          go_meet
          case rel => exact ⟨rfl, h7.out⟩
        · have z1 : ¬ F < 0 := h1
          by_cases h5 : F = 0
          · have z5 : (F == 0) = true := by simp; omega
            replace h5 := Lib.hid h5
            clear h1 z1
            have z1 : ¬ F < 0 := by rw [h5.out]; decide
            cases zb with
            | false =>
              have hbz : b = List.replicate 32 0 := by have h := hzb.out; simpa using h
              have hst : stop = false := hgood.out ⟨h0.out, by unfold begB; rw [hnb.out, hbz, h5.out]; rfl⟩
              subst hst
              clear hbad hgood
              replace hbz := Lib.hid hbz
              refine q_plain (Class w1) (Class.mk_ (Below.refl _ _)) ?_
              refine q_move rfl (.tmp 4) rfl ?_
              (intro K hK; go_simp; refine hK _ ?_; clear hK K)
              refine q_val (v := .int .i64 (n : Int)) rfl (fun w' hw' => by go_simp) ?_
              (intro K hK; go_simp; refine hK _ ?_; clear hK K)
              refine q_move rfl (.tmp 5) rfl ?_
              (intro K hK; go_simp; refine hK _ ?_; clear hK K)
              refine q_val (v := .int .i64 (m : Int)) rfl (fun w' hw' => by go_simp) ?_
              (intro K hK; go_simp; refine hK _ ?_; clear hK K)
              refine q_val (v := .bool false) rfl (fun w' hw' => by go_simp) ?_
              (intro K hK; go_simp; refine hK _ ?_; clear hK K)
              refine q_move rfl (.tmp 28) rfl ?_
              (intro K hK; go_simp; refine hK _ ?_; clear hK K)
              refine q_move rfl (.tmp 1) rfl ?_
              (intro K hK; go_simp; refine hK _ ?_; clear hK K)
              refine q_fn (v := .bool true) (args := #[.string s]) rfl _ _ rfl rfl Tryd.func54 (by kernel_rfl) (by kernel_rfl) (fun w' hw' => (hN.out w').mono (fun e w'' ⟨he, hw⟩ => ⟨he, hw ▸ hw'⟩)) ?_
              (intro K hK; go_simp; refine hK _ ?_; clear hK K)
              refine q_val (v := .bool false) rfl (fun w' hw' => by go_simp) ?_
              (intro K hK; go_simp; refine hK _ ?_; clear hK K)
              refine q_val (v := .bool false) rfl (fun w' hw' => by go_simp) ?_
              (intro K hK; go_simp; refine hK _ ?_; clear hK K)
              refine q_move rfl (.tmp 33) rfl ?_
              (intro K hK; go_simp; refine hK _ ?_; clear hK K)
              refine q_move rfl (.tmp 2) rfl ?_
              (intro K hK; go_simp; refine hK _ ?_; clear hK K)
              refine q_val (v := .bool false) rfl (fun w' hw' => by go_simp) ?_
              (intro K hK; go_simp; refine hK _ ?_; clear hK K)
              refine q_val (v := .bool false) rfl (fun w' hw' => by go_simp) ?_
              (intro K hK; go_simp; refine hK _ ?_; clear hK K)
              refine q_move rfl (.tmp 37) rfl ?_
              (intro K hK; go_simp; refine hK _ ?_; clear hK K)
              refine q_move rfl (.tmp 2) rfl ?_
              (intro K hK; go_simp; refine hK _ ?_; clear hK K)
              refine q_val (v := .bool true) rfl (fun w' hw' => by go_simp) ?_
              (intro K hK; go_simp; refine hK _ ?_; clear hK K)
              refine q_move rfl (.tmp 40) rfl ?_
              (intro K hK; go_simp; refine hK _ ?_; clear hK K)
              refine q_row rfl 23 (.tmp 9) rfl w.heap.size rfl 23 ((cells8 b).toArray) (0, 0) _ (fun w' hw' => (hw'.below.block _ hB1.out.lt).trans hB1.out) Tryd.underlying23 rfl sD.out ?_
              (intro K hK; go_simp; refine hK _ ?_; clear hK K)
              refine q_row rfl 23 (.tmp 14) rfl (w.heap.size + 1) rfl 23 (Z32) (0, 0) _ (fun w' hw' => (hw'.below.block _ hZ1.out.lt).trans hZ1.out) Tryd.underlying23 rfl digZ ?_
              (intro K hK; go_simp; refine hK _ ?_; clear hK K)
              refine q_val (v := .bool false) rfl (fun w' hw' => run_cmp rfl rfl rfl qD (hqn.out w')) ?_
              (intro K hK; go_simp; refine hK _ ?_; clear hK K)
              refine q_val (v := .bool false) rfl (fun w' hw' => by go_simp) ?_
              (intro K hK; go_simp; refine hK _ ?_; clear hK K)
              refine q_val (v := .bool false) rfl (fun w' hw' => by go_simp) ?_
              (intro K hK; go_simp; refine hK _ ?_; clear hK K)
              refine q_nil ?_
              intro w7 hw7
              have h7 : Hid (Below w1.heap.size w1 w7) := hw7.below
              go_wp2_with fail
              go_meet
              case rel => exact ⟨rfl, h7.out⟩
            | true =>
              have hbz : ¬ b = List.replicate 32 0 := by have h := hzb.out; simpa using h
              have hst : stop = true := hbad.out (fun h => by have h := h.2; unfold begB at h; rw [h5.out, decide_eq_false hbz] at h; simp at h)
              subst hst
              clear hbad hgood
              replace hbz := Lib.hid hbz
              refine q_plain (Class w1) (Class.mk_ (Below.refl _ _)) ?_
              refine q_move rfl (.tmp 4) rfl ?_
              (intro K hK; go_simp; refine hK _ ?_; clear hK K)
              refine q_val (v := .int .i64 (n : Int)) rfl (fun w' hw' => by go_simp) ?_
              (intro K hK; go_simp; refine hK _ ?_; clear hK K)
              refine q_move rfl (.tmp 5) rfl ?_
              (intro K hK; go_simp; refine hK _ ?_; clear hK K)
              refine q_val (v := .int .i64 (m : Int)) rfl (fun w' hw' => by go_simp) ?_
              (intro K hK; go_simp; refine hK _ ?_; clear hK K)
              refine q_val (v := .bool false) rfl (fun w' hw' => by go_simp) ?_
              (intro K hK; go_simp; refine hK _ ?_; clear hK K)
              refine q_move rfl (.tmp 28) rfl ?_
              (intro K hK; go_simp; refine hK _ ?_; clear hK K)
              refine q_move rfl (.tmp 1) rfl ?_
              (intro K hK; go_simp; refine hK _ ?_; clear hK K)
              refine q_fn (v := .bool true) (args := #[.string s]) rfl _ _ rfl rfl Tryd.func54 (by kernel_rfl) (by kernel_rfl) (fun w' hw' => (hN.out w').mono (fun e w'' ⟨he, hw⟩ => ⟨he, hw ▸ hw'⟩)) ?_
              (intro K hK; go_simp; refine hK _ ?_; clear hK K)
              refine q_val (v := .bool false) rfl (fun w' hw' => by go_simp) ?_
              (intro K hK; go_simp; refine hK _ ?_; clear hK K)
              refine q_val (v := .bool false) rfl (fun w' hw' => by go_simp) ?_
              (intro K hK; go_simp; refine hK _ ?_; clear hK K)
              refine q_move rfl (.tmp 33) rfl ?_
              (intro K hK; go_simp; refine hK _ ?_; clear hK K)
              refine q_move rfl (.tmp 2) rfl ?_
              (intro K hK; go_simp; refine hK _ ?_; clear hK K)
              refine q_val (v := .bool false) rfl (fun w' hw' => by go_simp) ?_
              (intro K hK; go_simp; refine hK _ ?_; clear hK K)
              refine q_val (v := .bool false) rfl (fun w' hw' => by go_simp) ?_
              (intro K hK; go_simp; refine hK _ ?_; clear hK K)
              refine q_move rfl (.tmp 37) rfl ?_
              (intro K hK; go_simp; refine hK _ ?_; clear hK K)
              refine q_move rfl (.tmp 2) rfl ?_
              (intro K hK; go_simp; refine hK _ ?_; clear hK K)
              refine q_val (v := .bool true) rfl (fun w' hw' => by go_simp) ?_
              (intro K hK; go_simp; refine hK _ ?_; clear hK K)
              refine q_move rfl (.tmp 40) rfl ?_
              (intro K hK; go_simp; refine hK _ ?_; clear hK K)
              refine q_row rfl 23 (.tmp 9) rfl w.heap.size rfl 23 ((cells8 b).toArray) (0, 0) _ (fun w' hw' => (hw'.below.block _ hB1.out.lt).trans hB1.out) Tryd.underlying23 rfl sD.out ?_
              (intro K hK; go_simp; refine hK _ ?_; clear hK K)
              refine q_row rfl 23 (.tmp 14) rfl (w.heap.size + 1) rfl 23 (Z32) (0, 0) _ (fun w' hw' => (hw'.below.block _ hZ1.out.lt).trans hZ1.out) Tryd.underlying23 rfl digZ ?_
              (intro K hK; go_simp; refine hK _ ?_; clear hK K)
              refine q_val (v := .bool true) rfl (fun w' hw' => run_cmp rfl rfl rfl qD (hqn.out w')) ?_
              (intro K hK; go_simp; refine hK _ ?_; clear hK K)
              refine q_val (v := .bool true) rfl (fun w' hw' => by go_simp) ?_
              (intro K hK; go_simp; refine hK _ ?_; clear hK K)
              refine q_val (v := .bool true) rfl (fun w' hw' => by go_simp) ?_
              (intro K hK; go_simp; refine hK _ ?_; clear hK K)
              refine q_nil ?_
              intro w7 hw7
              have h7 : Hid (Below w1.heap.size w1 w7) := hw7.below
              go_wp2_with fail
              go_meet
              case rel => exact ⟨rfl, h7.out⟩
          · have z5 : (F == 0) = false := by simp; omega
            have hst : stop = false := hgood.out ⟨h0.out, by unfold begB; rw [hnb.out, decide_eq_true (show 0 ≤ F by omega), decide_eq_true (show 0 < F by omega)]; rfl⟩
            subst hst
            clear hbad hgood
            replace h5 := Lib.hid h5
            refine q_plain (Class w1) (Class.mk_ (Below.refl _ _)) ?_
            refine q_move rfl (.tmp 4) rfl ?_
            (intro K hK; go_simp; refine hK _ ?_; clear hK K)
            refine q_val (v := .int .i64 (n : Int)) rfl (fun w' hw' => by go_simp) ?_
            (intro K hK; go_simp; refine hK _ ?_; clear hK K)
            refine q_move rfl (.tmp 5) rfl ?_
            (intro K hK; go_simp; refine hK _ ?_; clear hK K)
            refine q_val (v := .int .i64 (m : Int)) rfl (fun w' hw' => by go_simp) ?_
            (intro K hK; go_simp; refine hK _ ?_; clear hK K)
            refine q_val (v := .bool false) rfl (fun w' hw' => by go_simp) ?_
            (intro K hK; go_simp; refine hK _ ?_; clear hK K)
            refine q_move rfl (.tmp 28) rfl ?_
            (intro K hK; go_simp; refine hK _ ?_; clear hK K)
            refine q_move rfl (.tmp 1) rfl ?_
            (intro K hK; go_simp; refine hK _ ?_; clear hK K)
            refine q_fn (v := .bool true) (args := #[.string s]) rfl _ _ rfl rfl Tryd.func54 (by kernel_rfl) (by kernel_rfl) (fun w' hw' => (hN.out w').mono (fun e w'' ⟨he, hw⟩ => ⟨he, hw ▸ hw'⟩)) ?_
            (intro K hK; go_simp; refine hK _ ?_; clear hK K)
            refine q_val (v := .bool false) rfl (fun w' hw' => by go_simp) ?_
            (intro K hK; go_simp; refine hK _ ?_; clear hK K)
            refine q_val (v := .bool false) rfl (fun w' hw' => by go_simp) ?_
            (intro K hK; go_simp; refine hK _ ?_; clear hK K)
            refine q_move rfl (.tmp 33) rfl ?_
            (intro K hK; go_simp; refine hK _ ?_; clear hK K)
            refine q_move rfl (.tmp 2) rfl ?_
            (intro K hK; go_simp; refine hK _ ?_; clear hK K)
            refine q_val (v := .bool false) rfl (fun w' hw' => by go_simp) ?_
            (intro K hK; go_simp; refine hK _ ?_; clear hK K)
            refine q_val (v := .bool false) rfl (fun w' hw' => by go_simp) ?_
            (intro K hK; go_simp; refine hK _ ?_; clear hK K)
            refine q_move rfl (.tmp 37) rfl ?_
            (intro K hK; go_simp; refine hK _ ?_; clear hK K)
            refine q_move rfl (.tmp 2) rfl ?_
            (intro K hK; go_simp; refine hK _ ?_; clear hK K)
            refine q_val (v := .bool false) rfl (fun w' hw' => by go_simp) ?_
            (intro K hK; go_simp; refine hK _ ?_; clear hK K)
            refine q_move rfl (.tmp 40) rfl ?_
            (intro K hK; go_simp; refine hK _ ?_; clear hK K)
            refine q_skip rfl ?_
            (intro K hK; go_simp; refine hK _ ?_; clear hK K)
            refine q_skip rfl ?_
            (intro K hK; go_simp; refine hK _ ?_; clear hK K)
            refine q_skip rfl ?_
            (intro K hK; go_simp; refine hK _ ?_; clear hK K)
            refine q_val (v := .bool false) rfl (fun w' hw' => by go_simp) ?_
            (intro K hK; go_simp; refine hK _ ?_; clear hK K)
            refine q_val (v := .bool false) rfl (fun w' hw' => by go_simp) ?_
            (intro K hK; go_simp; refine hK _ ?_; clear hK K)
            refine q_nil ?_
            intro w7 hw7
            have h7 : Hid (Below w1.heap.size w1 w7) := hw7.below
            go_wp2_with fail
            go_meet
            case rel => exact ⟨rfl, h7.out⟩
    · have z0 : ((n : Int) != (m : Int)) = true := by simp; omega
      have hst : stop = true := hbad.out (fun h => h0 h.1)
      subst hst
      clear hbad hgood
      replace h0 := Lib.hid h0
      refine q_plain (Class w1) (Class.mk_ (Below.refl _ _)) ?_
      refine q_move rfl (.tmp 4) rfl ?_
      (intro K hK; go_simp; refine hK _ ?_; clear hK K)
      refine q_val (v := .int .i64 (n : Int)) rfl (fun w' hw' => by go_simp) ?_
      (intro K hK; go_simp; refine hK _ ?_; clear hK K)
      refine q_move rfl (.tmp 5) rfl ?_
      (intro K hK; go_simp; refine hK _ ?_; clear hK K)
      refine q_val (v := .int .i64 (m : Int)) rfl (fun w' hw' => by go_simp) ?_
      (intro K hK; go_simp; refine hK _ ?_; clear hK K)
      refine q_val (v := .bool true) rfl (fun w' hw' => by go_simp) ?_
      (intro K hK; go_simp; refine hK _ ?_; clear hK K)
      refine q_move rfl (.tmp 28) rfl ?_
      (intro K hK; go_simp; refine hK _ ?_; clear hK K)
      refine q_skip rfl ?_
      (intro K hK; go_simp; refine hK _ ?_; clear hK K)
      refine q_skip rfl ?_
      (intro K hK; go_simp; refine hK _ ?_; clear hK K)
      refine q_skip rfl ?_
      (intro K hK; go_simp; refine hK _ ?_; clear hK K)
      refine q_val (v := .bool true) rfl (fun w' hw' => by go_simp) ?_
      (intro K hK; go_simp; refine hK _ ?_; clear hK K)
      refine q_move rfl (.tmp 33) rfl ?_
      (intro K hK; go_simp; refine hK _ ?_; clear hK K)
      refine q_skip rfl ?_
      (intro K hK; go_simp; refine hK _ ?_; clear hK K)
      refine q_skip rfl ?_
      (intro K hK; go_simp; refine hK _ ?_; clear hK K)
      refine q_val (v := .bool true) rfl (fun w' hw' => by go_simp) ?_
      (intro K hK; go_simp; refine hK _ ?_; clear hK K)
      refine q_move rfl (.tmp 37) rfl ?_
      (intro K hK; go_simp; refine hK _ ?_; clear hK K)
      refine q_skip rfl ?_
      (intro K hK; go_simp; refine hK _ ?_; clear hK K)
      refine q_skip rfl ?_
      (intro K hK; go_simp; refine hK _ ?_; clear hK K)
      refine q_skip rfl ?_
      (intro K hK; go_simp; refine hK _ ?_; clear hK K)
      refine q_skip rfl ?_
      (intro K hK; go_simp; refine hK _ ?_; clear hK K)
      refine q_skip rfl ?_
      (intro K hK; go_simp; refine hK _ ?_; clear hK K)
      refine q_skip rfl ?_
      (intro K hK; go_simp; refine hK _ ?_; clear hK K)
      refine q_skip rfl ?_
      (intro K hK; go_simp; refine hK _ ?_; clear hK K)
      refine q_val (v := .bool true) rfl (fun w' hw' => by go_simp) ?_
      (intro K hK; go_simp; refine hK _ ?_; clear hK K)
      refine q_nil ?_
      intro w7 hw7
      have h7 : Hid (Below w1.heap.size w1 w7) := hw7.below
      go_wp2_with fail
      go_meet
      case rel => exact ⟨rfl, h7.out⟩
  case rest =>
    obtain ⟨rfl, hbc⟩ := hcut
    have hb2 : Hid (Below w.heap.size w wc) := hb1.out.trans (hbc.out.mono hb1.out.size)
    cases stop with
    | true =>
      have hno : Hid (W = none) := by
        show _ = _
        rw [← hW.out]
        unfold cutsW
        rw [if_neg]
        rintro ⟨h1, h2, -⟩
        have := hgood.out ⟨by rw [← hn.out, ← hm.out]; exact h1, h2⟩
        cases this
      go_wp2_with fail
      go_ret2
      exact rpost_no hno.out rfl hb2.out
    | false =>
      have hh : n = m ∧ begB s.data.toList F b = true := by
        by_cases h : n = m ∧ begB s.data.toList F b = true
        · exact h
        · have := hbad.out h; cases this
      obtain ⟨hnm, hfb⟩ := hh
      subst hnm
      replace hfb := Lib.hid hfb
      have h64 : Hid (s.size ≤ 64) := by
        have hbg2 := hfb.out
        unfold begB namedB at hbg2
        simp only [Bool.and_eq_true, decide_eq_true_eq] at hbg2
        have := hbg2.1.1
        show _ ≤ _
        simpa using this
      obtain ⟨w2, rfl⟩ : ∃ w2, w2 = wc := ⟨_, rfl⟩
      have hBc : Hid (Blk w2 w.heap.size 23 (cells8 b).toArray) := (hbc.out.block _ hB1.out.lt).trans hB1.out
      clear hB1 hb1 hZ1 hbc hbad hgood hstop hzb hnb hqn hN hZZ sD
      have hb1 := hb2
      have hB1 := hBc
      clear hb2 hBc
      go_wp2_with fail
      obtain ⟨its, hits⟩ : ∃ x, Hid (itemsOf es ps = x) := ⟨_, Lib.hid rfl⟩
      obtain ⟨sz, hsz⟩ : ∃ x, Hid (firstSize ps = x) := ⟨_, Lib.hid rfl⟩
      have hil : Hid (its.length = n) := by show _ = _; rw [← hits.out, CutQ.items_len (by rw [hn.out, hm.out]), hn.out]
      have hno : Hid (rises sz none its = false → W = none) := fun h => by
        rw [← hW.out]
        unfold cutsW
        rw [if_neg (fun hh => by have := hh.2.2; rw [hsz.out, hits.out, h] at this; cases this)]
      have hit : Hid (∀ (i : Nat) (x : Pr), ps[i]? = some x → ∃ y : PieceP.Item, its[i]? = some y ∧ y.size = x.x ∧ y.num = x.y) := fun i x hx => by
        have hi := (List.getElem?_eq_some_iff.1 hx).1
        have he : es[i]? = some (es[i]'(by have := hn.out; have := hm.out; omega)) := List.getElem?_eq_getElem _
        exact ⟨_, by rw [← hits.out]; exact CutQ.items_at he hx, rfl, rfl⟩
      have hr1 : Hid (rises sz none its = rises sz (if 1 = 0 then none else (ps[1 - 1]?).map (·.y)) (its.drop 1)) := by
        show _ = _
        rw [if_neg (by omega)]
        cases hps : ps with
        | nil =>
          have : its = [] := List.eq_nil_of_length_eq_zero (by have := hil.out; have := hm.out; rw [hps] at this; simp at this; omega)
          rw [this]
          rfl
        | cons x l =>
          obtain ⟨y, hy1, hy2, hy3⟩ := hit.out 0 x (by rw [hps]; rfl)
          have := rises_step sz none hy1
          rw [List.drop_zero] at this
          rw [this, hy2, ← hsz.out, hps]
          simp [firstSize, PieceP.low, hy3]
      go_loopw [15] (fun v wr => ∃ i : Nat, v = .int .i64 (i : Int) ∧ Hid (1 ≤ i) ∧ Hid (i ≤ n + 1) ∧ Hid (rises sz none its = rises sz (if i = 0 then none else (ps[i - 1]?).map (·.y)) (its.drop i)) ∧ Hid (Below w.heap.size w wr) ∧ Hid (Blk wr w.heap.size 23 (cells8 b).toArray)) (fun v _ => n + 1 - (intOf v).toNat)
      case atStart => exact ⟨1, rfl, Nat.le_refl _, Nat.le_add_left _ _, hr1.out, hb1.out, hB1.out⟩
      case round =>
        clear hr1 hb1 hB1
        obtain ⟨i, rfl, hi1, hin, hri, hbw, hBw⟩ := hrel
        have hi6 : (i : Int) ≤ 1000001 := by have := hin.out; omega
        by_cases hlt : i < n
        · have y3 : ((i : Int) < (n : Int)) := by omega
          have z0 : (0 : Int) ≤ (i : Int) := by omega
          have z1 : (0 : Int) < (n : Int) := by omega
          have z2 : ¬ n = 0 := by omega
          obtain ⟨x, hxi⟩ : ∃ x, Hid (ps[i]? = some x) := ⟨_, List.getElem?_eq_getElem (by have := hm.out; omega)⟩
          obtain ⟨kp, hkp⟩ : ∃ kp, Hid (i - 1 = kp) := ⟨_, Lib.hid rfl⟩
          obtain ⟨z, hzi⟩ : ∃ z, Hid (ps[kp]? = some z) := ⟨_, List.getElem?_eq_getElem (by have := hm.out; have := hkp.out; omega)⟩
          obtain ⟨f, hfi⟩ : ∃ f, Hid (ps[0]? = some f) := ⟨ps[0]'(by have := hm.out; omega), List.getElem?_eq_getElem _⟩
          obtain ⟨y, hy1, hy2, hy3⟩ := hit.out i x hxi.out
          have hfz : f.x = sz := by
            have h := hfi.out
            rw [← hsz.out]
            cases hps : ps with
            | nil => rw [hps] at h; cases h
            | cons a l => rw [hps] at h; obtain rfl := Option.some.inj h; rfl
          have hst := rises_step sz (some z.y) hy1
          rw [hy2, hy3] at hst
          have hpv : (if i = 0 then none else (ps[i - 1]?).map (·.y)) = some z.y := by rw [if_neg (by have := hi1.out; omega), hkp.out, hzi.out]; rfl
          have hri2 : Hid (rises sz none its = (decide (x.x = f.x) && (!decide (x.y ≤ z.y) && rises sz (some x.y) (its.drop (i + 1))))) := by
            have h := hri.out
            rw [hpv, hst] at h
            rw [hfz]
            exact h
          have hnx : Hid ((if i + 1 = 0 then none else (ps[i + 1 - 1]?).map (·.y)) = some x.y) := by show _ = _; rw [if_neg (by omega), Nat.add_sub_cancel, hxi.out]; rfl
          obtain ⟨bP, oP, rfl, hbP, -⟩ := hq.out.at_ hxi.out
          have hat : Hid (∀ (j : Nat) (p : Pr), ps[j]? = some p → ∀ w', Below w.heap.size w w' → ∀ fi u, p.cells[fi]? = some u → w'.cell? ⟨bP, oP + j * 3 + fi, none⟩ = some u) := fun j p hj w' hb fi u hu => by
            obtain ⟨b', o', e', hb', hc'⟩ := hq.out.at_ hj
            injection e' with e'
            injection e' with e1 e2
            subst e1 e2
            exact (hb.cell (p := ⟨bP, oP + j * 3 + fi, none⟩) hb').trans (by rw [show oP + j * 3 + fi = oP + (3 * j + fi) by omega]; exact hc' fi u hu)
          have hx := Lib.hid (hat.out i x hxi.out)
          have hz := Lib.hid (hat.out kp z hzi.out)
          have hf := Lib.hid (hat.out 0 f hfi.out)
          have z7 : IntKind.i64.wrap ((i : Int) - 1) = (kp : Int) := by rw [IntWalk.i64_in _ (by omega)]; have := hkp.out; have := hi1.out; omega
          have z8 : (kp : Int) < (n : Int) := by have := hkp.out; omega
          have z9 : (0 : Int) ≤ (kp : Int) := by omega
          have hlt' : Hid (i < n) := hlt
          clear hy1 hy2 hy3 hfz hst hpv hri hbP hat hlt
          go_upto_region 7 with fail
          by_cases hsx : x.x = f.x
          · by_cases hyz : x.y ≤ z.y
            · have hW0 : Hid (W = none) := hno.out (by rw [hri2.out, decide_eq_true hyz]; simp)
              refine q_region (Class wr) (by kernel_rfl) (by kernel_rfl) (Class.mk_ ((Below.refl _ _).drew)) ?_
              refine q_move rfl (.tmp 5) rfl ?_
              (intro K hK; go_simp; refine hK _ ?_; clear hK K)
              refine q_move rfl (.tmp 15) rfl ?_
              (intro K hK; go_simp; refine hK _ ?_; clear hK K)
              refine q_val (v := .pointer (some ⟨bP, oP + i * 3, none⟩)) rfl (fun w' hw' => by go_simp) ?_
              (intro K hK; go_simp; refine hK _ ?_; clear hK K)
              refine q_val (v := .pointer (some ⟨bP, oP + i * 3, none⟩)) rfl (fun w' hw' => by go_simp) ?_
              (intro K hK; go_simp; refine hK _ ?_; clear hK K)
              refine q_val (v := .int .i64 x.x) rfl (fun w' hw' => by have hc := hx.out w' (hbw.out.trans (hw'.below.mono hbw.out.size)) 0 _ rfl; rw [Nat.add_zero] at hc; go_simp) ?_
              (intro K hK; go_simp; refine hK _ ?_; clear hK K)
              refine q_move rfl (.tmp 5) rfl ?_
              (intro K hK; go_simp; refine hK _ ?_; clear hK K)
              refine q_val (v := .pointer (some ⟨bP, oP, none⟩)) rfl (fun w' hw' => by go_simp) ?_
              (intro K hK; go_simp; refine hK _ ?_; clear hK K)
              refine q_val (v := .pointer (some ⟨bP, oP, none⟩)) rfl (fun w' hw' => by go_simp) ?_
              (intro K hK; go_simp; refine hK _ ?_; clear hK K)
              refine q_val (v := .int .i64 f.x) rfl (fun w' hw' => by have hc := hf.out w' (hbw.out.trans (hw'.below.mono hbw.out.size)) 0 _ rfl; simp only [Nat.zero_mul, Nat.add_zero] at hc; go_simp) ?_
              (intro K hK; go_simp; refine hK _ ?_; clear hK K)
              refine q_val (v := .bool false) rfl (fun w' hw' => by go_simp) ?_
              (intro K hK; go_simp; refine hK _ ?_; clear hK K)
              refine q_val (v := .bool false) rfl (fun w' hw' => by go_simp) ?_
              (intro K hK; go_simp; refine hK _ ?_; clear hK K)
              refine q_move rfl (.tmp 5) rfl ?_
              (intro K hK; go_simp; refine hK _ ?_; clear hK K)
              refine q_move rfl (.tmp 15) rfl ?_
              (intro K hK; go_simp; refine hK _ ?_; clear hK K)
              refine q_val (v := .pointer (some ⟨bP, oP + i * 3, none⟩)) rfl (fun w' hw' => by go_simp) ?_
              (intro K hK; go_simp; refine hK _ ?_; clear hK K)
              refine q_val (v := .pointer (some ⟨bP, oP + i * 3 + 1, none⟩)) rfl (fun w' hw' => by go_simp) ?_
              (intro K hK; go_simp; refine hK _ ?_; clear hK K)
              refine q_val (v := .int .i64 x.y) rfl (fun w' hw' => by have hc := hx.out w' (hbw.out.trans (hw'.below.mono hbw.out.size)) 1 _ rfl; go_simp) ?_
              (intro K hK; go_simp; refine hK _ ?_; clear hK K)
              refine q_move rfl (.tmp 5) rfl ?_
              (intro K hK; go_simp; refine hK _ ?_; clear hK K)
              refine q_move rfl (.tmp 15) rfl ?_
              (intro K hK; go_simp; refine hK _ ?_; clear hK K)
              refine q_val (v := .int .i64 (kp : Int)) rfl (fun w' hw' => by go_simp) ?_
              (intro K hK; go_simp; refine hK _ ?_; clear hK K)
              refine q_val (v := .pointer (some ⟨bP, oP + kp * 3, none⟩)) rfl (fun w' hw' => by go_simp) ?_
              (intro K hK; go_simp; refine hK _ ?_; clear hK K)
              refine q_val (v := .pointer (some ⟨bP, oP + kp * 3 + 1, none⟩)) rfl (fun w' hw' => by go_simp) ?_
              (intro K hK; go_simp; refine hK _ ?_; clear hK K)
              refine q_val (v := .int .i64 z.y) rfl (fun w' hw' => by have hc := hz.out w' (hbw.out.trans (hw'.below.mono hbw.out.size)) 1 _ rfl; go_simp) ?_
              (intro K hK; go_simp; refine hK _ ?_; clear hK K)
              refine q_val (v := .bool true) rfl (fun w' hw' => by go_simp) ?_
              (intro K hK; go_simp; refine hK _ ?_; clear hK K)
              refine q_val (v := .bool true) rfl (fun w' hw' => by go_simp) ?_
              (intro K hK; go_simp; refine hK _ ?_; clear hK K)
              refine q_nil ?_
              intro w6 hw6
              have h6 : Hid (Below w.heap.size w w6) := hbw.out.trans (hw6.below.mono hbw.out.size)
              have hB6 : Hid (Blk w6 w.heap.size 23 (cells8 b).toArray) := (hw6.below.block _ hBw.out.lt).trans hBw.out
              clear hw6
              go_wp2_with fail
              go_ret2
              exact rpost_no hW0.out rfl h6.out
            · have hri3 : Hid (rises sz none its = rises sz (some x.y) (its.drop (i + 1))) := by
                show _ = _
                rw [hri2.out, decide_eq_true hsx, decide_eq_false hyz]
                simp
              refine q_region (Class wr) (by kernel_rfl) (by kernel_rfl) (Class.mk_ ((Below.refl _ _).drew)) ?_
              refine q_move rfl (.tmp 5) rfl ?_
              (intro K hK; go_simp; refine hK _ ?_; clear hK K)
              refine q_move rfl (.tmp 15) rfl ?_
              (intro K hK; go_simp; refine hK _ ?_; clear hK K)
              refine q_val (v := .pointer (some ⟨bP, oP + i * 3, none⟩)) rfl (fun w' hw' => by go_simp) ?_
              (intro K hK; go_simp; refine hK _ ?_; clear hK K)
              refine q_val (v := .pointer (some ⟨bP, oP + i * 3, none⟩)) rfl (fun w' hw' => by go_simp) ?_
              (intro K hK; go_simp; refine hK _ ?_; clear hK K)
              refine q_val (v := .int .i64 x.x) rfl (fun w' hw' => by have hc := hx.out w' (hbw.out.trans (hw'.below.mono hbw.out.size)) 0 _ rfl; rw [Nat.add_zero] at hc; go_simp) ?_
              (intro K hK; go_simp; refine hK _ ?_; clear hK K)
              refine q_move rfl (.tmp 5) rfl ?_
              (intro K hK; go_simp; refine hK _ ?_; clear hK K)
              refine q_val (v := .pointer (some ⟨bP, oP, none⟩)) rfl (fun w' hw' => by go_simp) ?_
              (intro K hK; go_simp; refine hK _ ?_; clear hK K)
              refine q_val (v := .pointer (some ⟨bP, oP, none⟩)) rfl (fun w' hw' => by go_simp) ?_
              (intro K hK; go_simp; refine hK _ ?_; clear hK K)
              refine q_val (v := .int .i64 f.x) rfl (fun w' hw' => by have hc := hf.out w' (hbw.out.trans (hw'.below.mono hbw.out.size)) 0 _ rfl; simp only [Nat.zero_mul, Nat.add_zero] at hc; go_simp) ?_
              (intro K hK; go_simp; refine hK _ ?_; clear hK K)
              refine q_val (v := .bool false) rfl (fun w' hw' => by go_simp) ?_
              (intro K hK; go_simp; refine hK _ ?_; clear hK K)
              refine q_val (v := .bool false) rfl (fun w' hw' => by go_simp) ?_
              (intro K hK; go_simp; refine hK _ ?_; clear hK K)
              refine q_move rfl (.tmp 5) rfl ?_
              (intro K hK; go_simp; refine hK _ ?_; clear hK K)
              refine q_move rfl (.tmp 15) rfl ?_
              (intro K hK; go_simp; refine hK _ ?_; clear hK K)
              refine q_val (v := .pointer (some ⟨bP, oP + i * 3, none⟩)) rfl (fun w' hw' => by go_simp) ?_
              (intro K hK; go_simp; refine hK _ ?_; clear hK K)
              refine q_val (v := .pointer (some ⟨bP, oP + i * 3 + 1, none⟩)) rfl (fun w' hw' => by go_simp) ?_
              (intro K hK; go_simp; refine hK _ ?_; clear hK K)
              refine q_val (v := .int .i64 x.y) rfl (fun w' hw' => by have hc := hx.out w' (hbw.out.trans (hw'.below.mono hbw.out.size)) 1 _ rfl; go_simp) ?_
              (intro K hK; go_simp; refine hK _ ?_; clear hK K)
              refine q_move rfl (.tmp 5) rfl ?_
              (intro K hK; go_simp; refine hK _ ?_; clear hK K)
              refine q_move rfl (.tmp 15) rfl ?_
              (intro K hK; go_simp; refine hK _ ?_; clear hK K)
              refine q_val (v := .int .i64 (kp : Int)) rfl (fun w' hw' => by go_simp) ?_
              (intro K hK; go_simp; refine hK _ ?_; clear hK K)
              refine q_val (v := .pointer (some ⟨bP, oP + kp * 3, none⟩)) rfl (fun w' hw' => by go_simp) ?_
              (intro K hK; go_simp; refine hK _ ?_; clear hK K)
              refine q_val (v := .pointer (some ⟨bP, oP + kp * 3 + 1, none⟩)) rfl (fun w' hw' => by go_simp) ?_
              (intro K hK; go_simp; refine hK _ ?_; clear hK K)
              refine q_val (v := .int .i64 z.y) rfl (fun w' hw' => by have hc := hz.out w' (hbw.out.trans (hw'.below.mono hbw.out.size)) 1 _ rfl; go_simp) ?_
              (intro K hK; go_simp; refine hK _ ?_; clear hK K)
              refine q_val (v := .bool false) rfl (fun w' hw' => by go_simp) ?_
              (intro K hK; go_simp; refine hK _ ?_; clear hK K)
              refine q_val (v := .bool false) rfl (fun w' hw' => by go_simp) ?_
              (intro K hK; go_simp; refine hK _ ?_; clear hK K)
              refine q_nil ?_
              intro w6 hw6
              have h6 : Hid (Below w.heap.size w w6) := hbw.out.trans (hw6.below.mono hbw.out.size)
              have hB6 : Hid (Blk w6 w.heap.size 23 (cells8 b).toArray) := (hw6.below.block _ hBw.out.lt).trans hBw.out
              clear hw6
              go_wp2_with fail
              go_roundw
              case rel => exact ⟨i + 1, by go_num, Nat.succ_le_succ (Nat.zero_le _), Nat.succ_le_succ (Nat.le_of_lt hlt'.out), (by show rises sz none its = _; rw [hnx.out]; exact hri3.out), h6.out, hB6.out⟩
              case measure => (have := hlt'.out; simp [intOf]; omega)
          · have hW0 : Hid (W = none) := hno.out (by rw [hri2.out, decide_eq_false hsx]; simp)
            refine q_region (Class wr) (by kernel_rfl) (by kernel_rfl) (Class.mk_ ((Below.refl _ _).drew)) ?_
            refine q_move rfl (.tmp 5) rfl ?_
            (intro K hK; go_simp; refine hK _ ?_; clear hK K)
            refine q_move rfl (.tmp 15) rfl ?_
            (intro K hK; go_simp; refine hK _ ?_; clear hK K)
            refine q_val (v := .pointer (some ⟨bP, oP + i * 3, none⟩)) rfl (fun w' hw' => by go_simp) ?_
            (intro K hK; go_simp; refine hK _ ?_; clear hK K)
            refine q_val (v := .pointer (some ⟨bP, oP + i * 3, none⟩)) rfl (fun w' hw' => by go_simp) ?_
            (intro K hK; go_simp; refine hK _ ?_; clear hK K)
            refine q_val (v := .int .i64 x.x) rfl (fun w' hw' => by have hc := hx.out w' (hbw.out.trans (hw'.below.mono hbw.out.size)) 0 _ rfl; rw [Nat.add_zero] at hc; go_simp) ?_
            (intro K hK; go_simp; refine hK _ ?_; clear hK K)
            refine q_move rfl (.tmp 5) rfl ?_
            (intro K hK; go_simp; refine hK _ ?_; clear hK K)
            refine q_val (v := .pointer (some ⟨bP, oP, none⟩)) rfl (fun w' hw' => by go_simp) ?_
            (intro K hK; go_simp; refine hK _ ?_; clear hK K)
            refine q_val (v := .pointer (some ⟨bP, oP, none⟩)) rfl (fun w' hw' => by go_simp) ?_
            (intro K hK; go_simp; refine hK _ ?_; clear hK K)
            refine q_val (v := .int .i64 f.x) rfl (fun w' hw' => by have hc := hf.out w' (hbw.out.trans (hw'.below.mono hbw.out.size)) 0 _ rfl; simp only [Nat.zero_mul, Nat.add_zero] at hc; go_simp) ?_
            (intro K hK; go_simp; refine hK _ ?_; clear hK K)
            refine q_val (v := .bool true) rfl (fun w' hw' => by go_simp) ?_
            (intro K hK; go_simp; refine hK _ ?_; clear hK K)
            refine q_val (v := .bool true) rfl (fun w' hw' => by go_simp) ?_
            (intro K hK; go_simp; refine hK _ ?_; clear hK K)
            refine q_skip rfl ?_
            (intro K hK; go_simp; refine hK _ ?_; clear hK K)
            refine q_skip rfl ?_
            (intro K hK; go_simp; refine hK _ ?_; clear hK K)
            refine q_skip rfl ?_
            (intro K hK; go_simp; refine hK _ ?_; clear hK K)
            refine q_skip rfl ?_
            (intro K hK; go_simp; refine hK _ ?_; clear hK K)
            refine q_skip rfl ?_
            (intro K hK; go_simp; refine hK _ ?_; clear hK K)
            refine q_skip rfl ?_
            (intro K hK; go_simp; refine hK _ ?_; clear hK K)
            refine q_skip rfl ?_
            (intro K hK; go_simp; refine hK _ ?_; clear hK K)
            refine q_skip rfl ?_
            (intro K hK; go_simp; refine hK _ ?_; clear hK K)
            refine q_skip rfl ?_
            (intro K hK; go_simp; refine hK _ ?_; clear hK K)
            refine q_skip rfl ?_
            (intro K hK; go_simp; refine hK _ ?_; clear hK K)
            refine q_skip rfl ?_
            (intro K hK; go_simp; refine hK _ ?_; clear hK K)
            refine q_skip rfl ?_
            (intro K hK; go_simp; refine hK _ ?_; clear hK K)
            refine q_val (v := .bool true) rfl (fun w' hw' => by go_simp) ?_
            (intro K hK; go_simp; refine hK _ ?_; clear hK K)
            refine q_nil ?_
            intro w6 hw6
            have h6 : Hid (Below w.heap.size w w6) := hbw.out.trans (hw6.below.mono hbw.out.size)
            have hB6 : Hid (Blk w6 w.heap.size 23 (cells8 b).toArray) := (hw6.below.block _ hBw.out.lt).trans hBw.out
            clear hw6
            go_wp2_with fail
            go_ret2
            exact rpost_no hW0.out rfl h6.out
        · have hall : Hid (rises sz none its = true) := by
            show _ = _
            rw [hri.out]
            exact rises_end sz _ (by have := hil.out; omega)
          have y3 : ¬ ((i : Int) < (n : Int)) := by omega
          clear hlt hri hno hit
          obtain ⟨wA, rfl⟩ : ∃ wA, wA = wr := ⟨_, rfl⟩
          go_wp2_with fail
          clear y3
          have hInv0 : Hid (Inv sz (54 + s.size) (Chain.chainOf wd) es its W [] F b 0) := by
            have e : W = cuts sz (54 + s.size) (Chain.chainOf wd) es its es.length F b 0 := by
              rw [← hW.out]
              unfold cutsW
              rw [if_pos ⟨by rw [hn.out, hm.out], hfb.out, by rw [hsz.out, hits.out]; exact hall.out⟩, hsz.out, hits.out]
            show Inv _ _ _ _ _ _ _ _ _ _
            rw [e]
            exact Inv.start F b
          have hL0 : Hid (RL w.heap.size A A2 es ps wA 0 none 0 []) := RL.nil_ _ _ _ _ _ _
          have hno0 : Hid (∀ k, Value.ownBlock (.slice none 0 0) = some k → k ≠ w.heap.size) := fun k e => by cases e
          clear hin hi1
          go_loopw [2, 16, 17] (fun v2 v15 v16 wr => ∃ (F' : Int) (b' : Text) (lo q cl : Nat) (Al : Option Addr) (ks : List Cut) (l : List Pc), v2 = .int .i64 F' ∧ v15 = .slice Al q cl ∧ v16 = .int .i64 (lo : Int) ∧ Hid (Inv sz (54 + s.size) (Chain.chainOf wd) es its W ks F' b' lo) ∧ Hid (begB s.data.toList F' b' = true) ∧ Hid (b'.length = 32) ∧ Hid (lo ≤ n) ∧ Hid (q ≤ lo) ∧ Hid (SaysR s es ps l ks) ∧ Hid (RL w.heap.size A A2 es ps wr q Al cl l) ∧ Hid (∀ k, Value.ownBlock (.slice Al q cl) = some k → k ≠ w.heap.size) ∧ Hid (Blk wr w.heap.size 23 (cells8 b').toArray) ∧ Hid (Below w.heap.size w wr)) (fun _ _ v _ => n - (intOf v).toNat)
          case atStart => exact ⟨F, b, 0, 0, 0, none, [], [], rfl, rfl, rfl, hInv0.out, hfb.out, hb.out, Nat.zero_le _, Nat.le_refl _, SaysR.nil_ _ _ _, hL0.out, hno0.out, hBw.out, hbw.out⟩
          case round =>
            clear hInv0 hL0 hBw hbw hno0
            obtain ⟨F', b', lo, q, cl, Al, ks, l, rfl, rfl, rfl, hInv, hbg, hb', hlo, hql, hSa, hL, hLo, hB, hbe⟩ := hrel
            have hlo6 : (lo : Int) ≤ 1000000 := by have := hlo.out; omega
            by_cases hlt : lo < n
            · have y4 : ((lo : Int) < (n : Int)) := by omega
              have z0 : (0 : Int) ≤ (lo : Int) := by omega
              have z0n : (0 : Int) < (n : Int) := by omega
              obtain ⟨rm0, hrm0⟩ : ∃ x : Int, Hid (2097098 - (s.size : Int) = x) := ⟨_, Lib.hid rfl⟩
              have y7 : IntKind.i64.wrap (2097098 - (s.size : Int)) = rm0 := by rw [IntWalk.i64_in _ (by have := h64.out; omega)]; exact hrm0.out
              obtain ⟨r, hr⟩ : ∃ r, Hid (reachFrom F' sz 0 (54 + s.size) none (its.drop lo) = r) := ⟨_, Lib.hid rfl⟩
              have hcf0 : Hid (cutFrom F' 0 rm0 (its.drop lo) = r) := by
                show _ = _
                rw [← hr.out]
                exact (cut_eq (b := 54 + s.size) hall.out (by rw [← hrm0.out]; omega)).symm
              have hlt' : Hid (lo < n) := hlt
              obtain ⟨bE, oE, heA, hbE, hcE⟩ := hp.out (by have := hn.out; omega)
              obtain ⟨x0, hx0⟩ : ∃ x, ps[0]? = some x := ⟨ps[0]'(by have := hm.out; omega), List.getElem?_eq_getElem _⟩
              obtain ⟨bP, oP, hpA, hbP, -⟩ := hq.out.at_ hx0
              subst heA hpA
              have hes : Hid (∀ (i : Nat) (e : Text), es[i]? = some e → ∃ Ae ce, (∀ w', Below w.heap.size w w' → w'.cell? ⟨bE, oE + i, none⟩ = some (.slice Ae e.length ce) ∧ Reads w' 1 Ae e.length (cells8 e)) ∧ e.length ≤ ce ∧ (Ae = none → e.length = 0 ∧ ce = 0)) := fun i e he => by
                obtain ⟨Ae, ce, hc1, hc2, hc3, hc4⟩ := hcE i e he
                exact ⟨Ae, ce, fun w' hb => ⟨(hb.cell (p := ⟨bE, oE + i, none⟩) hbE).trans hc1, hc3.below hb⟩, hc2, hc4⟩
              have hpsC : Hid (∀ (i : Nat) (x : Pr), ps[i]? = some x → ∀ w', Below w.heap.size w w' → ∀ j u, x.cells[j]? = some u → w'.cell? ⟨bP, oP + i * 3 + j, none⟩ = some u) := fun i x hx w' hb j u hu => by
                obtain ⟨b3, o3, e3, hb3, hc3⟩ := hq.out.at_ hx
                injection e3 with e3
                injection e3 with e31 e32
                subst e31 e32
                exact (hb.cell (p := ⟨bP, oP + i * 3 + j, none⟩) hb3).trans (by rw [show oP + i * 3 + j = oP + (3 * i + j) by omega]; exact hc3 j u hu)
              clear hcE hx0 hbE hbP
              obtain ⟨wB, rfl⟩ : ∃ wB, wB = wr := ⟨_, rfl⟩
              go_upto_block 4 with fail
              go_cut [18, 19, 20, 21] from 84 to 149 (fun v _ _ _ wr' => v = .int .i64 (r : Int) ∧ Hid (Below wB.heap.size wB wr'))
              case first =>
                go_wp2_with fail
                go_loopw [18, 19] (fun v18 v19 wr => ∃ (i : Nat) (rm : Int), v18 = .int .i64 (i : Int) ∧ v19 = .int .i64 rm ∧ Hid (i ≤ 1000) ∧ Hid (lo + i ≤ n) ∧ Hid (0 ≤ rm) ∧ Hid (rm ≤ 2097152) ∧ Hid (cutFrom F' i rm (its.drop (lo + i)) = r) ∧ Hid (Below wB.heap.size wB wr)) (fun v _ _ => 1001 - (intOf v).toNat)
                case atStart => exact ⟨0, rm0, rfl, rfl, Nat.zero_le _, (by have := hlo.out; show _ ≤ _; omega), (by show _ ≤ _; have := hrm0.out; have := h64.out; omega), (by show _ ≤ _; have := hrm0.out; omega), hcf0.out, Below.refl _ _⟩
                case round =>
                  clear hcf0 hInv hSa hL hLo
                  obtain ⟨i, rm, rfl, rfl, hi, hli, hrm, hrm2, hcf, hWb⟩ := hrel
                  obtain ⟨li, hlI⟩ : ∃ x, Hid (lo + i = x) := ⟨_, Lib.hid rfl⟩
                  rw [hlI.out] at hcf
                  have hi6 : (i : Int) ≤ 1000 := by have := hi.out; omega
                  have z1 : IntKind.i64.wrap ((lo : Int) + (i : Int)) = (li : Int) := by rw [IntWalk.i64_in _ (by omega)]; have := hlI.out; omega
                  by_cases h1 : i = 1000
                  · have hri : Hid ((r : Int) = (i : Int)) := by
                      have h := hcf.out
                      rw [h1, cut_full] at h
                      show _ = _
                      omega
                    have z2 : ¬ ((i : Int) < 1000) := by omega
                    replace h1 := Lib.hid h1
                    go_wp2_with fail
                    go_meet
                    case rel => exact ⟨by rw [hri.out], hWb.out⟩
                  · have z2 : (i : Int) < 1000 := by omega
                    replace h1 := Lib.hid h1
                    by_cases h2 : li < n
                    · have z3 : (li : Int) < (n : Int) := by omega
                      have z4 : (0 : Int) ≤ (li : Int) := by omega
                      obtain ⟨qq, hqi⟩ : ∃ q, Hid (es[li]? = some q) := ⟨_, List.getElem?_eq_getElem (by rw [hn.out]; exact h2)⟩
                      obtain ⟨x, hxi⟩ : ∃ x, Hid (ps[li]? = some x) := ⟨ps[li]'(by rw [hm.out]; exact h2), List.getElem?_eq_getElem _⟩
                      obtain ⟨m, hqm⟩ : ∃ m, Hid (qq.length = m) := ⟨_, Lib.hid rfl⟩
                      obtain ⟨Ae, ce, hev, hce, hne⟩ := hes.out li qq hqi.out
                      have hm47 : Hid ((m : Int) < 140737488355328) := by have := hsh.out qq (List.mem_of_getElem? hqi.out); have := hqm.out; show _ < _; omega
                      have hx47 : Hid ((x.n : Int) < 140737488355328) := by have := hnn.out x (List.mem_of_getElem? hxi.out); show _ < _; omega
                      have hdr : Hid (its.drop li = itemOf qq x :: its.drop (li + 1)) := by
                        show _ = _
                        rw [← hits.out]
                        have hget := CutQ.items_at hqi.out hxi.out
                        obtain ⟨hl, he⟩ := List.getElem?_eq_some_iff.1 hget
                        rw [List.drop_eq_getElem_cons hl, he]
                      rw [hdr.out] at hcf
                      have hfx := hpsC.out li x hxi.out
                      rw [hqm.out] at hev
                      have hbWr : Hid (Below w.heap.size w wr) := hbe.out.trans (hWb.out.mono hbe.out.size)
                      have hcell := (hev wr hbWr.out).1
                      have hLr : Hid (Blk (wr.alloc (.cells #[.int .i64 0, .int .i64 0, .slice none 0 0] 31)) wr.heap.size 31 #[.int .i64 0, .int .i64 0, .slice none 0 0]) := Blk.new wr _ _
                      replace hev := Lib.hid hev
                      replace hfx := Lib.hid hfx
                      clear hce hne hdr
                      go_upto_region 16 with (first
                        | ((with_reducible change wpList _ _ _ ({ dst := some 99, op := _, type := _, pos := _, after := _, guard := _ } :: _) _ _); (with_reducible refine Veil.out ?_); refine wpList_partW (o := ⟨some 99, _, _, _, _, _⟩) rfl 31 (.tmp 98) rfl (bP) ((oP + li * 3)) rfl (x.cells) _ (hfx.out _ hbWr.out) Tryd.underlying31 rfl Hand.sizeIn ?_)
                        | ((with_reducible change wpList _ _ _ ({ dst := none, op := Op.store 31 (.tmp 20) _, type := _, pos := _, after := _, guard := _ } :: _) _ _); refine wpList_store_whole (o := ⟨none, _, _, _, _, _⟩) rfl 31 (.tmp 20) (.tmp 99) rfl (wr.heap.size) (x.cells.toArray) rfl rfl 31 (#[.int .i64 0, .int .i64 0, .slice none 0 0]) hLr.out Hand.sizeIn rfl (pr_one x) ?_; intro w4 hB4 hk4; have hb4 := Lib.hid (kept_fresh hk4); replace hB4 := Lib.hid hB4; clear hk4 hLr))
                      have hcell4 := (hev.out w4 (hbWr.out.trans (hb4.out.mono hbWr.out.size))).1
                      have hM : Hid (∀ w', Below w4.heap.size w4 w' → ∀ j u, x.cells[j]? = some u → w'.cell? ⟨wr.heap.size, j, none⟩ = some u) := fun w' hb j u hu => by
                        have h : Blk w' wr.heap.size 31 x.cells.toArray := (hb.block _ hB4.out.lt).trans hB4.out
                        rw [h.cell j, List.getElem?_toArray]
                        exact hu
                      have g2 : w4.cell? ⟨wr.heap.size, 2, none⟩ = some (.slice x.A x.n x.c) := hM.out w4 (Below.refl _ _) 2 _ rfl
                      obtain ⟨r1, hr1⟩ : ∃ x : Int, Hid (rm - 12 = x) := ⟨_, Lib.hid rfl⟩
                      obtain ⟨r2, hr2⟩ : ∃ x : Int, Hid (r1 - (m : Int) = x) := ⟨_, Lib.hid rfl⟩
                      obtain ⟨r3, hr3⟩ : ∃ y : Int, Hid (32 * (x.n : Int) = y) := ⟨_, Lib.hid rfl⟩
                      obtain ⟨r4, hr4⟩ : ∃ x : Int, Hid (r2 - r3 = x) := ⟨_, Lib.hid rfl⟩
                      have v1 : IntKind.i64.wrap (rm - 12) = r1 := by rw [IntWalk.i64_in _ (by have := hrm.out; have := hrm2.out; omega)]; exact hr1.out
                      have v2 : IntKind.i64.wrap (r1 - (m : Int)) = r2 := by rw [IntWalk.i64_in _ (by have := hrm.out; have := hrm2.out; have := hr1.out; have := hm47.out; omega)]; exact hr2.out
                      have v3 : IntKind.i64.wrap (32 * (x.n : Int)) = r3 := by rw [IntWalk.i64_in _ (by have := hx47.out; omega)]; exact hr3.out
                      have v4 : IntKind.i64.wrap (r2 - r3) = r4 := by rw [IntWalk.i64_in _ (by have := hrm.out; have := hrm2.out; have := hr1.out; have := hm47.out; have := hr2.out; have := hr3.out; have := hx47.out; omega)]; exact hr4.out
                      have hr4e : Hid (rm - (12 + (itemOf qq x).len + 32 * (itemOf qq x).ways : Nat) = r4) := by
                        show rm - ((12 + qq.length + 32 * x.n : Nat) : Int) = r4
                        rw [hqm.out, ← hr4.out, ← hr2.out, ← hr1.out, ← hr3.out]
                        omega
                      have hWb4 : Hid (Below wB.heap.size wB w4) := hWb.out.trans (hb4.out.mono hWb.out.size)
                      have hne1 : i ≠ 1000 := h1.out
                      have hstop : Hid (r4 < 0 ∨ fitB x.x x.y x.n m = false ∨ x.x - i - 1 < F' → (r : Int) = (i : Int)) := fun h => by
                        have h2 := hcf.out
                        rw [cut_stop hne1 (by rw [hr4e.out]; rw [← hqm.out] at h; exact h)] at h2
                        omega
                      have hon : Hid (¬ (r4 < 0 ∨ fitB x.x x.y x.n m = false ∨ x.x - i - 1 < F') → cutFrom F' (i + 1) r4 (its.drop (li + 1)) = r) := fun h => by
                        have h2 := hcf.out
                        rw [cut_on hne1 (by rw [hr4e.out]; rw [← hqm.out] at h; exact h), hr4e.out] at h2
                        exact h2
                      clear hne1
                      generalize wr.heap.size = mb at *
                      go_upto_region 18 with fail
                      clear v1 v2 v3 v4 g2 hcell4 hcell
                      by_cases k0 : r4 < 0
                      · have hri := Lib.hid (hstop.out (.inl k0))
                        clear hstop hon
                        have kz := k0
                        refine q_region (Class w4) (by kernel_rfl) (by kernel_rfl) (Class.mk_ ((Below.refl _ _).drew)) ?_
                        refine q_move rfl (.tmp 19) rfl ?_
                        (intro K hK; go_simp; refine hK _ ?_; clear hK K)
                        refine q_val (v := .bool true) rfl (fun w' hw' => by go_simp) ?_
                        (intro K hK; go_simp; refine hK _ ?_; clear hK K)
                        refine q_move rfl (.tmp 117) rfl ?_
                        (intro K hK; go_simp; refine hK _ ?_; clear hK K)
                        refine q_skip rfl ?_
                        (intro K hK; go_simp; refine hK _ ?_; clear hK K)
                        refine q_skip rfl ?_
                        (intro K hK; go_simp; refine hK _ ?_; clear hK K)
                        refine q_skip rfl ?_
                        (intro K hK; go_simp; refine hK _ ?_; clear hK K)
                        refine q_skip rfl ?_
                        (intro K hK; go_simp; refine hK _ ?_; clear hK K)
                        refine q_skip rfl ?_
                        (intro K hK; go_simp; refine hK _ ?_; clear hK K)
                        refine q_skip rfl ?_
                        (intro K hK; go_simp; refine hK _ ?_; clear hK K)
                        refine q_skip rfl ?_
                        (intro K hK; go_simp; refine hK _ ?_; clear hK K)
                        refine q_skip rfl ?_
                        (intro K hK; go_simp; refine hK _ ?_; clear hK K)
                        refine q_skip rfl ?_
                        (intro K hK; go_simp; refine hK _ ?_; clear hK K)
                        refine q_val (v := .bool true) rfl (fun w' hw' => by go_simp) ?_
                        (intro K hK; go_simp; refine hK _ ?_; clear hK K)
                        refine q_move rfl (.tmp 128) rfl ?_
                        (intro K hK; go_simp; refine hK _ ?_; clear hK K)
                        refine q_skip rfl ?_
                        (intro K hK; go_simp; refine hK _ ?_; clear hK K)
                        refine q_skip rfl ?_
                        (intro K hK; go_simp; refine hK _ ?_; clear hK K)
                        refine q_skip rfl ?_
                        (intro K hK; go_simp; refine hK _ ?_; clear hK K)
                        refine q_val (v := .bool true) rfl (fun w' hw' => by go_simp) ?_
                        (intro K hK; go_simp; refine hK _ ?_; clear hK K)
                        refine q_move rfl (.tmp 133) rfl ?_
                        (intro K hK; go_simp; refine hK _ ?_; clear hK K)
                        refine q_skip rfl ?_
                        (intro K hK; go_simp; refine hK _ ?_; clear hK K)
                        refine q_skip rfl ?_
                        (intro K hK; go_simp; refine hK _ ?_; clear hK K)
                        refine q_skip rfl ?_
                        (intro K hK; go_simp; refine hK _ ?_; clear hK K)
                        refine q_val (v := .bool true) rfl (fun w' hw' => by go_simp) ?_
                        (intro K hK; go_simp; refine hK _ ?_; clear hK K)
                        refine q_move rfl (.tmp 138) rfl ?_
                        (intro K hK; go_simp; refine hK _ ?_; clear hK K)
                        refine q_skip rfl ?_
                        (intro K hK; go_simp; refine hK _ ?_; clear hK K)
                        refine q_skip rfl ?_
                        (intro K hK; go_simp; refine hK _ ?_; clear hK K)
                        refine q_skip rfl ?_
                        (intro K hK; go_simp; refine hK _ ?_; clear hK K)
                        refine q_skip rfl ?_
                        (intro K hK; go_simp; refine hK _ ?_; clear hK K)
                        refine q_skip rfl ?_
                        (intro K hK; go_simp; refine hK _ ?_; clear hK K)
                        refine q_skip rfl ?_
                        (intro K hK; go_simp; refine hK _ ?_; clear hK K)
                        refine q_skip rfl ?_
                        (intro K hK; go_simp; refine hK _ ?_; clear hK K)
                        refine q_val (v := .bool true) rfl (fun w' hw' => by go_simp) ?_
                        (intro K hK; go_simp; refine hK _ ?_; clear hK K)
                        refine q_nil ?_
                        intro w7 hw7
                        have h7 : Hid (Below wB.heap.size wB w7) := hWb4.out.trans (hw7.below.mono hWb4.out.size)
                        go_wp2_with fail
                        go_meet
                        case rel => exact ⟨by rw [hri.out], h7.out⟩
                      · by_cases k1 : bsOf x.x x.y = (x.n : Int)
                        · have u1 : (bsOf x.x x.y != (x.n : Int)) = false := by rw [bne, beq_iff_eq.2 k1]; rfl
                          by_cases k2 : m < 1
                          · have hri := Lib.hid (hstop.out (.inr (.inl (by
                              cases hf : fitB x.x x.y x.n m with
                              | false => rfl
                              | true => have := (fit_parts hf).2.2.1; omega))))
                            clear hstop hon
                            have u2 : (m : Int) < 1 := by omega
                            replace k1 := Lib.hid k1
                            replace k2 := Lib.hid k2
                            refine q_region (Class w4) (by kernel_rfl) (by kernel_rfl) (Class.mk_ ((Below.refl _ _).drew)) ?_
                            refine q_move rfl (.tmp 19) rfl ?_
                            (intro K hK; go_simp; refine hK _ ?_; clear hK K)
                            refine q_val (v := .bool false) rfl (fun w' hw' => by go_simp) ?_
                            (intro K hK; go_simp; refine hK _ ?_; clear hK K)
                            refine q_move rfl (.tmp 117) rfl ?_
                            (intro K hK; go_simp; refine hK _ ?_; clear hK K)
                            refine q_val (v := .pointer (some ⟨mb, 0, none⟩)) rfl (fun w' hw' => by go_simp) ?_
                            (intro K hK; go_simp; refine hK _ ?_; clear hK K)
                            refine q_val (v := .int .i64 x.x) rfl (fun w' hw' => by have hc := hM.out w' hw'.below 0 _ rfl; go_simp) ?_
                            (intro K hK; go_simp; refine hK _ ?_; clear hK K)
                            refine q_val (v := .pointer (some ⟨mb, 1, none⟩)) rfl (fun w' hw' => by go_simp) ?_
                            (intro K hK; go_simp; refine hK _ ?_; clear hK K)
                            refine q_val (v := .int .i64 x.y) rfl (fun w' hw' => by have hc := hM.out w' hw'.below 1 _ rfl; go_simp) ?_
                            (intro K hK; go_simp; refine hK _ ?_; clear hK K)
                            refine q_fn (v := .int .i64 (bsOf x.x x.y)) (args := #[.int .i64 x.x, .int .i64 x.y]) rfl _ _ rfl rfl Tryd.func55 (by kernel_rfl) (by kernel_rfl) (fun w' hw' => (beside17_any x.x x.y w').mono (fun e w'' ⟨he, hw⟩ => ⟨he, hw.symm ▸ hw'⟩)) ?_
                            (intro K hK; go_simp; refine hK _ ?_; clear hK K)
                            refine q_val (v := .pointer (some ⟨mb, 2, none⟩)) rfl (fun w' hw' => by go_simp) ?_
                            (intro K hK; go_simp; refine hK _ ?_; clear hK K)
                            refine q_val (v := .slice x.A x.n x.c) rfl (fun w' hw' => by have hc := hM.out w' hw'.below 2 _ rfl; go_simp) ?_
                            (intro K hK; go_simp; refine hK _ ?_; clear hK K)
                            refine q_val (v := .int .i64 (x.n : Int)) rfl (fun w' hw' => by go_simp) ?_
                            (intro K hK; go_simp; refine hK _ ?_; clear hK K)
                            refine q_val (v := .bool false) rfl (fun w' hw' => by go_simp) ?_
                            (intro K hK; go_simp; refine hK _ ?_; clear hK K)
                            refine q_val (v := .bool false) rfl (fun w' hw' => by go_simp) ?_
                            (intro K hK; go_simp; refine hK _ ?_; clear hK K)
                            refine q_move rfl (.tmp 128) rfl ?_
                            (intro K hK; go_simp; refine hK _ ?_; clear hK K)
                            refine q_move rfl (.tmp 21) rfl ?_
                            (intro K hK; go_simp; refine hK _ ?_; clear hK K)
                            refine q_val (v := .int .i64 (m : Int)) rfl (fun w' hw' => by go_simp) ?_
                            (intro K hK; go_simp; refine hK _ ?_; clear hK K)
                            refine q_val (v := .bool true) rfl (fun w' hw' => by go_simp) ?_
                            (intro K hK; go_simp; refine hK _ ?_; clear hK K)
                            refine q_val (v := .bool true) rfl (fun w' hw' => by go_simp) ?_
                            (intro K hK; go_simp; refine hK _ ?_; clear hK K)
                            refine q_move rfl (.tmp 133) rfl ?_
                            (intro K hK; go_simp; refine hK _ ?_; clear hK K)
                            refine q_skip rfl ?_
                            (intro K hK; go_simp; refine hK _ ?_; clear hK K)
                            refine q_skip rfl ?_
                            (intro K hK; go_simp; refine hK _ ?_; clear hK K)
                            refine q_skip rfl ?_
                            (intro K hK; go_simp; refine hK _ ?_; clear hK K)
                            refine q_val (v := .bool true) rfl (fun w' hw' => by go_simp) ?_
                            (intro K hK; go_simp; refine hK _ ?_; clear hK K)
                            refine q_move rfl (.tmp 138) rfl ?_
                            (intro K hK; go_simp; refine hK _ ?_; clear hK K)
                            refine q_skip rfl ?_
                            (intro K hK; go_simp; refine hK _ ?_; clear hK K)
                            refine q_skip rfl ?_
                            (intro K hK; go_simp; refine hK _ ?_; clear hK K)
                            refine q_skip rfl ?_
                            (intro K hK; go_simp; refine hK _ ?_; clear hK K)
                            refine q_skip rfl ?_
                            (intro K hK; go_simp; refine hK _ ?_; clear hK K)
                            refine q_skip rfl ?_
                            (intro K hK; go_simp; refine hK _ ?_; clear hK K)
                            refine q_skip rfl ?_
                            (intro K hK; go_simp; refine hK _ ?_; clear hK K)
                            refine q_skip rfl ?_
                            (intro K hK; go_simp; refine hK _ ?_; clear hK K)
                            refine q_val (v := .bool true) rfl (fun w' hw' => by go_simp) ?_
                            (intro K hK; go_simp; refine hK _ ?_; clear hK K)
                            refine q_nil ?_
                            intro w7 hw7
                            have h7 : Hid (Below wB.heap.size wB w7) := hWb4.out.trans (hw7.below.mono hWb4.out.size)
                            go_wp2_with fail
                            go_meet
                            case rel => exact ⟨by rw [hri.out], h7.out⟩
                          · have u2 : ¬ (m : Int) < 1 := by omega
                            by_cases k3 : 65536 < m
                            · have hri := Lib.hid (hstop.out (.inr (.inl (by
                                cases hf : fitB x.x x.y x.n m with
                                | false => rfl
                                | true => have := (fit_parts hf).2.2.2.1; omega))))
                              clear hstop hon
                              have u3 : (65536 : Int) < (m : Int) := by omega
                              replace k1 := Lib.hid k1
                              replace k2 := Lib.hid k2
                              replace k3 := Lib.hid k3
                              refine q_region (Class w4) (by kernel_rfl) (by kernel_rfl) (Class.mk_ ((Below.refl _ _).drew)) ?_
                              refine q_move rfl (.tmp 19) rfl ?_
                              (intro K hK; go_simp; refine hK _ ?_; clear hK K)
                              refine q_val (v := .bool false) rfl (fun w' hw' => by go_simp) ?_
                              (intro K hK; go_simp; refine hK _ ?_; clear hK K)
                              refine q_move rfl (.tmp 117) rfl ?_
                              (intro K hK; go_simp; refine hK _ ?_; clear hK K)
                              refine q_val (v := .pointer (some ⟨mb, 0, none⟩)) rfl (fun w' hw' => by go_simp) ?_
                              (intro K hK; go_simp; refine hK _ ?_; clear hK K)
                              refine q_val (v := .int .i64 x.x) rfl (fun w' hw' => by have hc := hM.out w' hw'.below 0 _ rfl; go_simp) ?_
                              (intro K hK; go_simp; refine hK _ ?_; clear hK K)
                              refine q_val (v := .pointer (some ⟨mb, 1, none⟩)) rfl (fun w' hw' => by go_simp) ?_
                              (intro K hK; go_simp; refine hK _ ?_; clear hK K)
                              refine q_val (v := .int .i64 x.y) rfl (fun w' hw' => by have hc := hM.out w' hw'.below 1 _ rfl; go_simp) ?_
                              (intro K hK; go_simp; refine hK _ ?_; clear hK K)
                              refine q_fn (v := .int .i64 (bsOf x.x x.y)) (args := #[.int .i64 x.x, .int .i64 x.y]) rfl _ _ rfl rfl Tryd.func55 (by kernel_rfl) (by kernel_rfl) (fun w' hw' => (beside17_any x.x x.y w').mono (fun e w'' ⟨he, hw⟩ => ⟨he, hw.symm ▸ hw'⟩)) ?_
                              (intro K hK; go_simp; refine hK _ ?_; clear hK K)
                              refine q_val (v := .pointer (some ⟨mb, 2, none⟩)) rfl (fun w' hw' => by go_simp) ?_
                              (intro K hK; go_simp; refine hK _ ?_; clear hK K)
                              refine q_val (v := .slice x.A x.n x.c) rfl (fun w' hw' => by have hc := hM.out w' hw'.below 2 _ rfl; go_simp) ?_
                              (intro K hK; go_simp; refine hK _ ?_; clear hK K)
                              refine q_val (v := .int .i64 (x.n : Int)) rfl (fun w' hw' => by go_simp) ?_
                              (intro K hK; go_simp; refine hK _ ?_; clear hK K)
                              refine q_val (v := .bool false) rfl (fun w' hw' => by go_simp) ?_
                              (intro K hK; go_simp; refine hK _ ?_; clear hK K)
                              refine q_val (v := .bool false) rfl (fun w' hw' => by go_simp) ?_
                              (intro K hK; go_simp; refine hK _ ?_; clear hK K)
                              refine q_move rfl (.tmp 128) rfl ?_
                              (intro K hK; go_simp; refine hK _ ?_; clear hK K)
                              refine q_move rfl (.tmp 21) rfl ?_
                              (intro K hK; go_simp; refine hK _ ?_; clear hK K)
                              refine q_val (v := .int .i64 (m : Int)) rfl (fun w' hw' => by go_simp) ?_
                              (intro K hK; go_simp; refine hK _ ?_; clear hK K)
                              refine q_val (v := .bool false) rfl (fun w' hw' => by go_simp) ?_
                              (intro K hK; go_simp; refine hK _ ?_; clear hK K)
                              refine q_val (v := .bool false) rfl (fun w' hw' => by go_simp) ?_
                              (intro K hK; go_simp; refine hK _ ?_; clear hK K)
                              refine q_move rfl (.tmp 133) rfl ?_
                              (intro K hK; go_simp; refine hK _ ?_; clear hK K)
                              refine q_move rfl (.tmp 21) rfl ?_
                              (intro K hK; go_simp; refine hK _ ?_; clear hK K)
                              refine q_val (v := .int .i64 (m : Int)) rfl (fun w' hw' => by go_simp) ?_
                              (intro K hK; go_simp; refine hK _ ?_; clear hK K)
                              refine q_val (v := .bool true) rfl (fun w' hw' => by go_simp) ?_
                              (intro K hK; go_simp; refine hK _ ?_; clear hK K)
                              refine q_val (v := .bool true) rfl (fun w' hw' => by go_simp) ?_
                              (intro K hK; go_simp; refine hK _ ?_; clear hK K)
                              refine q_move rfl (.tmp 138) rfl ?_
                              (intro K hK; go_simp; refine hK _ ?_; clear hK K)
                              refine q_skip rfl ?_
                              (intro K hK; go_simp; refine hK _ ?_; clear hK K)
                              refine q_skip rfl ?_
                              (intro K hK; go_simp; refine hK _ ?_; clear hK K)
                              refine q_skip rfl ?_
                              (intro K hK; go_simp; refine hK _ ?_; clear hK K)
                              refine q_skip rfl ?_
                              (intro K hK; go_simp; refine hK _ ?_; clear hK K)
                              refine q_skip rfl ?_
                              (intro K hK; go_simp; refine hK _ ?_; clear hK K)
                              refine q_skip rfl ?_
                              (intro K hK; go_simp; refine hK _ ?_; clear hK K)
                              refine q_skip rfl ?_
                              (intro K hK; go_simp; refine hK _ ?_; clear hK K)
                              refine q_val (v := .bool true) rfl (fun w' hw' => by go_simp) ?_
                              (intro K hK; go_simp; refine hK _ ?_; clear hK K)
                              refine q_nil ?_
                              intro w7 hw7
                              have h7 : Hid (Below wB.heap.size wB w7) := hWb4.out.trans (hw7.below.mono hWb4.out.size)
                              go_wp2_with fail
                              go_meet
                              case rel => exact ⟨by rw [hri.out], h7.out⟩
                            · have u3 : ¬ (65536 : Int) < (m : Int) := by omega
                              have hfit : fitB x.x x.y x.n m = true := by
                                obtain ⟨f1, f2⟩ := bs_eq.1 k1
                                unfold fitB
                                rw [f1, f2, decide_eq_true (show 1 ≤ m by omega), decide_eq_true (show m ≤ 65536 by omega)]
                                simp
                              have hin : Hid (1 ≤ x.x ∧ x.x ≤ 1099511627776) := by
                                have h := hfit
                                unfold fitB insideB at h
                                simp only [Bool.and_eq_true, decide_eq_true_eq] at h
                                show _ ∧ _
                                omega
                              have u4 : IntKind.i64.wrap (x.x - (i : Int)) = x.x - (i : Int) := IntWalk.i64_in _ (by have := hin.out; omega)
                              have u5 : IntKind.i64.wrap (x.x - (i : Int) - 1) = x.x - (i : Int) - 1 := IntWalk.i64_in _ (by have := hin.out; omega)
                              by_cases k4 : x.x - i - 1 < F'
                              · have hri := Lib.hid (hstop.out (.inr (.inr k4)))
                                clear hstop hon
                                have u6 : F' > x.x - (i : Int) - 1 := k4
                                replace k1 := Lib.hid k1
                                replace k2 := Lib.hid k2
                                replace k3 := Lib.hid k3
                                clear hfit
                                refine q_region (Class w4) (by kernel_rfl) (by kernel_rfl) (Class.mk_ ((Below.refl _ _).drew)) ?_
                                refine q_move rfl (.tmp 19) rfl ?_
                                (intro K hK; go_simp; refine hK _ ?_; clear hK K)
                                refine q_val (v := .bool false) rfl (fun w' hw' => by go_simp) ?_
                                (intro K hK; go_simp; refine hK _ ?_; clear hK K)
                                refine q_move rfl (.tmp 117) rfl ?_
                                (intro K hK; go_simp; refine hK _ ?_; clear hK K)
                                refine q_val (v := .pointer (some ⟨mb, 0, none⟩)) rfl (fun w' hw' => by go_simp) ?_
                                (intro K hK; go_simp; refine hK _ ?_; clear hK K)
                                refine q_val (v := .int .i64 x.x) rfl (fun w' hw' => by have hc := hM.out w' hw'.below 0 _ rfl; go_simp) ?_
                                (intro K hK; go_simp; refine hK _ ?_; clear hK K)
                                refine q_val (v := .pointer (some ⟨mb, 1, none⟩)) rfl (fun w' hw' => by go_simp) ?_
                                (intro K hK; go_simp; refine hK _ ?_; clear hK K)
                                refine q_val (v := .int .i64 x.y) rfl (fun w' hw' => by have hc := hM.out w' hw'.below 1 _ rfl; go_simp) ?_
                                (intro K hK; go_simp; refine hK _ ?_; clear hK K)
                                refine q_fn (v := .int .i64 (bsOf x.x x.y)) (args := #[.int .i64 x.x, .int .i64 x.y]) rfl _ _ rfl rfl Tryd.func55 (by kernel_rfl) (by kernel_rfl) (fun w' hw' => (beside17_any x.x x.y w').mono (fun e w'' ⟨he, hw⟩ => ⟨he, hw.symm ▸ hw'⟩)) ?_
                                (intro K hK; go_simp; refine hK _ ?_; clear hK K)
                                refine q_val (v := .pointer (some ⟨mb, 2, none⟩)) rfl (fun w' hw' => by go_simp) ?_
                                (intro K hK; go_simp; refine hK _ ?_; clear hK K)
                                refine q_val (v := .slice x.A x.n x.c) rfl (fun w' hw' => by have hc := hM.out w' hw'.below 2 _ rfl; go_simp) ?_
                                (intro K hK; go_simp; refine hK _ ?_; clear hK K)
                                refine q_val (v := .int .i64 (x.n : Int)) rfl (fun w' hw' => by go_simp) ?_
                                (intro K hK; go_simp; refine hK _ ?_; clear hK K)
                                refine q_val (v := .bool false) rfl (fun w' hw' => by go_simp) ?_
                                (intro K hK; go_simp; refine hK _ ?_; clear hK K)
                                refine q_val (v := .bool false) rfl (fun w' hw' => by go_simp) ?_
                                (intro K hK; go_simp; refine hK _ ?_; clear hK K)
                                refine q_move rfl (.tmp 128) rfl ?_
                                (intro K hK; go_simp; refine hK _ ?_; clear hK K)
                                refine q_move rfl (.tmp 21) rfl ?_
                                (intro K hK; go_simp; refine hK _ ?_; clear hK K)
                                refine q_val (v := .int .i64 (m : Int)) rfl (fun w' hw' => by go_simp) ?_
                                (intro K hK; go_simp; refine hK _ ?_; clear hK K)
                                refine q_val (v := .bool false) rfl (fun w' hw' => by go_simp) ?_
                                (intro K hK; go_simp; refine hK _ ?_; clear hK K)
                                refine q_val (v := .bool false) rfl (fun w' hw' => by go_simp) ?_
                                (intro K hK; go_simp; refine hK _ ?_; clear hK K)
                                refine q_move rfl (.tmp 133) rfl ?_
                                (intro K hK; go_simp; refine hK _ ?_; clear hK K)
                                refine q_move rfl (.tmp 21) rfl ?_
                                (intro K hK; go_simp; refine hK _ ?_; clear hK K)
                                refine q_val (v := .int .i64 (m : Int)) rfl (fun w' hw' => by go_simp) ?_
                                (intro K hK; go_simp; refine hK _ ?_; clear hK K)
                                refine q_val (v := .bool false) rfl (fun w' hw' => by go_simp) ?_
                                (intro K hK; go_simp; refine hK _ ?_; clear hK K)
                                refine q_val (v := .bool false) rfl (fun w' hw' => by go_simp) ?_
                                (intro K hK; go_simp; refine hK _ ?_; clear hK K)
                                refine q_move rfl (.tmp 138) rfl ?_
                                (intro K hK; go_simp; refine hK _ ?_; clear hK K)
                                refine q_move rfl (.tmp 2) rfl ?_
                                (intro K hK; go_simp; refine hK _ ?_; clear hK K)
                                refine q_val (v := .pointer (some ⟨mb, 0, none⟩)) rfl (fun w' hw' => by go_simp) ?_
                                (intro K hK; go_simp; refine hK _ ?_; clear hK K)
                                refine q_val (v := .int .i64 x.x) rfl (fun w' hw' => by have hc := hM.out w' hw'.below 0 _ rfl; go_simp) ?_
                                (intro K hK; go_simp; refine hK _ ?_; clear hK K)
                                refine q_move rfl (.tmp 18) rfl ?_
                                (intro K hK; go_simp; refine hK _ ?_; clear hK K)
                                refine q_val (v := .int .i64 (x.x - (i : Int))) rfl (fun w' hw' => by go_simp) ?_
                                (intro K hK; go_simp; refine hK _ ?_; clear hK K)
                                refine q_val (v := .int .i64 (x.x - (i : Int) - 1)) rfl (fun w' hw' => by go_simp) ?_
                                (intro K hK; go_simp; refine hK _ ?_; clear hK K)
                                refine q_val (v := .bool true) rfl (fun w' hw' => by go_simp) ?_
                                (intro K hK; go_simp; refine hK _ ?_; clear hK K)
                                refine q_val (v := .bool true) rfl (fun w' hw' => by go_simp) ?_
                                (intro K hK; go_simp; refine hK _ ?_; clear hK K)
                                refine q_nil ?_
                                intro w7 hw7
                                have h7 : Hid (Below wB.heap.size wB w7) := hWb4.out.trans (hw7.below.mono hWb4.out.size)
                                go_wp2_with fail
                                go_meet
                                case rel => exact ⟨by rw [hri.out], h7.out⟩
                              · have hcf1 : Hid (cutFrom F' (i + 1) r4 (its.drop (lo + (i + 1))) = r) := by
                                  have h := hon.out (by
                                    rintro (h | h | h)
                                    · exact k0 h
                                    · rw [hfit] at h; cases h
                                    · exact k4 h)
                                  show _ = _
                                  rw [show lo + (i + 1) = li + 1 by have := hlI.out; omega]
                                  exact h
                                have hi1 : Hid (i + 1 ≤ 1000) := by show _ ≤ _; have := hi.out; have := h1.out; omega
                                have hli1 : Hid (lo + (i + 1) ≤ n) := by show _ ≤ _; have := hlI.out; omega
                                have hr40 : Hid (0 ≤ r4) := by show _ ≤ _; omega
                                have hr42 : Hid (r4 ≤ 2097152) := by show _ ≤ _; have := hrm2.out; have := hr4e.out; omega
                                clear hstop hon
                                replace k1 := Lib.hid k1
                                replace k2 := Lib.hid k2
                                replace k3 := Lib.hid k3
                                clear hfit
                                refine q_region (Class w4) (by kernel_rfl) (by kernel_rfl) (Class.mk_ ((Below.refl _ _).drew)) ?_
                                refine q_move rfl (.tmp 19) rfl ?_
                                (intro K hK; go_simp; refine hK _ ?_; clear hK K)
                                refine q_val (v := .bool false) rfl (fun w' hw' => by go_simp) ?_
                                (intro K hK; go_simp; refine hK _ ?_; clear hK K)
                                refine q_move rfl (.tmp 117) rfl ?_
                                (intro K hK; go_simp; refine hK _ ?_; clear hK K)
                                refine q_val (v := .pointer (some ⟨mb, 0, none⟩)) rfl (fun w' hw' => by go_simp) ?_
                                (intro K hK; go_simp; refine hK _ ?_; clear hK K)
                                refine q_val (v := .int .i64 x.x) rfl (fun w' hw' => by have hc := hM.out w' hw'.below 0 _ rfl; go_simp) ?_
                                (intro K hK; go_simp; refine hK _ ?_; clear hK K)
                                refine q_val (v := .pointer (some ⟨mb, 1, none⟩)) rfl (fun w' hw' => by go_simp) ?_
                                (intro K hK; go_simp; refine hK _ ?_; clear hK K)
                                refine q_val (v := .int .i64 x.y) rfl (fun w' hw' => by have hc := hM.out w' hw'.below 1 _ rfl; go_simp) ?_
                                (intro K hK; go_simp; refine hK _ ?_; clear hK K)
                                refine q_fn (v := .int .i64 (bsOf x.x x.y)) (args := #[.int .i64 x.x, .int .i64 x.y]) rfl _ _ rfl rfl Tryd.func55 (by kernel_rfl) (by kernel_rfl) (fun w' hw' => (beside17_any x.x x.y w').mono (fun e w'' ⟨he, hw⟩ => ⟨he, hw.symm ▸ hw'⟩)) ?_
                                (intro K hK; go_simp; refine hK _ ?_; clear hK K)
                                refine q_val (v := .pointer (some ⟨mb, 2, none⟩)) rfl (fun w' hw' => by go_simp) ?_
                                (intro K hK; go_simp; refine hK _ ?_; clear hK K)
                                refine q_val (v := .slice x.A x.n x.c) rfl (fun w' hw' => by have hc := hM.out w' hw'.below 2 _ rfl; go_simp) ?_
                                (intro K hK; go_simp; refine hK _ ?_; clear hK K)
                                refine q_val (v := .int .i64 (x.n : Int)) rfl (fun w' hw' => by go_simp) ?_
                                (intro K hK; go_simp; refine hK _ ?_; clear hK K)
                                refine q_val (v := .bool false) rfl (fun w' hw' => by go_simp) ?_
                                (intro K hK; go_simp; refine hK _ ?_; clear hK K)
                                refine q_val (v := .bool false) rfl (fun w' hw' => by go_simp) ?_
                                (intro K hK; go_simp; refine hK _ ?_; clear hK K)
                                refine q_move rfl (.tmp 128) rfl ?_
                                (intro K hK; go_simp; refine hK _ ?_; clear hK K)
                                refine q_move rfl (.tmp 21) rfl ?_
                                (intro K hK; go_simp; refine hK _ ?_; clear hK K)
                                refine q_val (v := .int .i64 (m : Int)) rfl (fun w' hw' => by go_simp) ?_
                                (intro K hK; go_simp; refine hK _ ?_; clear hK K)
                                refine q_val (v := .bool false) rfl (fun w' hw' => by go_simp) ?_
                                (intro K hK; go_simp; refine hK _ ?_; clear hK K)
                                refine q_val (v := .bool false) rfl (fun w' hw' => by go_simp) ?_
                                (intro K hK; go_simp; refine hK _ ?_; clear hK K)
                                refine q_move rfl (.tmp 133) rfl ?_
                                (intro K hK; go_simp; refine hK _ ?_; clear hK K)
                                refine q_move rfl (.tmp 21) rfl ?_
                                (intro K hK; go_simp; refine hK _ ?_; clear hK K)
                                refine q_val (v := .int .i64 (m : Int)) rfl (fun w' hw' => by go_simp) ?_
                                (intro K hK; go_simp; refine hK _ ?_; clear hK K)
                                refine q_val (v := .bool false) rfl (fun w' hw' => by go_simp) ?_
                                (intro K hK; go_simp; refine hK _ ?_; clear hK K)
                                refine q_val (v := .bool false) rfl (fun w' hw' => by go_simp) ?_
                                (intro K hK; go_simp; refine hK _ ?_; clear hK K)
                                refine q_move rfl (.tmp 138) rfl ?_
                                (intro K hK; go_simp; refine hK _ ?_; clear hK K)
                                refine q_move rfl (.tmp 2) rfl ?_
                                (intro K hK; go_simp; refine hK _ ?_; clear hK K)
                                refine q_val (v := .pointer (some ⟨mb, 0, none⟩)) rfl (fun w' hw' => by go_simp) ?_
                                (intro K hK; go_simp; refine hK _ ?_; clear hK K)
                                refine q_val (v := .int .i64 x.x) rfl (fun w' hw' => by have hc := hM.out w' hw'.below 0 _ rfl; go_simp) ?_
                                (intro K hK; go_simp; refine hK _ ?_; clear hK K)
                                refine q_move rfl (.tmp 18) rfl ?_
                                (intro K hK; go_simp; refine hK _ ?_; clear hK K)
                                refine q_val (v := .int .i64 (x.x - (i : Int))) rfl (fun w' hw' => by go_simp) ?_
                                (intro K hK; go_simp; refine hK _ ?_; clear hK K)
                                refine q_val (v := .int .i64 (x.x - (i : Int) - 1)) rfl (fun w' hw' => by go_simp) ?_
                                (intro K hK; go_simp; refine hK _ ?_; clear hK K)
                                refine q_val (v := .bool false) rfl (fun w' hw' => by go_simp) ?_
                                (intro K hK; go_simp; refine hK _ ?_; clear hK K)
                                refine q_val (v := .bool false) rfl (fun w' hw' => by go_simp) ?_
                                (intro K hK; go_simp; refine hK _ ?_; clear hK K)
                                refine q_nil ?_
                                intro w7 hw7
                                have h7 : Hid (Below wB.heap.size wB w7) := hWb4.out.trans (hw7.below.mono hWb4.out.size)
                                go_wp2_with fail
                                go_roundw
                                case rel => exact ⟨i + 1, r4, by go_num, rfl, hi1.out, hli1.out, hr40.out, hr42.out, hcf1.out, h7.out⟩
                                case measure => (have := hi1.out; simp [intOf]; omega)
                        · have hri := Lib.hid (hstop.out (.inr (.inl (by
                            cases hf : fitB x.x x.y x.n m with
                            | false => rfl
                            | true =>
                              obtain ⟨f1, f2, -⟩ := fit_parts hf
                              exact absurd (bs_eq.2 ⟨f1, f2⟩) k1))))
                          clear hstop hon
                          have u1 : (bsOf x.x x.y != (x.n : Int)) = true := by rw [bne, beq_eq_false_iff_ne.2 k1]; rfl
                          replace k1 := Lib.hid k1
                          refine q_region (Class w4) (by kernel_rfl) (by kernel_rfl) (Class.mk_ ((Below.refl _ _).drew)) ?_
                          refine q_move rfl (.tmp 19) rfl ?_
                          (intro K hK; go_simp; refine hK _ ?_; clear hK K)
                          refine q_val (v := .bool false) rfl (fun w' hw' => by go_simp) ?_
                          (intro K hK; go_simp; refine hK _ ?_; clear hK K)
                          refine q_move rfl (.tmp 117) rfl ?_
                          (intro K hK; go_simp; refine hK _ ?_; clear hK K)
                          refine q_val (v := .pointer (some ⟨mb, 0, none⟩)) rfl (fun w' hw' => by go_simp) ?_
                          (intro K hK; go_simp; refine hK _ ?_; clear hK K)
                          refine q_val (v := .int .i64 x.x) rfl (fun w' hw' => by have hc := hM.out w' hw'.below 0 _ rfl; go_simp) ?_
                          (intro K hK; go_simp; refine hK _ ?_; clear hK K)
                          refine q_val (v := .pointer (some ⟨mb, 1, none⟩)) rfl (fun w' hw' => by go_simp) ?_
                          (intro K hK; go_simp; refine hK _ ?_; clear hK K)
                          refine q_val (v := .int .i64 x.y) rfl (fun w' hw' => by have hc := hM.out w' hw'.below 1 _ rfl; go_simp) ?_
                          (intro K hK; go_simp; refine hK _ ?_; clear hK K)
                          refine q_fn (v := .int .i64 (bsOf x.x x.y)) (args := #[.int .i64 x.x, .int .i64 x.y]) rfl _ _ rfl rfl Tryd.func55 (by kernel_rfl) (by kernel_rfl) (fun w' hw' => (beside17_any x.x x.y w').mono (fun e w'' ⟨he, hw⟩ => ⟨he, hw.symm ▸ hw'⟩)) ?_
                          (intro K hK; go_simp; refine hK _ ?_; clear hK K)
                          refine q_val (v := .pointer (some ⟨mb, 2, none⟩)) rfl (fun w' hw' => by go_simp) ?_
                          (intro K hK; go_simp; refine hK _ ?_; clear hK K)
                          refine q_val (v := .slice x.A x.n x.c) rfl (fun w' hw' => by have hc := hM.out w' hw'.below 2 _ rfl; go_simp) ?_
                          (intro K hK; go_simp; refine hK _ ?_; clear hK K)
                          refine q_val (v := .int .i64 (x.n : Int)) rfl (fun w' hw' => by go_simp) ?_
                          (intro K hK; go_simp; refine hK _ ?_; clear hK K)
                          refine q_val (v := .bool true) rfl (fun w' hw' => by go_simp) ?_
                          (intro K hK; go_simp; refine hK _ ?_; clear hK K)
                          refine q_val (v := .bool true) rfl (fun w' hw' => by go_simp) ?_
                          (intro K hK; go_simp; refine hK _ ?_; clear hK K)
                          refine q_move rfl (.tmp 128) rfl ?_
                          (intro K hK; go_simp; refine hK _ ?_; clear hK K)
                          refine q_skip rfl ?_
                          (intro K hK; go_simp; refine hK _ ?_; clear hK K)
                          refine q_skip rfl ?_
                          (intro K hK; go_simp; refine hK _ ?_; clear hK K)
                          refine q_skip rfl ?_
                          (intro K hK; go_simp; refine hK _ ?_; clear hK K)
                          refine q_val (v := .bool true) rfl (fun w' hw' => by go_simp) ?_
                          (intro K hK; go_simp; refine hK _ ?_; clear hK K)
                          refine q_move rfl (.tmp 133) rfl ?_
                          (intro K hK; go_simp; refine hK _ ?_; clear hK K)
                          refine q_skip rfl ?_
                          (intro K hK; go_simp; refine hK _ ?_; clear hK K)
                          refine q_skip rfl ?_
                          (intro K hK; go_simp; refine hK _ ?_; clear hK K)
                          refine q_skip rfl ?_
                          (intro K hK; go_simp; refine hK _ ?_; clear hK K)
                          refine q_val (v := .bool true) rfl (fun w' hw' => by go_simp) ?_
                          (intro K hK; go_simp; refine hK _ ?_; clear hK K)
                          refine q_move rfl (.tmp 138) rfl ?_
                          (intro K hK; go_simp; refine hK _ ?_; clear hK K)
                          refine q_skip rfl ?_
                          (intro K hK; go_simp; refine hK _ ?_; clear hK K)
                          refine q_skip rfl ?_
                          (intro K hK; go_simp; refine hK _ ?_; clear hK K)
                          refine q_skip rfl ?_
                          (intro K hK; go_simp; refine hK _ ?_; clear hK K)
                          refine q_skip rfl ?_
                          (intro K hK; go_simp; refine hK _ ?_; clear hK K)
                          refine q_skip rfl ?_
                          (intro K hK; go_simp; refine hK _ ?_; clear hK K)
                          refine q_skip rfl ?_
                          (intro K hK; go_simp; refine hK _ ?_; clear hK K)
                          refine q_skip rfl ?_
                          (intro K hK; go_simp; refine hK _ ?_; clear hK K)
                          refine q_val (v := .bool true) rfl (fun w' hw' => by go_simp) ?_
                          (intro K hK; go_simp; refine hK _ ?_; clear hK K)
                          refine q_nil ?_
                          intro w7 hw7
                          have h7 : Hid (Below wB.heap.size wB w7) := hWb4.out.trans (hw7.below.mono hWb4.out.size)
                          go_wp2_with fail
                          go_meet
                          case rel => exact ⟨by rw [hri.out], h7.out⟩
                    · have z3 : ¬ ((li : Int) < (n : Int)) := by omega
                      have hri : Hid ((r : Int) = (i : Int)) := by
                        have h := hcf.out
                        rw [List.drop_of_length_le (by have := hil.out; omega), cut_none] at h
                        show _ = _
                        omega
                      replace h2 := Lib.hid h2
                      go_wp2_with fail
                      go_meet
                      case rel => exact ⟨by rw [hri.out], hWb.out⟩
              case rest =>
                obtain ⟨rfl, hbc⟩ := hcut
                obtain ⟨wq, rfl⟩ : ∃ wq, wq = wc := ⟨_, rfl⟩
                have hbq : Hid (Below w.heap.size w wq) := hbe.out.trans (hbc.out.mono hbe.out.size)
                have hBq : Hid (Blk wq w.heap.size 23 (cells8 b').toArray) := (hbc.out.block _ hB.out.lt).trans hB.out
                have hLq : Hid (RL w.heap.size (some ⟨bE, oE, none⟩) (some ⟨bP, oP, none⟩) es ps wq q Al cl l) := hL.out.below hbc.out
                clear hbc hB hL hbe hcf0 y7
                by_cases hr0 : r = 0
                · subst hr0
                  have hW0 : Hid (W = none) := hInv.out.stuck (by have := hn.out; have := hlt'.out; omega) hr.out
                  go_wp2_with fail
                  go_ret2
                  exact rpost_no hW0.out rfl hbq.out
                · have y5 : ¬ ((r : Int) = 0) := by omega
                  have y6 : ¬ (r = 0) := hr0
                  obtain ⟨hi_, hhi⟩ : ∃ x, Hid (lo + r = x) := ⟨_, Lib.hid rfl⟩
                  obtain ⟨ce, hce⟩ : ∃ x, Hid (c - lo = x) := ⟨_, Lib.hid rfl⟩
                  obtain ⟨cp, hcp⟩ : ∃ x, Hid (c2 - lo = x) := ⟨_, Lib.hid rfl⟩
                  obtain ⟨eA, heA⟩ : ∃ x, Hid (dropA (some ⟨bE, oE, none⟩) lo 1 = x) := ⟨_, Lib.hid rfl⟩
                  obtain ⟨pA, hpA⟩ : ∃ x, Hid (dropA (some ⟨bP, oP, none⟩) lo 3 = x) := ⟨_, Lib.hid rfl⟩
                  have hrl : Hid (r ≤ n - lo) := reach_lt hr.out hil.out
                  have hrl2 : Hid (hi_ ≤ n) := by show _ ≤ _; have := hrl.out; have := hhi.out; omega
                  have z6 : IntKind.i64.wrap ((lo : Int) + (r : Int)) = (hi_ : Int) := by rw [IntWalk.i64_in _ (by have := hrl.out; omega)]; have := hhi.out; omega
                  have hXe2 : Hid (∀ w', (Instr.sliceAt 24 (.slice (some ⟨bE, oE, none⟩) n c) (some (.int .i64 (lo : Int))) (some (.int .i64 (hi_ : Int))) none).run Tryd.prog w' = .ok (.slice eA r ce) w') := fun w' => by
                    have := run_part (P := Tryd.prog) (t := 24) (A := some ⟨bE, oE, none⟩) (n := n) (c := c) (l := lo) (m := hi_) (sz := 1) Tryd.underlying24 (fun _ => rfl) (by have := hhi.out; omega) hrl2.out hnc _ _ rfl rfl w'
                    rw [heA.out, show hi_ - lo = r by have := hhi.out; omega, hce.out] at this
                    exact this
                  have hXp2 : Hid (∀ w', (Instr.sliceAt 25 (.slice (some ⟨bP, oP, none⟩) n c2) (some (.int .i64 (lo : Int))) (some (.int .i64 (hi_ : Int))) none).run Tryd.prog w' = .ok (.slice pA r cp) w') := fun w' => by
                    have := run_part (P := Tryd.prog) (t := 25) (A := some ⟨bP, oP, none⟩) (n := n) (c := c2) (l := lo) (m := hi_) (sz := 3) Tryd.underlying25 (fun _ => rfl) (by have := hhi.out; omega) hrl2.out hmc _ _ rfl rfl w'
                    rw [hpA.out, show hi_ - lo = r by have := hhi.out; omega, hcp.out] at this
                    exact this
                  obtain ⟨et, het⟩ : ∃ x, Hid ((es.drop lo).take r = x) := ⟨_, Lib.hid rfl⟩
                  obtain ⟨pc, hpc⟩ : ∃ pc : Pc, pc = ⟨s, F', b', et, (ps.drop lo).take r, eA, r, ce, pA, r, cp⟩ := ⟨_, rfl⟩
                  have hpcC : Hid (pc.cells = pieceCells s F' b' (.slice eA r ce) (.slice pA r cp)) := by show _ = _; rw [hpc]; rfl
                  have hpcl : Hid (pc.cells.length = 36) := by show _ = _; rw [hpcC.out]; exact pc_len hb'.out
                  have hpt : Hid (RPart (some ⟨bE, oE, none⟩) (some ⟨bP, oP, none⟩) es ps pc) := by
                    show RPart _ _ _ _ _
                    rw [hpc]
                    exact ⟨hb'.out, rfl, lo, by have := hrl2.out; have := hhi.out; have := hn.out; show lo + r ≤ _; omega, het.out.symm, rfl, heA.out.symm, hpA.out.symm⟩
                  have hsay : Hid (Says s es ps pc ⟨F', b', lo, r⟩) := by
                    show Says _ _ _ _ _
                    rw [hpc]
                    exact ⟨rfl, rfl, rfl, het.out.symm, rfl⟩
                  have hbuild : Hid (∀ w', (Instr.build 33 #[(0, .string s), (1, .int .i64 F'), (2, .agg (cells8 b').toArray), (3, .slice eA r ce), (4, .slice pA r cp)]).run Tryd.prog w' = .ok (.agg pc.cells.toArray) w') := fun w' => by rw [hpcC.out]; exact run_pc s F' b' hb'.out eA pA r ce r cp w'
                  have sD := Lib.hid (dig_size b' hb'.out)
                  have q1 : Hid (∀ v ∈ [pc.cells], v.length = 36) := fun v hv => by
                    obtain rfl := List.mem_singleton.1 hv
                    exact hpcl.out
                  have x1 : Hid (([pc.cells].flatten).toArray = pc.cells.toArray) := by show _ = _; rw [List.flatten_singleton]
                  obtain ⟨n0, hn0, nz0, nz1, nz2⟩ := info_partsN infoPc
                  have hone : Hid (∀ v ∈ pc.cells, v.oneCell' = true) := fun v hv => by
                    rw [hpcC.out] at hv
                    have h := pc_one (s := s) (F := F') (b := b') (E := .slice eA r ce) (P := .slice pA r cp) rfl rfl
                    rw [List.all_toArray] at h
                    exact List.all_eq_true.1 h v hv
                  have hw1 : Hid (q + 1 ≤ maxLen) := by show _ ≤ _; unfold maxLen; have := hql.out; omega
                  have hw2 : Hid ((q + 1) * 104 ≤ 140737488355328) := by show _ ≤ _; have := hql.out; omega
                  clear hpc
                  go_upto_region 22 with fail
                  have s0 : Hid (Kept (fun k => some k = Value.ownBlock (.slice Al q cl)) wq wq.drew) := (Kept.refl _ _).drew
                  refine held_start (fun w' => Kept (fun k => some k = Value.ownBlock (.slice Al q cl)) wq w') 20 rfl (by kernel_rfl) ?_
                  refine held_take (i := 0) (v := .slice Al q cl) rfl (by kernel_rfl) (by kernel_rfl) (by kernel_rfl) (fun _ _ _ h => h) s0.out (by rfl) (fun w' hw' => run_mv (.tmp 16) rfl w') ?_
                  (intro K hK; go_simp; refine hK _ ?_; clear hK K)
                  refine held_take (i := 1) (v := .string s) rfl (by kernel_rfl) (by kernel_rfl) (by kernel_rfl) (fun _ _ _ h => h) s0.out (by rfl) (fun w' hw' => run_mv (.tmp 1) rfl w') ?_
                  (intro K hK; go_simp; refine hK _ ?_; clear hK K)
                  refine held_take (i := 2) (v := .int .i64 F') rfl (by kernel_rfl) (by kernel_rfl) (by kernel_rfl) (fun _ _ _ h => h) s0.out (by rfl) (fun w' hw' => run_mv (.tmp 2) rfl w') ?_
                  (intro K hK; go_simp; refine hK _ ?_; clear hK K)
                  refine held_take (i := 3) (v := .agg ((cells8 b').toArray)) rfl (by kernel_rfl) (by kernel_rfl) (by kernel_rfl) (fun _ _ _ h => h) s0.out (by rfl) (fun w' hw' => exec_row 23 (.tmp 9) rfl (w.heap.size) rfl 23 ((cells8 b').toArray) (0, 0) _ (hBq.out.kept hw' (fun e => hLo.out _ e.symm rfl)) Tryd.underlying23 rfl sD.out) ?_
                  (intro K hK; go_simp; refine hK _ ?_; clear hK K)
                  refine held_take (i := 4) (v := .slice (some ⟨bE, oE, none⟩) n c) rfl (by kernel_rfl) (by kernel_rfl) (by kernel_rfl) (fun _ _ _ h => h) s0.out (by rfl) (fun w' hw' => run_mv (.tmp 4) rfl w') ?_
                  (intro K hK; go_simp; refine hK _ ?_; clear hK K)
                  refine held_take (i := 5) (v := .int .i64 (lo : Int)) rfl (by kernel_rfl) (by kernel_rfl) (by kernel_rfl) (fun _ _ _ h => h) s0.out (by rfl) (fun w' hw' => run_mv (.tmp 17) rfl w') ?_
                  (intro K hK; go_simp; refine hK _ ?_; clear hK K)
                  refine held_take (i := 6) (v := .int .i64 (lo : Int)) rfl (by kernel_rfl) (by kernel_rfl) (by kernel_rfl) (fun _ _ _ h => h) s0.out (by rfl) (fun w' hw' => run_mv (.tmp 17) rfl w') ?_
                  (intro K hK; go_simp; refine hK _ ?_; clear hK K)
                  refine held_take (i := 7) (v := .int .i64 (r : Int)) rfl (by kernel_rfl) (by kernel_rfl) (by kernel_rfl) (fun _ _ _ h => h) s0.out (by rfl) (fun w' hw' => run_mv (.tmp 18) rfl w') ?_
                  (intro K hK; go_simp; refine hK _ ?_; clear hK K)
                  refine held_take (i := 8) (v := .int .i64 (hi_ : Int)) rfl (by kernel_rfl) (by kernel_rfl) (by kernel_rfl) (fun _ _ _ h => h) s0.out (by rfl) (fun w' hw' => by go_simp) ?_
                  (intro K hK; go_simp; refine hK _ ?_; clear hK K)
                  refine held_take (i := 9) (v := .slice eA r ce) rfl (by kernel_rfl) (by kernel_rfl) (by kernel_rfl) (fun _ _ _ h => h) s0.out (by rfl) (fun w' hw' => by have hx := hXe2.out w'; go_simp) ?_
                  (intro K hK; go_simp; refine hK _ ?_; clear hK K)
                  refine held_take (i := 10) (v := .slice (some ⟨bP, oP, none⟩) n c2) rfl (by kernel_rfl) (by kernel_rfl) (by kernel_rfl) (fun _ _ _ h => h) s0.out (by rfl) (fun w' hw' => run_mv (.tmp 5) rfl w') ?_
                  (intro K hK; go_simp; refine hK _ ?_; clear hK K)
                  refine held_take (i := 11) (v := .int .i64 (lo : Int)) rfl (by kernel_rfl) (by kernel_rfl) (by kernel_rfl) (fun _ _ _ h => h) s0.out (by rfl) (fun w' hw' => run_mv (.tmp 17) rfl w') ?_
                  (intro K hK; go_simp; refine hK _ ?_; clear hK K)
                  refine held_take (i := 12) (v := .int .i64 (lo : Int)) rfl (by kernel_rfl) (by kernel_rfl) (by kernel_rfl) (fun _ _ _ h => h) s0.out (by rfl) (fun w' hw' => run_mv (.tmp 17) rfl w') ?_
                  (intro K hK; go_simp; refine hK _ ?_; clear hK K)
                  refine held_take (i := 13) (v := .int .i64 (r : Int)) rfl (by kernel_rfl) (by kernel_rfl) (by kernel_rfl) (fun _ _ _ h => h) s0.out (by rfl) (fun w' hw' => run_mv (.tmp 18) rfl w') ?_
                  (intro K hK; go_simp; refine hK _ ?_; clear hK K)
                  refine held_take (i := 14) (v := .int .i64 (hi_ : Int)) rfl (by kernel_rfl) (by kernel_rfl) (by kernel_rfl) (fun _ _ _ h => h) s0.out (by rfl) (fun w' hw' => by go_simp) ?_
                  (intro K hK; go_simp; refine hK _ ?_; clear hK K)
                  refine held_take (i := 15) (v := .slice pA r cp) rfl (by kernel_rfl) (by kernel_rfl) (by kernel_rfl) (fun _ _ _ h => h) s0.out (by rfl) (fun w' hw' => by have hx := hXp2.out w'; go_simp) ?_
                  (intro K hK; go_simp; refine hK _ ?_; clear hK K)
                  refine held_take (i := 16) (v := .agg pc.cells.toArray) rfl (by kernel_rfl) (by kernel_rfl) (by kernel_rfl) (fun _ _ _ h => h) s0.out (by rfl) (fun w' hw' => exec_build 33 #[(0, .tmp 153), (1, .tmp 154), (2, .tmp 155), (3, .tmp 161), (4, .tmp 167)] rfl #[(0, .string s), (1, .int .i64 F'), (2, .agg (cells8 b').toArray), (3, .slice eA r ce), (4, .slice pA r cp)] (by simp; exact ⟨rfl, rfl, rfl, rfl, rfl⟩) _ (hbuild.out w')) ?_
                  (intro K hK; go_simp; refine hK _ ?_; clear hK K)
                  have kn : Hid (Kept (fun k => some k = Value.ownBlock (.slice Al q cl)) wq (wq.drew.alloc (.cells pc.cells.toArray 33))) := s0.out.alloc _
                  have hOn : Hid ((wq.drew.alloc (.cells pc.cells.toArray 33)).ownsRow w.heap.size 33 36 (.slice Al q cl) q (l.flatMap Pc.cells)) := own_keep hLq.out.ow (Kept.of_below (S := fun _ => False) ((Below.refl _ _).drew.alloc (Nat.le_refl _) _)) (fun _ _ x => x)
                  have hnP : Hid (Reads (wq.drew.alloc (.cells pc.cells.toArray 33)) 36 (some ⟨wq.heap.size, 0, none⟩) 1 pc.cells) := Blk.reads (Blk.new wq.drew _ _) 0 _ (by rw [hpcl.out]) (fun j u hu => by rw [Nat.zero_add, List.getElem?_toArray]; exact hu)
                  have hw3 : Hid (w.heap.size ≤ (wq.drew.alloc (.cells pc.cells.toArray 33)).heap.size) := Nat.le_trans hbq.out.size kn.out.size
                  refine held_only (i := 17) rfl (by kernel_rfl) (by rfl) (fun K hK => ?_)
                  refine wp_buildAggs 38 33 1 _ rfl 36 (by decide) [pc.cells] Tryd.underlying38 size36 zeroPc rfl (by decide) (by decide) q1.out rfl ?_
                  rw [x1.out]
                  go_simp
                  refine hK _ _ kn.out ?_
                  clear hK K
                  refine held_only (i := 18) rfl (by kernel_rfl) (by rfl) (fun K hK => ?_)
                  refine wp_append_src _ (.tmp 152) (.tmp 169) 38 rfl w.heap.size 33 n0 (.agg zP) 36 104 Tryd.underlying38 hn0 nz0 nz1 nz2 rfl (by decide) (.slice Al q cl) q (l.flatMap Pc.cells) rfl hOn.out (some ⟨wq.heap.size, 0, none⟩) 1 1 pc.cells rfl hnP.out (fun e => by cases e) hone.out hw1.out hw2.out hw3.out ?_
                  intro v9 w9 hG
                  obtain ⟨A9, c9, rfl, hL9⟩ := RL.push hLq.out hG hpt.out
                  have hk9 : Hid (Kept (fun k => some k = Value.ownBlock (.slice Al q cl)) wq w9) := kn.out.trans (grew_kept hG) (fun _ _ x => x)
                  have hLo9 : Hid (∀ k, Value.ownBlock (.slice A9 (q + 1) c9) = some k → k ≠ w.heap.size) := fun k e e2 => by
                    rcases grew_new hG k e with h | h
                    · exact hLo.out k h e2
                    · have h1 := kn.out.size
                      have h2 := hBq.out.lt
                      rw [e2] at h
                      exact absurd (Nat.lt_of_lt_of_le h2 (Nat.le_trans h1 h)) (Nat.lt_irrefl _)
                  replace hL9 := Lib.hid hL9
                  clear hG
                  go_simp
                  refine hK _ _ hk9.out ?_
                  clear hK K
                  refine held_only (i := 19) rfl (by kernel_rfl) (by rfl) (fun K hK => ?_)
                  go_simp
                  refine hK _ _ hk9.out ?_
                  clear hK K
                  refine held_end (by kernel_rfl) ?_
                  have hb9 : Hid (Below w.heap.size w w9) := below_kept hbq.out hk9.out (fun k _ e => (hLq.out.ow.lt k e.symm).1) hbq.out.size
                  have hB9 : Hid (Blk w9 w.heap.size 23 (cells8 b').toArray) := hBq.out.kept hk9.out (fun e => hLo.out _ e.symm rfl)
                  clear hn0 nz0 nz1 nz2 hone hw1 hw2 q1 x1 hbuild hXe2 hXp2 sD hpcC hpcl
                  have hel : Hid (et.length = r) := by show _ = _; rw [← het.out, List.length_take, List.length_drop]; have := hrl.out; have := hn.out; omega
                  go_wp2_with fail
                  go_loopw [22] (fun v wr => ∃ li : Nat, v = .int .i64 (li : Int) ∧ Hid (lo ≤ li) ∧ Hid (li ≤ hi_) ∧ Hid (Blk wr w.heap.size 23 (cells8 (Chain.chainOf wd b' (et.take (li - lo)))).toArray) ∧ Hid (Kept (· = w.heap.size) w9 wr)) (fun v _ => hi_ - (intOf v).toNat)
                  case atStart => exact ⟨lo, rfl, Nat.le_refl _, (by show _ ≤ _; have := hhi.out; omega), (by show Blk _ _ _ _; rw [Nat.sub_self]; exact hB9.out), Kept.refl _ _⟩
                  case round =>
                    obtain ⟨li, rfl, hl1, hl2, hB3, hk3'⟩ := hrel
                    have hb3 : Hid (Below w.heap.size w wr) := below_kept hb9.out hk3'.out (fun k _ (e : k = w.heap.size) => Nat.le_of_eq e.symm) hb9.out.size
                    obtain ⟨w3, rfl⟩ : ∃ w3, w3 = wr := ⟨_, rfl⟩
                    have hi6 : (li : Int) ≤ 1000000 := by have := hl2.out; have := hrl2.out; omega
                    by_cases hlt3 : li < hi_
                    · have hz : (li : Int) < (hi_ : Int) := by omega
                      have hz0 : (0 : Int) ≤ (li : Int) := by omega
                      have hz1 : (li : Int) < (n : Int) := by have := hrl2.out; omega
                      obtain ⟨i, hIl⟩ : ∃ x, Hid (li - lo = x) := ⟨_, Lib.hid rfl⟩
                      rw [hIl.out] at hB3
                      obtain ⟨qq, hqe⟩ : ∃ q, Hid (es[li]? = some q) := ⟨_, List.getElem?_eq_getElem (by rw [hn.out]; omega)⟩
                      have hqi : Hid (et[i]? = some qq) := by
                        show _ = _
                        rw [← het.out, List.getElem?_take, if_pos (by have := hIl.out; have := hhi.out; have := hl1.out; omega), List.getElem?_drop, show lo + i = li by have := hIl.out; have := hl1.out; omega]
                        exact hqe.out
                      obtain ⟨Ai, ci, hev, hc2, hc4⟩ := hes.out li qq hqe.out
                      have hcell : w3.cell? ⟨bE, oE + li, none⟩ = some (.slice Ai qq.length ci) := (hev w3 hb3.out).1
                      have hrq : Hid (Reads w3 1 Ai qq.length (cells8 qq)) := (hev w3 hb3.out).2
                      obtain ⟨x, hx⟩ : ∃ x, Hid (x = Chain.chainOf wd b' (et.take i)) := ⟨_, Lib.hid rfl⟩
                      have hxl : Hid (x.length = 32) := by show _ = _; rw [hx.out]; exact Chain.chainOf_len wd b' hb'.out _
                      have hstc := Lib.hid (Chain.chainOf_step wd b' et i qq hqi.out)
                      rw [← hx.out] at hB3 hstc
                      obtain ⟨y, hy⟩ : ∃ y, Hid (y = Chain.leafOf wd qq) := ⟨_, Lib.hid rfl⟩
                      obtain ⟨z, hz2⟩ : ∃ z, Hid (z = Chain.linkOf wd x y) := ⟨_, Lib.hid rfl⟩
                      have hyl : Hid (y.length = 32) := by show _ = _; rw [hy.out]; exact Chain.leafOf_len _ _
                      have hzl : Hid (z.length = 32) := by show _ = _; rw [hz2.out]; exact Chain.linkOf_len _ _ _
                      rw [← hy.out, ← hz2.out] at hstc
                      have hql' := Lib.hid (hsh.out qq (List.mem_of_getElem? hqe.out))
                      replace hc2 := Lib.hid hc2
                      replace hc4 := Lib.hid hc4
                      clear hev
                      obtain ⟨mm, hmm⟩ : ∃ m, Hid (qq.length = m) := ⟨_, Lib.hid rfl⟩
                      rw [hmm.out] at hcell hrq hc2 hc4 hql'
                      have hsx : Hid ((Tryd.prog.info? 23).map (·.size) = some (cells8 x).toArray.size) := dig_size x hxl.out
                      go_upto_region 26 with fail
                      refine wp_region_class_tail 9 (Class w3) (by kernel_rfl) (by kernel_rfl) (Class.mk_ ((Below.refl _ _).drew)) ?_
                      refine wpQuiet_move rfl (.tmp 0) rfl ?_
                      (intro K hK; go_simp; refine hK _ ?_; clear hK K)
                      refine wpQuiet_load_row rfl 23 (.tmp 9) rfl w.heap.size rfl 23 ((cells8 x).toArray) (0, 0) _ (fun w' hw' => (hw'.below.block _ hB3.out.lt).trans hB3.out) Tryd.underlying23 rfl hsx.out ?_
                      (intro K hK; go_simp; refine hK _ ?_; clear hK K)
                      refine wpQuiet_move rfl (.tmp 0) rfl ?_
                      (intro K hK; go_simp; refine hK _ ?_; clear hK K)
                      refine wpQuiet_move rfl (.tmp 4) rfl ?_
                      (intro K hK; go_simp; refine hK _ ?_; clear hK K)
                      refine wpQuiet_move rfl (.tmp 22) rfl ?_
                      (intro K hK; go_simp; refine hK _ ?_; clear hK K)
                      refine wpQuiet_val (v := .pointer (some ⟨bE, oE + li, none⟩)) rfl (fun w' hw' => by go_simp) ?_
                      (intro K hK; go_simp; refine hK _ ?_; clear hK K)
                      refine wpQuiet_val (v := .slice Ai mm ci) rfl (fun w' hw' => by have hc := (hw'.below.cell (p := ⟨bE, oE + li, none⟩) (World.block_lt_of_cell? w3 _ hcell)).trans hcell; go_simp) ?_
                      (intro K hK; go_simp; refine hK _ ?_; clear hK K)
                      refine wpQuiet_fn (v := .agg (cells8 y).toArray) (args := #[.int .i64 wd, .slice Ai mm ci]) rfl _ _ rfl rfl Tryd.func57 (by kernel_rfl) (by kernel_rfl) (fun w' hw' => ((refleaf_any qq mm hmm.out Ai ci wd w' hwd.out hql'.out (hrq.out.below hw'.below) hc2.out hc4.out).mono fun e w1 ⟨he, hb1⟩ => ⟨by rw [he, hy.out]; rfl, hw'.next hb1⟩)) ?_
                      (intro K hK; go_simp; refine hK _ ?_; clear hK K)
                      refine wpQuiet_fn (v := .agg (cells8 z).toArray) (args := #[.int .i64 wd, .agg (cells8 x).toArray, .agg (cells8 y).toArray]) rfl _ _ rfl rfl Tryd.func56 (by kernel_rfl) (by kernel_rfl) (fun w' hw' => ((reflink_any x y hxl.out hyl.out wd w' hwd.out).mono fun e w1 ⟨he, hb1⟩ => ⟨by rw [he, hz2.out]; rfl, hw'.next hb1⟩)) ?_
                      (intro K hK; go_simp; refine hK _ ?_; clear hK K)
                      refine wpQuiet_nil ?_
                      intro w4 hw4
                      have hB4 := Lib.hid ((hw4.below.block _ hB3.out.lt).trans hB3.out)
                      have hk4 := Lib.hid (hk3'.out.trans (Kept.of_below (S := (· = w.heap.size)) hw4.below) (fun _ _ h => h))
                      clear hw4
                      simp only [List.drop]
                      have hs2 : Hid ((Tryd.prog.info? 23).map (·.size) = some (cells8 z).toArray.size) := dig_size z hzl.out
                      have hs3 : Hid ((cells8 x).toArray.size = (cells8 z).toArray.size) := by show _ = _; simp [cells8_len, hxl.out, hzl.out]
                      have hs4 := Lib.hid (dig_one z)
                      have hi3 : Hid (li + 1 ≤ hi_) := hlt3
                      have hi4 : Hid (lo ≤ li + 1) := by show _ ≤ _; have := hl1.out; omega
                      have hi5 : Hid (li + 1 - lo = i + 1) := by show _ = _; have := hl1.out; have := hIl.out; omega
                      clear hlt3
                      go_wp2_with ((with_reducible change wpList _ _ _ ({ dst := none, op := Op.store 23 _ _, type := _, pos := _, after := _, guard := _ } :: _) _ _); refine wpList_store_row (o := ⟨none, _, _, _, _, _⟩) rfl 23 (.tmp 9) (.tmp 187) rfl (w.heap.size) ((cells8 z).toArray) rfl rfl 23 ((cells8 x).toArray) hB4.out hs2.out hs3.out hs4.out ?_)
                      go_roundw
                      case rel => exact ⟨li + 1, by go_num, hi4.out, hi3.out, (show Blk _ _ _ _ by rw [hi5.out, hstc.out]; exact setRow_heap _ _ _ _ _ _ hB4.out), Bytes.Kept.setRow (S := (· = w.heap.size)) hk4.out rfl _⟩
                      case measure => (have := hi3.out; simp [intOf]; omega)
                    · obtain rfl : li = hi_ := by have := hl2.out; omega
                      have hT : Hid (et.take (li - lo) = et) := List.take_of_length_le (by have := hel.out; have := hhi.out; omega)
                      have hz : ¬ ((li : Int) < (li : Int)) := by omega
                      rw [hT.out] at hB3
                      have hsm : Hid (F' + (r : Nat) ≤ 1099511627776) := reach_small (by rw [hsz.out, hits.out]; exact hr.out) y6
                      have hpos := Lib.hid (beg_pos hbg.out)
                      have z10 : IntKind.i64.wrap (F' + (r : Int)) = F' + (r : Int) := IntWalk.i64_in _ (by have := hsm.out; have := hpos.out; omega)
                      have hLz : Hid (RL w.heap.size (some ⟨bE, oE, none⟩) (some ⟨bP, oP, none⟩) es ps w3 (q + 1) A9 c9 (l ++ [pc])) := hL9.out.kept hk3'.out (fun k e (e2 : k = w.heap.size) => hLo9.out k e e2)
                      have hSz : Hid (SaysR s es ps (l ++ [pc]) (ks ++ [⟨F', b', lo, r⟩])) := hSa.out.push hsay.out
                      have hIz : Hid (Inv sz (54 + s.size) (Chain.chainOf wd) es its W (ks ++ [⟨F', b', lo, r⟩]) (F' + (r : Int)) (Chain.chainOf wd b' et) li) := by
                        have h := hInv.out.step (by have := hn.out; have := hlt'.out; omega) hr.out y6
                        rw [het.out, hhi.out] at h
                        exact h
                      have hbz : Hid (begB s.data.toList (F' + (r : Int)) (Chain.chainOf wd b' et) = true) := beg_next hbg.out y6
                      have hcz : Hid ((Chain.chainOf wd b' et).length = 32) := Chain.chainOf_len wd b' hb'.out _
                      have hqz : Hid (q + 1 ≤ li) := by show _ ≤ _; have := hql.out; have := hhi.out; omega
                      have hlz : Hid (lo < li) := by show _ < _; have := hhi.out; omega
                      clear hlt3 hsm hpos
                      go_wp2_with fail
                      go_roundw
                      case rel => exact ⟨F' + (r : Int), Chain.chainOf wd b' et, li, q + 1, c9, A9, _, _, by go_num, by go_num, by go_num, hIz.out, hbz.out, hcz.out, hrl2.out, hqz.out, hSz.out, hLz.out, hLo9.out, hB3.out, hb3.out⟩
                      case measure => (have := hlz.out; have := hrl2.out; simp [intOf]; omega)
            · have hlo2 : lo = n := by have := hlo.out; omega
              subst hlo2
              have y4 : ¬ ((lo : Int) < (lo : Int)) := by omega
              have hWs : Hid (W = some ks) := hInv.out.done (by have := hn.out; omega)
              clear hlt
              go_wp2_with fail
              go_ret2
              exact ⟨Al, _, cl, l, 0, rfl, .inl ⟨ks, hWs.out, hSa.out, rfl⟩, hL.out, hbe.out⟩
end Go.Proofs.YthkdlaohaekilaaDoor.RefPieces
