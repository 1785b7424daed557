/-
  Texts of the claim, put into one file: PieceBegins, Reach, Reach2, PieceLay, SamePiece, RefPiece, EncPiece, EncOut.
-/
import Derived.Test.YtgldkfaiofkhbaaDoorZ18
import Derived.Test.YtgldkfaiofkhbaaDoorZ28
import Derived.Test.YtgldkfaiofkhbaaDoorZ15
import Derived.Test.YtgldkfaiofkhbaaDoorZ24
import Derived.Test.YtgldkfaiofkhbaaDoorZ21
import Derived.Test.YtgldkfaiofkhbaaDoorZ16
import Derived.Test.YtgldkfaiofkhbaaDoorZ26
import Derived.Test.YtgldkfaiofkhbaaDoorZ4
import Derived.Test.YtgldkfaiofkhbaaDoorZ17
import Derived.Test.YtgldkfaiofkhbaaDoorZ9

namespace Go.Proofs.YtgldkfaiofkhbaaDoor.PieceBegins
open Go Go.RowKit Go.Proofs.YtgldkfaiofkhbaaDoor Go.Proofs.YtgldkfaiofkhbaaDoor.Mem Go.Proofs.YtgldkfaiofkhbaaDoor.Sha Go.Proofs.YtgldkfaiofkhbaaDoor.Bytes Go.Proofs.YtgldkfaiofkhbaaDoor.HashMem Go.Proofs.YtgldkfaiofkhbaaDoor.DigestMem Go.Proofs.YtgldkfaiofkhbaaDoor.TreeMem Go.Proofs.YtgldkfaiofkhbaaDoor.ProofIdx Go.Proofs.YtgldkfaiofkhbaaDoor.DigEq Go.Proofs.YtgldkfaiofkhbaaDoor.Grown Go.Proofs.YtgldkfaiofkhbaaDoor.Want Go.Proofs.YtgldkfaiofkhbaaDoor.Plain Go.Proofs.YtgldkfaiofkhbaaDoor.QuietTail

/-- May a piece begin so? -/
def begB (s : List UInt8) (first : Int) (b : Text) : Bool := namedB s && (decide (0 ≤ first) && (decide (0 < first) || decide (b = List.replicate 32 0)))
theorem qDB : Tryd.prog.eqGuardType Tryd.prog.depth 23 = false := by kernel_rfl
set_option maxRecDepth 100000 in
set_option maxHeartbeats 1000000 in
theorem begins_any (s : ByteArray) (hs : s.size ≤ 140737488355328) (first : Int) (b : Text) (hb : b.length = 32) (w : World) :
    Calls Tryd.prog 82 #[.string s, .int .i64 first, .agg (cells8 b).toArray] w fun e w' => e = .returned (.bool (begB s.data.toList first b)) ∧ Below w.heap.size w w' := by
  have hN := Lib.hid (fun w' => named_any s hs w')
  obtain ⟨nb, hnb⟩ : ∃ x, namedB s.data.toList = x := ⟨_, rfl⟩
  unfold begB
  rw [hnb] at hN
  rw [hnb]
  have hq := Lib.hid (fun w' => eql_dig b (List.replicate 32 0) hb (by simp) w')
  obtain ⟨zb, hzb⟩ : ∃ x, decide (b = List.replicate 32 0) = x := ⟨_, rfl⟩
  rw [hzb] at hq
  rw [hzb]
  have hsz : Hid ((Tryd.prog.info? 23).map (·.size) = some (cells8 b).toArray.size) := by show _ = _; rw [List.size_toArray, cells8_len, hb]; exact size31
  have hb0 : Hid (Below w.heap.size w (w.alloc (.cells (cells8 b).toArray 23))) := Below.heap_below w _
  have hP : Hid (Blk (w.alloc (.cells (cells8 b).toArray 23)) w.heap.size 23 (cells8 b).toArray) := Blk.new w _ _
  clear hs hb hnb hzb
  go_enter Tryd.func82, Tryd.ntmps82
  go_upto_region 1 with fail
  generalize w.alloc (.cells (cells8 b).toArray 23) = w1 at *
  cases nb with
  | false =>
    go_wp2_with fail
    refine (hN.out _).mono ?_
    rintro e w2 ⟨rfl, rfl⟩
    go_wp2_with fail
    go_ret
    exact ⟨rfl, hb0.out⟩
  | true =>
    by_cases h1 : 0 ≤ first
    · have y1 := Lib.hid (decide_eq_true h1)
      by_cases h2 : 0 < first
      · have y2 := Lib.hid (decide_eq_true h2)
        go_wp2_with fail
        refine (hN.out _).mono ?_
        rintro e w2 ⟨rfl, rfl⟩
        go_wp2_with fail
        go_ret
        exact ⟨by rw [y1.out, y2.out]; rfl, hb0.out⟩
      · have y2 := Lib.hid (decide_eq_false h2)
        refine q_plain (Class w1) (Class.mk_ (Below.refl _ _)) ?_
        refine q_move rfl (.tmp 0) rfl ?_
        (intro K hK; go_simp; refine hK _ ?_; clear hK K)
        refine q_fn (v := .bool true) (args := #[.string s]) rfl _ _ rfl rfl Tryd.func118 (by kernel_rfl) (by kernel_rfl) (fun w' hw' => (hN.out w').mono (fun e w'' ⟨he, hw⟩ => ⟨he, hw ▸ hw'⟩)) ?_
        (intro K hK; go_simp; refine hK _ ?_; clear hK K)
        refine q_val (v := .bool true) rfl (fun w' hw' => by go_simp) ?_
        (intro K hK; go_simp; refine hK _ ?_; clear hK K)
        refine q_move rfl (.tmp 1) rfl ?_
        (intro K hK; go_simp; refine hK _ ?_; clear hK K)
        refine q_val (v := .bool true) rfl (fun w' hw' => by go_simp) ?_
        (intro K hK; go_simp; refine hK _ ?_; clear hK K)
        refine q_val (v := .bool true) rfl (fun w' hw' => by go_simp) ?_
        (intro K hK; go_simp; refine hK _ ?_; clear hK K)
        refine q_val (v := .bool true) rfl (fun w' hw' => by go_simp) ?_
        (intro K hK; go_simp; refine hK _ ?_; clear hK K)
        refine q_move rfl (.tmp 1) rfl ?_
        (intro K hK; go_simp; refine hK _ ?_; clear hK K)
        refine q_val (v := .bool false) rfl (fun w' hw' => by go_simp) ?_
        (intro K hK; go_simp; refine hK _ ?_; clear hK K)
        refine q_val (v := .bool false) rfl (fun w' hw' => by go_simp) ?_
        (intro K hK; go_simp; refine hK _ ?_; clear hK K)
        refine q_row rfl 23 (.tmp 5) rfl w.heap.size rfl 23 ((cells8 b).toArray) (0, 0) _ (fun w' hw' => (hw'.below.block _ hP.out.lt).trans hP.out) Tryd.underlying23 rfl hsz.out ?_
        (intro K hK; go_simp; refine hK _ ?_; clear hK K)
        refine q_val (v := .agg (cells8 (List.replicate 32 0)).toArray) rfl (fun w' hw' => by first | rfl | kernel_rfl) ?_
        (intro K hK; go_simp; refine hK _ ?_; clear hK K)
        refine q_val (v := .bool zb) rfl (fun w' hw' => run_cmp rfl rfl rfl qDB (hq.out w')) ?_
        (intro K hK; go_simp; refine hK _ ?_; clear hK K)
        refine q_val (v := .bool zb) rfl (fun w' hw' => by go_simp) ?_
        (intro K hK; go_simp; refine hK _ ?_; clear hK K)
        refine q_val (v := .bool zb) rfl (fun w' hw' => by go_simp) ?_
        (intro K hK; go_simp; refine hK _ ?_; clear hK K)
        refine q_val (v := .bool zb) rfl (fun w' hw' => by go_simp) ?_
        (intro K hK; go_simp; refine hK _ ?_; clear hK K)
        refine q_nil ?_
        intro w7 hw7
        have h7 : Hid (Below w.heap.size w w7) := hb0.out.trans (hw7.below.mono hb0.out.size)
        go_wp2_with fail
        go_ret
        exact ⟨by rw [y2.out]; rfl, h7.out⟩
    · have y1 := Lib.hid (decide_eq_false h1)
      go_wp2_with fail
      refine (hN.out _).mono ?_
      rintro e w2 ⟨rfl, rfl⟩
      go_wp2_with fail
      go_ret
      exact ⟨by rw [y1.out]; rfl, hb0.out⟩
end Go.Proofs.YtgldkfaiofkhbaaDoor.PieceBegins

namespace Go.Proofs.YtgldkfaiofkhbaaDoor.Reach
open Go Go.RowKit Go.Proofs.YtgldkfaiofkhbaaDoor Go.Proofs.YtgldkfaiofkhbaaDoor.Mem Go.Proofs.YtgldkfaiofkhbaaDoor.Sha Go.Proofs.YtgldkfaiofkhbaaDoor.Bytes Go.Proofs.YtgldkfaiofkhbaaDoor.HashMem Go.Proofs.YtgldkfaiofkhbaaDoor.DigestMem Go.Proofs.YtgldkfaiofkhbaaDoor.TreeMem Go.Proofs.YtgldkfaiofkhbaaDoor.ProofIdx Go.Proofs.YtgldkfaiofkhbaaDoor.DigEq Go.Proofs.YtgldkfaiofkhbaaDoor.Grown Go.Proofs.YtgldkfaiofkhbaaDoor.Want Go.Proofs.YtgldkfaiofkhbaaDoor.Plain Go.Proofs.YtgldkfaiofkhbaaDoor.QuietTail Go.Proofs.YtgldkfaiofkhbaaDoor.Ref17 Go.Proofs.YtgldkfaiofkhbaaDoor.PieceP Go.Proofs.YtgldkfaiofkhbaaDoor.PieceRow Go.Proofs.YtgldkfaiofkhbaaDoor.PieceBegins Go.Proofs.YtgldkfaiofkhbaaDoor.Prs

/-- An event with its proof, as the count sees them. -/
def itemOf (e : Text) (p : Pr) : PieceP.Item := ⟨e.length, p.x, p.y, p.n, fitB p.x p.y p.n e.length⟩
def itemsOf (es : List Text) (ps : List Pr) : List PieceP.Item := List.zipWith itemOf es ps
def firstSize (ps : List Pr) : Int := match ps with | [] => 0 | p :: _ => p.x
/-- How many of the events make a piece. -/
def reachN (s : ByteArray) (first : Int) (b : Text) (es : List Text) (ps : List Pr) : Nat := if begB s.data.toList first b = true then reachFrom first (firstSize ps) 0 (54 + s.size) none (itemsOf es ps) else 0
set_option maxRecDepth 100000 in
set_option maxHeartbeats 1000000 in
theorem reach_no (s : ByteArray) (hs : s.size ≤ 140737488355328) (first : Int) (b : Text) (hb : b.length = 32) (hno : begB s.data.toList first b = false) (A : Option Addr) (n c : Nat) (A2 : Option Addr) (m c2 : Nat) (w : World) :
    Calls Tryd.prog 83 #[.string s, .int .i64 first, .agg (cells8 b).toArray, .slice A n c, .slice A2 m c2] w fun e w' => e = .returned (.int .i64 0) ∧ Below w.heap.size w w' := by
  have hN := Lib.hid (fun w' => begins_any s hs first b hb w')
  rw [hno] at hN
  have hsz : Hid ((Tryd.prog.info? 23).map (·.size) = some (cells8 b).toArray.size) := by show _ = _; rw [List.size_toArray, cells8_len, hb]; exact size31
  have hb0 : Hid (Below w.heap.size w (w.alloc (.cells (cells8 b).toArray 23))) := Below.heap_below w _
  have hP : Hid (Blk (w.alloc (.cells (cells8 b).toArray 23)) w.heap.size 23 (cells8 b).toArray) := Blk.new w _ _
  clear hs hb hno
  go_enter Tryd.func83, Tryd.ntmps83
  go_upto_region 1 with fail
  generalize w.alloc (.cells (cells8 b).toArray 23) = w1 at *
  go_wp2_with ((with_reducible change wpList _ _ _ ({ dst := some 16, op := _, type := _, pos := _, after := _, guard := _ } :: _) _ _); refine wpList_load_row (o := ⟨some 16, _, _, _, _, _⟩) rfl 23 (.tmp 7) rfl (w.heap.size) rfl 23 ((cells8 b).toArray) (0, 0) _ hP.out Tryd.underlying23 rfl hsz.out ?_)
  refine (hN.out _).mono ?_
  rintro e w2 ⟨rfl, hk⟩
  have h2 : Hid (Below w.heap.size w w2) := hb0.out.trans (hk.mono hb0.out.size)
  clear hk hN hP
  go_wp2_with fail
  go_ret
  exact ⟨rfl, h2.out⟩
end Go.Proofs.YtgldkfaiofkhbaaDoor.Reach

namespace Go.Proofs.YtgldkfaiofkhbaaDoor.Reach2
open Go Go.RowKit Go.Proofs.YtgldkfaiofkhbaaDoor Go.Proofs.YtgldkfaiofkhbaaDoor.Mem Go.Proofs.YtgldkfaiofkhbaaDoor.Sha Go.Proofs.YtgldkfaiofkhbaaDoor.Bytes Go.Proofs.YtgldkfaiofkhbaaDoor.HashMem Go.Proofs.YtgldkfaiofkhbaaDoor.DigestMem Go.Proofs.YtgldkfaiofkhbaaDoor.TreeMem Go.Proofs.YtgldkfaiofkhbaaDoor.ProofIdx Go.Proofs.YtgldkfaiofkhbaaDoor.DigEq Go.Proofs.YtgldkfaiofkhbaaDoor.Grown Go.Proofs.YtgldkfaiofkhbaaDoor.Want Go.Proofs.YtgldkfaiofkhbaaDoor.Plain Go.Proofs.YtgldkfaiofkhbaaDoor.QuietTail Go.Proofs.YtgldkfaiofkhbaaDoor.Ref17 Go.Proofs.YtgldkfaiofkhbaaDoor.PieceP Go.Proofs.YtgldkfaiofkhbaaDoor.PieceRow Go.Proofs.YtgldkfaiofkhbaaDoor.PieceBegins Go.Proofs.YtgldkfaiofkhbaaDoor.Prs Go.Proofs.YtgldkfaiofkhbaaDoor.Reach Go.Proofs.YtgldkfaiofkhbaaDoor.Guard Go.Proofs.YtgldkfaiofkhbaaDoor.Guard2 Go.Proofs.YtgldkfaiofkhbaaDoor.ProofBeside Go.Proofs.YtgldkfaiofkhbaaDoor.ProofEnc

theorem size3 : (Tryd.prog.info? 51).map (·.size) = some 3 := by kernel_rfl
set_option maxRecDepth 100000 in
set_option maxHeartbeats 1000000 in
theorem reach_yes (s : ByteArray) (hs : s.size ≤ 64) (first : Int) (b : Text) (hb : b.length = 32) (hyes : begB s.data.toList first b = true) (es : List Text) (n : Nat) (hn : es.length = n) (hn47 : n < 140737488355328) (A : Option Addr) (c : Nat) (ps : List Pr) (hm : ps.length = n) (A2 : Option Addr) (c2 : Nat) (w : World) (hp : Pieces w A es) (hq : Prs w A2 ps) (hsh : ∀ e ∈ es, e.length < 140737488355328) (hnn : ∀ p ∈ ps, p.n < 140737488355328) :
    Calls Tryd.prog 83 #[.string s, .int .i64 first, .agg (cells8 b).toArray, .slice A n c, .slice A2 n c2] w fun e w' => e = .returned (.int .i64 (reachFrom first (firstSize ps) 0 (54 + s.size) none (itemsOf es ps) : Int)) ∧ Below w.heap.size w w' := by
  have hN := Lib.hid (fun w' => begins_any s (by omega) first b hb w')
  rw [hyes] at hN
  have hH := Lib.hid (fun w' => headBytes_any s (by omega) w')
  obtain ⟨h0, hh0⟩ : ∃ x, 54 + s.size = x := ⟨_, rfl⟩
  have hh : Hid (h0 ≤ 118) := by show _ ≤ _; omega
  rw [hh0] at hH
  rw [hh0]
  obtain ⟨ans, hans⟩ : ∃ x, Hid (reachFrom first (firstSize ps) 0 h0 none (itemsOf es ps) = x) := ⟨_, Lib.hid rfl⟩
  rw [hans.out]
  have hsz : Hid ((Tryd.prog.info? 23).map (·.size) = some (cells8 b).toArray.size) := by show _ = _; rw [List.size_toArray, cells8_len, hb]; exact size31
  have hb0 : Hid (Below w.heap.size w (w.alloc (.cells (cells8 b).toArray 23))) := Below.heap_below w _
  have hP : Hid (Blk (w.alloc (.cells (cells8 b).toArray 23)) w.heap.size 23 (cells8 b).toArray) := Blk.new w _ _
  replace hn := Lib.hid hn
  replace hm := Lib.hid hm
  replace hp := Lib.hid hp
  replace hq := Lib.hid hq
  replace hsh := Lib.hid hsh
  replace hnn := Lib.hid hnn
  replace hn47 := Lib.hid hn47
  clear hs hb hyes hh0
  go_enter Tryd.func83, Tryd.ntmps83
  go_upto_region 1 with fail
  generalize w.alloc (.cells (cells8 b).toArray 23) = w1 at *
  go_wp2_with ((with_reducible change wpList _ _ _ ({ dst := some 16, op := _, type := _, pos := _, after := _, guard := _ } :: _) _ _); refine wpList_load_row (o := ⟨some 16, _, _, _, _, _⟩) rfl 23 (.tmp 7) rfl (w.heap.size) rfl 23 ((cells8 b).toArray) (0, 0) _ hP.out Tryd.underlying23 rfl hsz.out ?_)
  refine (hN.out _).mono ?_
  rintro e w2 ⟨rfl, hk⟩
  have h2 : Hid (Below w.heap.size w w2) := hb0.out.trans (hk.mono hb0.out.size)
  clear hk hN hP hb0 hsz
  go_wp2_with fail
  refine (hH.out _).mono ?_
  rintro e w3 ⟨rfl, rfl⟩
  clear hH
  go_wp2_with fail
  go_loopw [11, 23] (fun v v2 wr => ∃ k bk : Nat, ∃ pv : Option Int, v = .int .i64 (bk : Int) ∧ v2 = .int .i64 (k : Int) ∧ Hid (k ≤ n) ∧ Hid (bk ≤ 2097152) ∧ Hid (pv = if k = 0 then none else (ps[k - 1]?).map (·.y)) ∧ Hid (reachFrom first (firstSize ps) k bk pv ((itemsOf es ps).drop k) = ans) ∧ Hid (Below w.heap.size w wr)) (fun _ v _ => n - (intOf v).toNat)
  case atStart => exact ⟨0, h0, none, rfl, rfl, (show 0 ≤ n by omega), (show h0 ≤ 2097152 by have := hh.out; omega), rfl, hans.out, h2.out⟩
  case round =>
    obtain ⟨k, bk, pv, rfl, rfl, hk, hbk, hpv, hre, hW⟩ := hrel
    by_cases hlt : k < n
    · have hz : (k : Int) < (n : Int) := by omega
      have hz0 : (0 : Int) ≤ (k : Int) := by omega
      have hz1 : (0 : Int) < (n : Int) := by omega
      have hz2 : ¬ n = 0 := by omega
      have hk47 : (k : Int) < 140737488355328 := by have := hn47.out; omega
      obtain ⟨q, hqi⟩ : ∃ q, Hid (es[k]? = some q) := ⟨_, List.getElem?_eq_getElem (by rw [hn.out]; exact hlt)⟩
      obtain ⟨x, hxi⟩ : ∃ x, Hid (ps[k]? = some x) := ⟨_, List.getElem?_eq_getElem (by rw [hm.out]; exact hlt)⟩
      obtain ⟨x0, hx0⟩ : ∃ x, Hid (ps[0]? = some x) := ⟨ps[0]'(by rw [hm.out]; omega), List.getElem?_eq_getElem _⟩
      have hfs : Hid (firstSize ps = x0.x) := by
        show firstSize ps = _
        have h := hx0.out
        cases ps with
        | nil => cases h
        | cons a l => obtain rfl := Option.some.inj h; rfl
      have hdr : Hid ((itemsOf es ps).drop k = itemOf q x :: (itemsOf es ps).drop (k + 1)) := by
        show _ = _
        have hget : (itemsOf es ps)[k]? = some (itemOf q x) := by
          unfold itemsOf
          rw [List.getElem?_zipWith, hqi.out, hxi.out]
        obtain ⟨hl, he⟩ := List.getElem?_eq_some_iff.1 hget
        rw [List.drop_eq_getElem_cons hl, he]
      rw [hdr.out, hfs.out] at hre
      obtain ⟨bA, oA, rfl, hbA, hcs⟩ := hp.out (by have := hn.out; omega)
      obtain ⟨Ae, ce, hc1, -, -, -⟩ := hcs k q hqi.out
      obtain ⟨bP, oP, rfl, hbP, hcx⟩ := hq.out.at_ hxi.out
      obtain ⟨bP', oP', heP, -, hc0⟩ := hq.out.at_ hx0.out
      injection heP with heP
      injection heP with heP1 heP2
      subst heP1 heP2
      have hcell : wr.cell? ⟨bA, oA + k, none⟩ = some (.slice Ae q.length ce) := (hW.out.cell (p := ⟨bA, oA + k, none⟩) hbA).trans hc1
      obtain ⟨m, hqm⟩ : ∃ m, Hid (q.length = m) := ⟨_, Lib.hid rfl⟩
      have hm47 : Hid (m < 140737488355328) := by have := hsh.out q (List.mem_of_getElem? hqi.out); have := hqm.out; show _ < _; omega
      have hxn : Hid (x.n < 140737488355328) := hnn.out x (List.mem_of_getElem? hxi.out)
      have hfx : Hid (∀ w', Below w.heap.size w w' → ∀ j u, x.cells[j]? = some u → w'.cell? ⟨bP, oP + k * 3 + j, none⟩ = some u) := fun w' hb j u hu => (hb.cell (p := ⟨bP, oP + k * 3 + j, none⟩) hbP).trans (by rw [show oP + k * 3 + j = oP + (3 * k + j) by omega]; exact hcx j u hu)
      have hf0 : Hid (∀ w', Below w.heap.size w w' → w'.cell? ⟨bP, oP, none⟩ = some (.int .i64 x0.x)) := fun w' hb => (hb.cell (p := ⟨bP, oP, none⟩) hbP).trans (by have := hc0 0 _ rfl; simpa using this)
      have hprev : Hid (0 < k → ∃ z, ps[k - 1]? = some z ∧ ∀ w', Below w.heap.size w w' → w'.cell? ⟨bP, oP + (k - 1) * 3 + 1, none⟩ = some (.int .i64 z.y)) := fun h0 => by
        obtain ⟨z, hz⟩ : ∃ z, ps[k - 1]? = some z := ⟨_, List.getElem?_eq_getElem (by rw [hm.out]; omega)⟩
        obtain ⟨b3, o3, e3, hb3, hc3⟩ := hq.out.at_ hz
        injection e3 with e3
        injection e3 with e31 e32
        subst e31 e32
        exact ⟨z, hz, fun w' hb => (hb.cell (p := ⟨bP, oP + (k - 1) * 3 + 1, none⟩) hbP).trans (by rw [show oP + (k - 1) * 3 + 1 = oP + (3 * (k - 1) + 1) by omega]; exact hc3 1 _ rfl)⟩
      rw [hqm.out] at hcell
      clear hcs hc1 hcx hc0
      obtain ⟨bq, hbq⟩ : ∃ b, Hid (bk + (12 + m + 32 * x.n) = b) := ⟨_, Lib.hid rfl⟩
      have hsum : wrap64 ((bk : Int) + (12 + (m : Int) + 32 * (x.n : Int))) = (bq : Int) := by rw [IntWalk.wrap64_in _ (by have := hbk.out; have := hm47.out; have := hxn.out; omega), ← hbq.out]; simp
      have hstop := Lib.hid (fun h => (reach_stop (first := first) (size := x0.x) (i := k) (b := bk) (p := pv) (x := itemOf q x) (l := (itemsOf es ps).drop (k + 1)) h).symm.trans hre.out)
      have hlow := Lib.hid (fun h => (reach_low (first := first) (size := x0.x) (i := k) (b := bk) (p := pv) (x := itemOf q x) (l := (itemsOf es ps).drop (k + 1)) h).symm.trans hre.out)
      have hon := Lib.hid (fun h h2 => (reach_on (first := first) (size := x0.x) (i := k) (b := bk) (p := pv) (x := itemOf q x) (l := (itemsOf es ps).drop (k + 1)) h h2).symm.trans hre.out)
      have hie : Hid (bk + (12 + (itemOf q x).len + 32 * (itemOf q x).ways) = bq) := by show bk + (12 + q.length + 32 * x.n) = bq; rw [hqm.out]; exact hbq.out
      rw [hie.out] at hon
      have hstop : Hid ((k = 1000 ∨ 2097152 < bq ∨ (itemOf q x).fit = false ∨ (itemOf q x).size ≠ x0.x ∨ x0.x - k - 1 < first) → k = ans) := fun h => hstop.out (by rw [hie.out]; exact h)
      have hfit : Hid (fitB x.x x.y x.n m = (itemOf q x).fit) := by show _ = fitB x.x x.y x.n q.length; rw [hqm.out]
      have hRB := Lib.hid (fun w' => rowBytes_any x.x x.y x.A x.n x.c (Nat.le_of_lt hxn.out) Ae m ce (Nat.le_of_lt hm47.out) w')
      have hRo := Lib.hid (fun w' => row_any x.x x.y x.A x.n x.c x0.x Ae m ce w')
      go_wp2_with (first
        | ((with_reducible change wpList _ _ _ ({ dst := some 33, op := _, type := _, pos := _, after := _, guard := _ } :: _) _ _); (with_reducible refine Veil.out ?_); refine wpList_partW (o := ⟨some 33, _, _, _, _, _⟩) rfl 51 (.tmp 32) rfl (bP) ((oP + k * 3)) rfl (x.cells) _ (hfx.out _ hW.out) Tryd.underlying51 rfl size3 ?_)
        | (go_at_call 125; refine (hRB.out _).mono ?_; rintro e w4 ⟨rfl, hk4⟩; have h4 : Hid (Below w.heap.size w w4) := hW.out.trans (hk4.mono hW.out.size); clear hk4))
      by_cases y1 : k = 1000
      · have z1 : ((k : Int) == 1000) = true := by simp; omega
        replace y1 := Lib.hid y1
        go_upto_region 8 with fail
        refine q_region (Class w4) (by kernel_rfl) (by kernel_rfl) (Class.mk_ ((Below.refl _ _).drew)) ?_
        refine q_move rfl (.tmp 12) rfl ?_
        (intro K hK; go_simp; refine hK _ ?_; clear hK K)
        refine q_val (v := .bool true) rfl (fun w' hw' => by go_simp) ?_
        (intro K hK; go_simp; refine hK _ ?_; clear hK K)
        refine q_move rfl (.tmp 37) rfl ?_
        (intro K hK; go_simp; refine hK _ ?_; clear hK K)
        refine q_skip rfl ?_
        (intro K hK; go_simp; refine hK _ ?_; clear hK K)
        refine q_skip rfl ?_
        (intro K hK; go_simp; refine hK _ ?_; clear hK K)
        refine q_val (v := .bool true) rfl (fun w' hw' => by go_simp) ?_
        (intro K hK; go_simp; refine hK _ ?_; clear hK K)
        refine q_move rfl (.tmp 41) rfl ?_
        (intro K hK; go_simp; refine hK _ ?_; clear hK K)
        refine q_skip rfl ?_
        (intro K hK; go_simp; refine hK _ ?_; clear hK K)
        refine q_skip rfl ?_
        (intro K hK; go_simp; refine hK _ ?_; clear hK K)
        refine q_skip rfl ?_
        (intro K hK; go_simp; refine hK _ ?_; clear hK K)
        refine q_skip rfl ?_
        (intro K hK; go_simp; refine hK _ ?_; clear hK K)
        refine q_skip rfl ?_
        (intro K hK; go_simp; refine hK _ ?_; clear hK K)
        refine q_skip rfl ?_
        (intro K hK; go_simp; refine hK _ ?_; clear hK K)
        refine q_skip rfl ?_
        (intro K hK; go_simp; refine hK _ ?_; clear hK K)
        refine q_skip rfl ?_
        (intro K hK; go_simp; refine hK _ ?_; clear hK K)
        refine q_skip rfl ?_
        (intro K hK; go_simp; refine hK _ ?_; clear hK K)
        refine q_skip rfl ?_
        (intro K hK; go_simp; refine hK _ ?_; clear hK K)
        refine q_skip rfl ?_
        (intro K hK; go_simp; refine hK _ ?_; clear hK K)
        refine q_val (v := .bool true) rfl (fun w' hw' => by go_simp) ?_
        (intro K hK; go_simp; refine hK _ ?_; clear hK K)
        refine q_move rfl (.tmp 54) rfl ?_
        (intro K hK; go_simp; refine hK _ ?_; clear hK K)
        refine q_skip rfl ?_
        (intro K hK; go_simp; refine hK _ ?_; clear hK K)
        refine q_skip rfl ?_
        (intro K hK; go_simp; refine hK _ ?_; clear hK K)
        refine q_skip rfl ?_
        (intro K hK; go_simp; refine hK _ ?_; clear hK K)
        refine q_skip rfl ?_
        (intro K hK; go_simp; refine hK _ ?_; clear hK K)
        refine q_skip rfl ?_
        (intro K hK; go_simp; refine hK _ ?_; clear hK K)
        refine q_skip rfl ?_
        (intro K hK; go_simp; refine hK _ ?_; clear hK K)
        refine q_skip rfl ?_
        (intro K hK; go_simp; refine hK _ ?_; clear hK K)
        refine q_skip rfl ?_
        (intro K hK; go_simp; refine hK _ ?_; clear hK K)
        refine q_skip rfl ?_
        (intro K hK; go_simp; refine hK _ ?_; clear hK K)
        refine q_val (v := .bool true) rfl (fun w' hw' => by go_simp) ?_
        (intro K hK; go_simp; refine hK _ ?_; clear hK K)
        refine q_nil ?_
        intro w5 hw5
        have h5 : Hid (Below w.heap.size w w5) := h4.out.trans (hw5.below.mono h4.out.size)
        have hans2 : Hid ((k : Int) = (ans : Int)) := congrArg Nat.cast (hstop.out (.inl y1.out))
        go_wp2_with fail
        go_ret
        exact ⟨by rw [← hans2.out]; rfl, h5.out⟩
      · have z1 : ((k : Int) == 1000) = false := by simp; omega
        replace y1 := Lib.hid y1
        by_cases y2 : 2097152 < bq
        · have z2 : (2097152 : Int) < (bq : Int) := by omega
          go_upto_region 8 with fail
          refine q_region (Class w4) (by kernel_rfl) (by kernel_rfl) (Class.mk_ ((Below.refl _ _).drew)) ?_
          refine q_move rfl (.tmp 12) rfl ?_
          (intro K hK; go_simp; refine hK _ ?_; clear hK K)
          refine q_val (v := .bool false) rfl (fun w' hw' => by go_simp) ?_
          (intro K hK; go_simp; refine hK _ ?_; clear hK K)
          refine q_move rfl (.tmp 37) rfl ?_
          (intro K hK; go_simp; refine hK _ ?_; clear hK K)
          refine q_move rfl (.tmp 11) rfl ?_
          (intro K hK; go_simp; refine hK _ ?_; clear hK K)
          refine q_val (v := .bool true) rfl (fun w' hw' => by go_simp) ?_
          (intro K hK; go_simp; refine hK _ ?_; clear hK K)
          refine q_val (v := .bool true) rfl (fun w' hw' => by go_simp) ?_
          (intro K hK; go_simp; refine hK _ ?_; clear hK K)
          refine q_move rfl (.tmp 41) rfl ?_
          (intro K hK; go_simp; refine hK _ ?_; clear hK K)
          refine q_skip rfl ?_
          (intro K hK; go_simp; refine hK _ ?_; clear hK K)
          refine q_skip rfl ?_
          (intro K hK; go_simp; refine hK _ ?_; clear hK K)
          refine q_skip rfl ?_
          (intro K hK; go_simp; refine hK _ ?_; clear hK K)
          refine q_skip rfl ?_
          (intro K hK; go_simp; refine hK _ ?_; clear hK K)
          refine q_skip rfl ?_
          (intro K hK; go_simp; refine hK _ ?_; clear hK K)
          refine q_skip rfl ?_
          (intro K hK; go_simp; refine hK _ ?_; clear hK K)
          refine q_skip rfl ?_
          (intro K hK; go_simp; refine hK _ ?_; clear hK K)
          refine q_skip rfl ?_
          (intro K hK; go_simp; refine hK _ ?_; clear hK K)
          refine q_skip rfl ?_
          (intro K hK; go_simp; refine hK _ ?_; clear hK K)
          refine q_skip rfl ?_
          (intro K hK; go_simp; refine hK _ ?_; clear hK K)
          refine q_skip rfl ?_
          (intro K hK; go_simp; refine hK _ ?_; clear hK K)
          refine q_val (v := .bool true) rfl (fun w' hw' => by go_simp) ?_
          (intro K hK; go_simp; refine hK _ ?_; clear hK K)
          refine q_move rfl (.tmp 54) rfl ?_
          (intro K hK; go_simp; refine hK _ ?_; clear hK K)
          refine q_skip rfl ?_
          (intro K hK; go_simp; refine hK _ ?_; clear hK K)
          refine q_skip rfl ?_
          (intro K hK; go_simp; refine hK _ ?_; clear hK K)
          refine q_skip rfl ?_
          (intro K hK; go_simp; refine hK _ ?_; clear hK K)
          refine q_skip rfl ?_
          (intro K hK; go_simp; refine hK _ ?_; clear hK K)
          refine q_skip rfl ?_
          (intro K hK; go_simp; refine hK _ ?_; clear hK K)
          refine q_skip rfl ?_
          (intro K hK; go_simp; refine hK _ ?_; clear hK K)
          refine q_skip rfl ?_
          (intro K hK; go_simp; refine hK _ ?_; clear hK K)
          refine q_skip rfl ?_
          (intro K hK; go_simp; refine hK _ ?_; clear hK K)
          refine q_skip rfl ?_
          (intro K hK; go_simp; refine hK _ ?_; clear hK K)
          refine q_val (v := .bool true) rfl (fun w' hw' => by go_simp) ?_
          (intro K hK; go_simp; refine hK _ ?_; clear hK K)
          refine q_nil ?_
          intro w5 hw5
          have h5 : Hid (Below w.heap.size w w5) := h4.out.trans (hw5.below.mono h4.out.size)
          have hans2 : Hid ((k : Int) = (ans : Int)) := congrArg Nat.cast (hstop.out (.inr (.inl y2)))
          go_wp2_with fail
          go_ret
          exact ⟨by rw [← hans2.out]; rfl, h5.out⟩
        · have z2 : ¬ (2097152 : Int) < (bq : Int) := by omega
          replace y2 := Lib.hid y2
          obtain ⟨fb, hfb⟩ : ∃ fb, Hid ((fitB x.x x.y x.n m && (x.x == x0.x)) = fb) := ⟨_, Lib.hid rfl⟩
          rw [hfb.out] at hRo
          cases fb with
          | false =>
            have y3 : Hid ((itemOf q x).fit = false ∨ (itemOf q x).size ≠ x0.x) := by
              have h := hfb.out
              rw [hfit.out, Bool.and_eq_false_iff, beq_eq_false_iff_ne] at h
              exact h
            go_upto_region 8 with fail
            refine q_region (Class w4) (by kernel_rfl) (by kernel_rfl) (Class.mk_ ((Below.refl _ _).drew)) ?_
            refine q_move rfl (.tmp 12) rfl ?_
            (intro K hK; go_simp; refine hK _ ?_; clear hK K)
            refine q_val (v := .bool false) rfl (fun w' hw' => by go_simp) ?_
            (intro K hK; go_simp; refine hK _ ?_; clear hK K)
            refine q_move rfl (.tmp 37) rfl ?_
            (intro K hK; go_simp; refine hK _ ?_; clear hK K)
            refine q_move rfl (.tmp 11) rfl ?_
            (intro K hK; go_simp; refine hK _ ?_; clear hK K)
            refine q_val (v := .bool false) rfl (fun w' hw' => by go_simp) ?_
            (intro K hK; go_simp; refine hK _ ?_; clear hK K)
            refine q_val (v := .bool false) rfl (fun w' hw' => by go_simp) ?_
            (intro K hK; go_simp; refine hK _ ?_; clear hK K)
            refine q_move rfl (.tmp 41) rfl ?_
            (intro K hK; go_simp; refine hK _ ?_; clear hK K)
            refine q_move rfl (.tmp 13) rfl ?_
            (intro K hK; go_simp; refine hK _ ?_; clear hK K)
            refine q_move rfl (.tmp 4) rfl ?_
            (intro K hK; go_simp; refine hK _ ?_; clear hK K)
            refine q_move rfl (.tmp 12) rfl ?_
            (intro K hK; go_simp; refine hK _ ?_; clear hK K)
            refine q_val (v := .pointer (some ⟨bP, oP + k * 3, none⟩)) rfl (fun w' hw' => by go_simp) ?_
            (intro K hK; go_simp; refine hK _ ?_; clear hK K)
            refine q_part rfl 51 (.tmp 46) rfl bP ((oP + k * 3)) rfl (x.cells) _ (fun w' hw' => hfx.out _ (h4.out.trans (hw'.below.mono h4.out.size))) Tryd.underlying51 rfl size3 ?_
            (intro K hK; go_simp; refine hK _ ?_; clear hK K)
            refine q_move rfl (.tmp 4) rfl ?_
            (intro K hK; go_simp; refine hK _ ?_; clear hK K)
            refine q_val (v := .pointer (some ⟨bP, oP, none⟩)) rfl (fun w' hw' => by go_simp) ?_
            (intro K hK; go_simp; refine hK _ ?_; clear hK K)
            refine q_val (v := .pointer (some ⟨bP, oP, none⟩)) rfl (fun w' hw' => by go_simp) ?_
            (intro K hK; go_simp; refine hK _ ?_; clear hK K)
            refine q_val (v := .int .i64 x0.x) rfl (fun w' hw' => by have e8 := hf0.out _ (h4.out.trans (hw'.below.mono h4.out.size)); go_simp) ?_
            (intro K hK; go_simp; refine hK _ ?_; clear hK K)
            refine q_fn (v := .bool false) (args := #[.slice Ae m ce, .agg x.cells.toArray, .int .i64 x0.x]) rfl _ _ rfl rfl Tryd.func126 (by kernel_rfl) (by kernel_rfl) (fun w' hw' => (hRo.out w').mono (fun e w'' ⟨he, hw⟩ => ⟨he, hw'.next hw⟩)) ?_
            (intro K hK; go_simp; refine hK _ ?_; clear hK K)
            refine q_val (v := .bool true) rfl (fun w' hw' => by go_simp) ?_
            (intro K hK; go_simp; refine hK _ ?_; clear hK K)
            refine q_val (v := .bool true) rfl (fun w' hw' => by go_simp) ?_
            (intro K hK; go_simp; refine hK _ ?_; clear hK K)
            refine q_move rfl (.tmp 54) rfl ?_
            (intro K hK; go_simp; refine hK _ ?_; clear hK K)
            refine q_skip rfl ?_
            (intro K hK; go_simp; refine hK _ ?_; clear hK K)
            refine q_skip rfl ?_
            (intro K hK; go_simp; refine hK _ ?_; clear hK K)
            refine q_skip rfl ?_
            (intro K hK; go_simp; refine hK _ ?_; clear hK K)
            refine q_skip rfl ?_
            (intro K hK; go_simp; refine hK _ ?_; clear hK K)
            refine q_skip rfl ?_
            (intro K hK; go_simp; refine hK _ ?_; clear hK K)
            refine q_skip rfl ?_
            (intro K hK; go_simp; refine hK _ ?_; clear hK K)
            refine q_skip rfl ?_
            (intro K hK; go_simp; refine hK _ ?_; clear hK K)
            refine q_skip rfl ?_
            (intro K hK; go_simp; refine hK _ ?_; clear hK K)
            refine q_skip rfl ?_
            (intro K hK; go_simp; refine hK _ ?_; clear hK K)
            refine q_val (v := .bool true) rfl (fun w' hw' => by go_simp) ?_
            (intro K hK; go_simp; refine hK _ ?_; clear hK K)
            refine q_nil ?_
            intro w5 hw5
            have h5 : Hid (Below w.heap.size w w5) := h4.out.trans (hw5.below.mono h4.out.size)
            have hans2 : Hid ((k : Int) = (ans : Int)) := congrArg Nat.cast (hstop.out (.inr (.inr (y3.out.elim .inl fun h => .inr (.inl h)))))
            go_wp2_with fail
            go_ret
            exact ⟨by rw [← hans2.out]; rfl, h5.out⟩
          | true =>
            have y3 : Hid ((itemOf q x).fit = true ∧ x.x = x0.x) := by
              have h := hfb.out
              rw [hfit.out, Bool.and_eq_true, beq_iff_eq] at h
              exact h
            have hin : Hid (1 ≤ x0.x ∧ x0.x ≤ 1099511627776) := by
              have h := y3.out.1
              rw [← hfit.out, y3.out.2] at h
              unfold fitB insideB at h
              simp only [Bool.and_eq_true, decide_eq_true_eq] at h
              show _ ∧ _
              omega
            have y4 : IntKind.i64.wrap (x0.x - (k : Int)) = x0.x - (k : Int) := IntWalk.i64_in _ (by have := hin.out; omega)
            have y5 : IntKind.i64.wrap (x0.x - (k : Int) - 1) = x0.x - (k : Int) - 1 := IntWalk.i64_in _ (by have := hin.out; omega)
            by_cases y6 : x0.x - k - 1 < first
            · go_upto_region 8 with fail
              refine q_region (Class w4) (by kernel_rfl) (by kernel_rfl) (Class.mk_ ((Below.refl _ _).drew)) ?_
              refine q_move rfl (.tmp 12) rfl ?_
              (intro K hK; go_simp; refine hK _ ?_; clear hK K)
              refine q_val (v := .bool false) rfl (fun w' hw' => by go_simp) ?_
              (intro K hK; go_simp; refine hK _ ?_; clear hK K)
              refine q_move rfl (.tmp 37) rfl ?_
              (intro K hK; go_simp; refine hK _ ?_; clear hK K)
              refine q_move rfl (.tmp 11) rfl ?_
              (intro K hK; go_simp; refine hK _ ?_; clear hK K)
              refine q_val (v := .bool false) rfl (fun w' hw' => by go_simp) ?_
              (intro K hK; go_simp; refine hK _ ?_; clear hK K)
              refine q_val (v := .bool false) rfl (fun w' hw' => by go_simp) ?_
              (intro K hK; go_simp; refine hK _ ?_; clear hK K)
              refine q_move rfl (.tmp 41) rfl ?_
              (intro K hK; go_simp; refine hK _ ?_; clear hK K)
              refine q_move rfl (.tmp 13) rfl ?_
              (intro K hK; go_simp; refine hK _ ?_; clear hK K)
              refine q_move rfl (.tmp 4) rfl ?_
              (intro K hK; go_simp; refine hK _ ?_; clear hK K)
              refine q_move rfl (.tmp 12) rfl ?_
              (intro K hK; go_simp; refine hK _ ?_; clear hK K)
              refine q_val (v := .pointer (some ⟨bP, oP + k * 3, none⟩)) rfl (fun w' hw' => by go_simp) ?_
              (intro K hK; go_simp; refine hK _ ?_; clear hK K)
              refine q_part rfl 51 (.tmp 46) rfl bP ((oP + k * 3)) rfl (x.cells) _ (fun w' hw' => hfx.out _ (h4.out.trans (hw'.below.mono h4.out.size))) Tryd.underlying51 rfl size3 ?_
              (intro K hK; go_simp; refine hK _ ?_; clear hK K)
              refine q_move rfl (.tmp 4) rfl ?_
              (intro K hK; go_simp; refine hK _ ?_; clear hK K)
              refine q_val (v := .pointer (some ⟨bP, oP, none⟩)) rfl (fun w' hw' => by go_simp) ?_
              (intro K hK; go_simp; refine hK _ ?_; clear hK K)
              refine q_val (v := .pointer (some ⟨bP, oP, none⟩)) rfl (fun w' hw' => by go_simp) ?_
              (intro K hK; go_simp; refine hK _ ?_; clear hK K)
              refine q_val (v := .int .i64 x0.x) rfl (fun w' hw' => by have e8 := hf0.out _ (h4.out.trans (hw'.below.mono h4.out.size)); go_simp) ?_
              (intro K hK; go_simp; refine hK _ ?_; clear hK K)
              refine q_fn (v := .bool true) (args := #[.slice Ae m ce, .agg x.cells.toArray, .int .i64 x0.x]) rfl _ _ rfl rfl Tryd.func126 (by kernel_rfl) (by kernel_rfl) (fun w' hw' => (hRo.out w').mono (fun e w'' ⟨he, hw⟩ => ⟨he, hw'.next hw⟩)) ?_
              (intro K hK; go_simp; refine hK _ ?_; clear hK K)
              refine q_val (v := .bool false) rfl (fun w' hw' => by go_simp) ?_
              (intro K hK; go_simp; refine hK _ ?_; clear hK K)
              refine q_val (v := .bool false) rfl (fun w' hw' => by go_simp) ?_
              (intro K hK; go_simp; refine hK _ ?_; clear hK K)
              refine q_move rfl (.tmp 54) rfl ?_
              (intro K hK; go_simp; refine hK _ ?_; clear hK K)
              refine q_move rfl (.tmp 1) rfl ?_
              (intro K hK; go_simp; refine hK _ ?_; clear hK K)
              refine q_move rfl (.tmp 4) rfl ?_
              (intro K hK; go_simp; refine hK _ ?_; clear hK K)
              refine q_val (v := .pointer (some ⟨bP, oP, none⟩)) rfl (fun w' hw' => by go_simp) ?_
              (intro K hK; go_simp; refine hK _ ?_; clear hK K)
              refine q_val (v := .pointer (some ⟨bP, oP, none⟩)) rfl (fun w' hw' => by go_simp) ?_
              (intro K hK; go_simp; refine hK _ ?_; clear hK K)
              refine q_val (v := .int .i64 x0.x) rfl (fun w' hw' => by have e8 := hf0.out _ (h4.out.trans (hw'.below.mono h4.out.size)); go_simp) ?_
              (intro K hK; go_simp; refine hK _ ?_; clear hK K)
              refine q_move rfl (.tmp 12) rfl ?_
              (intro K hK; go_simp; refine hK _ ?_; clear hK K)
              refine q_val (v := .int .i64 (x0.x - (k : Int))) rfl (fun w' hw' => by go_simp) ?_
              (intro K hK; go_simp; refine hK _ ?_; clear hK K)
              refine q_val (v := .int .i64 (x0.x - (k : Int) - 1)) rfl (fun w' hw' => by go_simp) ?_
              (intro K hK; go_simp; refine hK _ ?_; clear hK K)
              refine q_val (v := .bool true) rfl (fun w' hw' => by go_simp) ?_
              (intro K hK; go_simp; refine hK _ ?_; clear hK K)
              refine q_val (v := .bool true) rfl (fun w' hw' => by go_simp) ?_
              (intro K hK; go_simp; refine hK _ ?_; clear hK K)
              refine q_nil ?_
              intro w5 hw5
              have h5 : Hid (Below w.heap.size w w5) := h4.out.trans (hw5.below.mono h4.out.size)
              have hans2 : Hid ((k : Int) = (ans : Int)) := congrArg Nat.cast (hstop.out (.inr (.inr (.inr (.inr y6)))))
              go_wp2_with fail
              go_ret
              exact ⟨by rw [← hans2.out]; rfl, h5.out⟩
            · go_upto_region 8 with fail
              refine q_region (Class w4) (by kernel_rfl) (by kernel_rfl) (Class.mk_ ((Below.refl _ _).drew)) ?_
              refine q_move rfl (.tmp 12) rfl ?_
              (intro K hK; go_simp; refine hK _ ?_; clear hK K)
              refine q_val (v := .bool false) rfl (fun w' hw' => by go_simp) ?_
              (intro K hK; go_simp; refine hK _ ?_; clear hK K)
              refine q_move rfl (.tmp 37) rfl ?_
              (intro K hK; go_simp; refine hK _ ?_; clear hK K)
              refine q_move rfl (.tmp 11) rfl ?_
              (intro K hK; go_simp; refine hK _ ?_; clear hK K)
              refine q_val (v := .bool false) rfl (fun w' hw' => by go_simp) ?_
              (intro K hK; go_simp; refine hK _ ?_; clear hK K)
              refine q_val (v := .bool false) rfl (fun w' hw' => by go_simp) ?_
              (intro K hK; go_simp; refine hK _ ?_; clear hK K)
              refine q_move rfl (.tmp 41) rfl ?_
              (intro K hK; go_simp; refine hK _ ?_; clear hK K)
              refine q_move rfl (.tmp 13) rfl ?_
              (intro K hK; go_simp; refine hK _ ?_; clear hK K)
              refine q_move rfl (.tmp 4) rfl ?_
              (intro K hK; go_simp; refine hK _ ?_; clear hK K)
              refine q_move rfl (.tmp 12) rfl ?_
              (intro K hK; go_simp; refine hK _ ?_; clear hK K)
              refine q_val (v := .pointer (some ⟨bP, oP + k * 3, none⟩)) rfl (fun w' hw' => by go_simp) ?_
              (intro K hK; go_simp; refine hK _ ?_; clear hK K)
              refine q_part rfl 51 (.tmp 46) rfl bP ((oP + k * 3)) rfl (x.cells) _ (fun w' hw' => hfx.out _ (h4.out.trans (hw'.below.mono h4.out.size))) Tryd.underlying51 rfl size3 ?_
              (intro K hK; go_simp; refine hK _ ?_; clear hK K)
              refine q_move rfl (.tmp 4) rfl ?_
              (intro K hK; go_simp; refine hK _ ?_; clear hK K)
              refine q_val (v := .pointer (some ⟨bP, oP, none⟩)) rfl (fun w' hw' => by go_simp) ?_
              (intro K hK; go_simp; refine hK _ ?_; clear hK K)
              refine q_val (v := .pointer (some ⟨bP, oP, none⟩)) rfl (fun w' hw' => by go_simp) ?_
              (intro K hK; go_simp; refine hK _ ?_; clear hK K)
              refine q_val (v := .int .i64 x0.x) rfl (fun w' hw' => by have e8 := hf0.out _ (h4.out.trans (hw'.below.mono h4.out.size)); go_simp) ?_
              (intro K hK; go_simp; refine hK _ ?_; clear hK K)
              refine q_fn (v := .bool true) (args := #[.slice Ae m ce, .agg x.cells.toArray, .int .i64 x0.x]) rfl _ _ rfl rfl Tryd.func126 (by kernel_rfl) (by kernel_rfl) (fun w' hw' => (hRo.out w').mono (fun e w'' ⟨he, hw⟩ => ⟨he, hw'.next hw⟩)) ?_
              (intro K hK; go_simp; refine hK _ ?_; clear hK K)
              refine q_val (v := .bool false) rfl (fun w' hw' => by go_simp) ?_
              (intro K hK; go_simp; refine hK _ ?_; clear hK K)
              refine q_val (v := .bool false) rfl (fun w' hw' => by go_simp) ?_
              (intro K hK; go_simp; refine hK _ ?_; clear hK K)
              refine q_move rfl (.tmp 54) rfl ?_
              (intro K hK; go_simp; refine hK _ ?_; clear hK K)
              refine q_move rfl (.tmp 1) rfl ?_
              (intro K hK; go_simp; refine hK _ ?_; clear hK K)
              refine q_move rfl (.tmp 4) rfl ?_
              (intro K hK; go_simp; refine hK _ ?_; clear hK K)
              refine q_val (v := .pointer (some ⟨bP, oP, none⟩)) rfl (fun w' hw' => by go_simp) ?_
              (intro K hK; go_simp; refine hK _ ?_; clear hK K)
              refine q_val (v := .pointer (some ⟨bP, oP, none⟩)) rfl (fun w' hw' => by go_simp) ?_
              (intro K hK; go_simp; refine hK _ ?_; clear hK K)
              refine q_val (v := .int .i64 x0.x) rfl (fun w' hw' => by have e8 := hf0.out _ (h4.out.trans (hw'.below.mono h4.out.size)); go_simp) ?_
              (intro K hK; go_simp; refine hK _ ?_; clear hK K)
              refine q_move rfl (.tmp 12) rfl ?_
              (intro K hK; go_simp; refine hK _ ?_; clear hK K)
              refine q_val (v := .int .i64 (x0.x - (k : Int))) rfl (fun w' hw' => by go_simp) ?_
              (intro K hK; go_simp; refine hK _ ?_; clear hK K)
              refine q_val (v := .int .i64 (x0.x - (k : Int) - 1)) rfl (fun w' hw' => by go_simp) ?_
              (intro K hK; go_simp; refine hK _ ?_; clear hK K)
              refine q_val (v := .bool false) rfl (fun w' hw' => by go_simp) ?_
              (intro K hK; go_simp; refine hK _ ?_; clear hK K)
              refine q_val (v := .bool false) rfl (fun w' hw' => by go_simp) ?_
              (intro K hK; go_simp; refine hK _ ?_; clear hK K)
              refine q_nil ?_
              intro w5 hw5
              have h5 : Hid (Below w.heap.size w w5) := h4.out.trans (hw5.below.mono h4.out.size)
              have hgo : Hid (low pv x.y = false → reachFrom first x0.x (k + 1) bq (some x.y) ((itemsOf es ps).drop (k + 1)) = ans) := fun hl => hon.out (by
                rintro (h | h | h | h | h)
                · exact y1.out h
                · exact y2.out h
                · rw [y3.out.1] at h; cases h
                · exact h y3.out.2
                · exact y6 h) hl
              replace y6 := Lib.hid y6
              clear y4 y5
              have hk1 : Hid (k + 1 ≤ n) := by show _ ≤ _; omega
              have hb1 : Hid (bq ≤ 2097152) := by have := y2.out; show _ ≤ _; omega
              have hp1 : Hid (some x.y = if k + 1 = 0 then none else (ps[k + 1 - 1]?).map (·.y)) := by show _ = _; rw [if_neg (by omega), Nat.add_sub_cancel, hxi.out]; rfl
              by_cases h0 : k = 0
              · have hl : low pv x.y = false := by rw [hpv.out, if_pos h0]; rfl
                have hgo1 := Lib.hid (hgo.out hl)
                have z5 := Lib.hid h0
                clear h0 hl hgo hon hstop hlow
                go_upto_region 10 with fail
                refine q_region (Class w5) (by kernel_rfl) (by kernel_rfl) (Class.mk_ ((Below.refl _ _).drew)) ?_
                refine q_move rfl (.tmp 12) rfl ?_
                (intro K hK; go_simp; refine hK _ ?_; clear hK K)
                refine q_val (v := .bool false) rfl (fun w' hw' => by (go_simp; have := z5.out; omega)) ?_
                (intro K hK; go_simp; refine hK _ ?_; clear hK K)
                refine q_move rfl (.tmp 68) rfl ?_
                (intro K hK; go_simp; refine hK _ ?_; clear hK K)
                refine q_skip rfl ?_
                (intro K hK; go_simp; refine hK _ ?_; clear hK K)
                refine q_skip rfl ?_
                (intro K hK; go_simp; refine hK _ ?_; clear hK K)
                refine q_skip rfl ?_
                (intro K hK; go_simp; refine hK _ ?_; clear hK K)
                refine q_skip rfl ?_
                (intro K hK; go_simp; refine hK _ ?_; clear hK K)
                refine q_skip rfl ?_
                (intro K hK; go_simp; refine hK _ ?_; clear hK K)
                refine q_skip rfl ?_
                (intro K hK; go_simp; refine hK _ ?_; clear hK K)
                refine q_skip rfl ?_
                (intro K hK; go_simp; refine hK _ ?_; clear hK K)
                refine q_skip rfl ?_
                (intro K hK; go_simp; refine hK _ ?_; clear hK K)
                refine q_skip rfl ?_
                (intro K hK; go_simp; refine hK _ ?_; clear hK K)
                refine q_skip rfl ?_
                (intro K hK; go_simp; refine hK _ ?_; clear hK K)
                refine q_skip rfl ?_
                (intro K hK; go_simp; refine hK _ ?_; clear hK K)
                refine q_skip rfl ?_
                (intro K hK; go_simp; refine hK _ ?_; clear hK K)
                refine q_val (v := .bool false) rfl (fun w' hw' => by go_simp) ?_
                (intro K hK; go_simp; refine hK _ ?_; clear hK K)
                refine q_nil ?_
                intro w6 hw6
                have h6 : Hid (Below w.heap.size w w6) := h5.out.trans (hw6.below.mono h5.out.size)
                go_wp2_with fail
                go_roundw
                case rel => exact ⟨k + 1, bq, some x.y, rfl, by go_num, hk1.out, hb1.out, hp1.out, (show reachFrom _ _ _ _ _ _ = _ by rw [hfs.out]; exact hgo1.out), h6.out⟩
                case measure => (have := hk1.out; simp [intOf]; omega)
              · have z5 : Hid (0 < k) := by show _ < _; omega
                obtain ⟨z, hz, hzc⟩ := hprev.out (by omega)
                obtain ⟨kp, hkp⟩ : ∃ kp, k - 1 = kp := ⟨_, rfl⟩
                have hpz : pv = some z.y := by rw [hpv.out, if_neg h0, hz]; rfl
                rw [hkp] at hzc
                have z7 : IntKind.i64.wrap ((k : Int) - 1) = (kp : Int) := by rw [IntWalk.i64_in _ (by omega)]; omega
                have z8 : (kp : Int) < (n : Int) := by omega
                have z9 : (0 : Int) ≤ (kp : Int) := by omega
                replace hzc := Lib.hid hzc
                replace hkp := Lib.hid hkp
                replace h0 := Lib.hid h0
                by_cases hy : x.y ≤ z.y
                · have hl : low pv x.y = true := by rw [hpz]; exact decide_eq_true hy
                  have hans2 : Hid ((k : Int) = (ans : Int)) := congrArg Nat.cast (hlow.out hl)
                  clear hl hpz hz hgo hon hstop hlow
                  go_upto_region 10 with fail
                  refine q_region (Class w5) (by kernel_rfl) (by kernel_rfl) (Class.mk_ ((Below.refl _ _).drew)) ?_
                  refine q_move rfl (.tmp 12) rfl ?_
                  (intro K hK; go_simp; refine hK _ ?_; clear hK K)
                  refine q_val (v := .bool true) rfl (fun w' hw' => by (go_simp; have := z5.out; omega)) ?_
                  (intro K hK; go_simp; refine hK _ ?_; clear hK K)
                  refine q_move rfl (.tmp 68) rfl ?_
                  (intro K hK; go_simp; refine hK _ ?_; clear hK K)
                  refine q_move rfl (.tmp 4) rfl ?_
                  (intro K hK; go_simp; refine hK _ ?_; clear hK K)
                  refine q_move rfl (.tmp 12) rfl ?_
                  (intro K hK; go_simp; refine hK _ ?_; clear hK K)
                  refine q_val (v := .pointer (some ⟨bP, oP + k * 3, none⟩)) rfl (fun w' hw' => by go_simp) ?_
                  (intro K hK; go_simp; refine hK _ ?_; clear hK K)
                  refine q_val (v := .pointer (some ⟨bP, oP + k * 3 + 1, none⟩)) rfl (fun w' hw' => by go_simp) ?_
                  (intro K hK; go_simp; refine hK _ ?_; clear hK K)
                  refine q_val (v := .int .i64 x.y) rfl (fun w' hw' => by have e8 := hfx.out _ (h5.out.trans (hw'.below.mono h5.out.size)) 1 _ rfl; go_simp) ?_
                  (intro K hK; go_simp; refine hK _ ?_; clear hK K)
                  refine q_move rfl (.tmp 4) rfl ?_
                  (intro K hK; go_simp; refine hK _ ?_; clear hK K)
                  refine q_move rfl (.tmp 12) rfl ?_
                  (intro K hK; go_simp; refine hK _ ?_; clear hK K)
                  refine q_val (v := .int .i64 (kp : Int)) rfl (fun w' hw' => by go_simp) ?_
                  (intro K hK; go_simp; refine hK _ ?_; clear hK K)
                  refine q_val (v := .pointer (some ⟨bP, oP + kp * 3, none⟩)) rfl (fun w' hw' => by go_simp) ?_
                  (intro K hK; go_simp; refine hK _ ?_; clear hK K)
                  refine q_val (v := .pointer (some ⟨bP, oP + kp * 3 + 1, none⟩)) rfl (fun w' hw' => by go_simp) ?_
                  (intro K hK; go_simp; refine hK _ ?_; clear hK K)
                  refine q_val (v := .int .i64 z.y) rfl (fun w' hw' => by have e8 := hzc.out _ (h5.out.trans (hw'.below.mono h5.out.size)); go_simp) ?_
                  (intro K hK; go_simp; refine hK _ ?_; clear hK K)
                  refine q_val (v := .bool true) rfl (fun w' hw' => by go_simp) ?_
                  (intro K hK; go_simp; refine hK _ ?_; clear hK K)
                  refine q_val (v := .bool true) rfl (fun w' hw' => by go_simp) ?_
                  (intro K hK; go_simp; refine hK _ ?_; clear hK K)
                  refine q_nil ?_
                  intro w6 hw6
                  have h6 : Hid (Below w.heap.size w w6) := h5.out.trans (hw6.below.mono h5.out.size)
                  go_wp2_with fail
                  go_ret
                  exact ⟨by rw [← hans2.out]; rfl, h6.out⟩
                · have hl : low pv x.y = false := by rw [hpz]; exact decide_eq_false hy
                  have hgo1 := Lib.hid (hgo.out hl)
                  clear hl hpz hz hgo hon hstop hlow
                  go_upto_region 10 with fail
                  refine q_region (Class w5) (by kernel_rfl) (by kernel_rfl) (Class.mk_ ((Below.refl _ _).drew)) ?_
                  refine q_move rfl (.tmp 12) rfl ?_
                  (intro K hK; go_simp; refine hK _ ?_; clear hK K)
                  refine q_val (v := .bool true) rfl (fun w' hw' => by (go_simp; have := z5.out; omega)) ?_
                  (intro K hK; go_simp; refine hK _ ?_; clear hK K)
                  refine q_move rfl (.tmp 68) rfl ?_
                  (intro K hK; go_simp; refine hK _ ?_; clear hK K)
                  refine q_move rfl (.tmp 4) rfl ?_
                  (intro K hK; go_simp; refine hK _ ?_; clear hK K)
                  refine q_move rfl (.tmp 12) rfl ?_
                  (intro K hK; go_simp; refine hK _ ?_; clear hK K)
                  refine q_val (v := .pointer (some ⟨bP, oP + k * 3, none⟩)) rfl (fun w' hw' => by go_simp) ?_
                  (intro K hK; go_simp; refine hK _ ?_; clear hK K)
                  refine q_val (v := .pointer (some ⟨bP, oP + k * 3 + 1, none⟩)) rfl (fun w' hw' => by go_simp) ?_
                  (intro K hK; go_simp; refine hK _ ?_; clear hK K)
                  refine q_val (v := .int .i64 x.y) rfl (fun w' hw' => by have e8 := hfx.out _ (h5.out.trans (hw'.below.mono h5.out.size)) 1 _ rfl; go_simp) ?_
                  (intro K hK; go_simp; refine hK _ ?_; clear hK K)
                  refine q_move rfl (.tmp 4) rfl ?_
                  (intro K hK; go_simp; refine hK _ ?_; clear hK K)
                  refine q_move rfl (.tmp 12) rfl ?_
                  (intro K hK; go_simp; refine hK _ ?_; clear hK K)
                  refine q_val (v := .int .i64 (kp : Int)) rfl (fun w' hw' => by go_simp) ?_
                  (intro K hK; go_simp; refine hK _ ?_; clear hK K)
                  refine q_val (v := .pointer (some ⟨bP, oP + kp * 3, none⟩)) rfl (fun w' hw' => by go_simp) ?_
                  (intro K hK; go_simp; refine hK _ ?_; clear hK K)
                  refine q_val (v := .pointer (some ⟨bP, oP + kp * 3 + 1, none⟩)) rfl (fun w' hw' => by go_simp) ?_
                  (intro K hK; go_simp; refine hK _ ?_; clear hK K)
                  refine q_val (v := .int .i64 z.y) rfl (fun w' hw' => by have e8 := hzc.out _ (h5.out.trans (hw'.below.mono h5.out.size)); go_simp) ?_
                  (intro K hK; go_simp; refine hK _ ?_; clear hK K)
                  refine q_val (v := .bool false) rfl (fun w' hw' => by go_simp) ?_
                  (intro K hK; go_simp; refine hK _ ?_; clear hK K)
                  refine q_val (v := .bool false) rfl (fun w' hw' => by go_simp) ?_
                  (intro K hK; go_simp; refine hK _ ?_; clear hK K)
                  refine q_nil ?_
                  intro w6 hw6
                  have h6 : Hid (Below w.heap.size w w6) := h5.out.trans (hw6.below.mono h5.out.size)
                  go_wp2_with fail
                  go_roundw
                  case rel => exact ⟨k + 1, bq, some x.y, rfl, by go_num, hk1.out, hb1.out, hp1.out, (show reachFrom _ _ _ _ _ _ = _ by rw [hfs.out]; exact hgo1.out), h6.out⟩
                  case measure => (have := hk1.out; simp [intOf]; omega)
    · have hkn : n = k := by have := hk.out; omega
      have hz : ¬ ((k : Int) < (n : Int)) := by omega
      have hl : (itemsOf es ps).drop k = [] := List.drop_eq_nil_of_le (by unfold itemsOf; rw [List.length_zipWith, hn.out, hm.out]; omega)
      have hans2 : Hid ((n : Int) = (ans : Int)) := by
        show _ = _
        have := hre.out
        rw [hl] at this
        rw [← this, hkn]
        rfl
      clear hl hkn hre hbk hpv hlt
      go_wp2_with fail
      go_ret
      exact ⟨by rw [← hans2.out]; rfl, hW.out⟩
end Go.Proofs.YtgldkfaiofkhbaaDoor.Reach2

namespace Go.Proofs.YtgldkfaiofkhbaaDoor.PieceLay
open Go Go.RowKit Go.Proofs.YtgldkfaiofkhbaaDoor Go.Proofs.YtgldkfaiofkhbaaDoor.Mem Go.Proofs.YtgldkfaiofkhbaaDoor.Sha Go.Proofs.YtgldkfaiofkhbaaDoor.Bytes Go.Proofs.YtgldkfaiofkhbaaDoor.HashMem Go.Proofs.YtgldkfaiofkhbaaDoor.Octet Go.Proofs.YtgldkfaiofkhbaaDoor.Octet4 Go.Proofs.YtgldkfaiofkhbaaDoor.TreeMem Go.Proofs.YtgldkfaiofkhbaaDoor.ProofBeside Go.Proofs.YtgldkfaiofkhbaaDoor.ProofEnc Go.Proofs.YtgldkfaiofkhbaaDoor.ProofIdx Go.Proofs.YtgldkfaiofkhbaaDoor.ProofIdx2 Go.Proofs.YtgldkfaiofkhbaaDoor.Ref17 Go.Proofs.YtgldkfaiofkhbaaDoor.PieceP Go.Proofs.YtgldkfaiofkhbaaDoor.PieceRow Go.Proofs.YtgldkfaiofkhbaaDoor.PieceBegins Go.Proofs.YtgldkfaiofkhbaaDoor.Prs Go.Proofs.YtgldkfaiofkhbaaDoor.Reach Go.Proofs.YtgldkfaiofkhbaaDoor.Reach2 Go.Proofs.YtgldkfaiofkhbaaDoor.PieceB

/-- A piece as cells: the name, the first number, the chain ahead, the events, the proofs. -/
def pieceCells (s : ByteArray) (first : Int) (b : Text) (E P : Value) : List Value := [.string s, .int .i64 first] ++ cells8 b ++ [E, P]
section
variable {s : ByteArray} {first : Int} {b : Text} {E P : Value}
theorem pc_name : (pieceCells s first b E P)[0]? = some (.string s) := rfl
theorem pc_first : (pieceCells s first b E P)[1]? = some (.int .i64 first) := rfl
theorem pc_before (j : Nat) (v : Value) (hv : (cells8 b)[j]? = some v) : (pieceCells s first b E P)[2 + j]? = some v := by
  have hj : j < (cells8 b).length := (List.getElem?_eq_some_iff.1 hv).1
  unfold pieceCells
  rw [List.append_assoc, List.getElem?_append_right (by simp), List.getElem?_append_left (by simp; omega)]
  simpa using hv
theorem pc_events (hb : b.length = 32) : (pieceCells s first b E P)[34]? = some E := by
  unfold pieceCells
  rw [List.getElem?_append_right (by simp [cells8_len, hb])]
  simp [cells8_len, hb]
theorem pc_proofs (hb : b.length = 32) : (pieceCells s first b E P)[35]? = some P := by
  unfold pieceCells
  rw [List.getElem?_append_right (by simp [cells8_len, hb])]
  simp [cells8_len, hb]
theorem pc_len (hb : b.length = 32) : (pieceCells s first b E P).length = 36 := by simp [pieceCells, cells8_len, hb]
end
theorem size36 : (Tryd.prog.info? 83).map (·.size) = some 36 := by kernel_rfl
def rowOf (e : Text) (p : Pr) : Row := ⟨p.y.toNat, e, p.ds⟩
def rowsOf (es : List Text) (ps : List Pr) : List Row := List.zipWith rowOf es ps
/-- A piece's bytes. -/
def pieceB (s : ByteArray) (first : Int) (b : Text) (es : List Text) (ps : List Pr) : Text := [51] ++ [kb s.size] ++ nm s ++ be8 first.toNat ++ b ++ be8 (firstSize ps).toNat ++ be4 es.length ++ rowsB (rowsOf es ps)
/-- May it be laid down? -/
def okP (s : ByteArray) (first : Int) (b : Text) (es : List Text) (ps : List Pr) : Prop := es.length ≠ 0 ∧ ps.length = es.length ∧ reachN s first b es ps = es.length
instance (s : ByteArray) (first : Int) (b : Text) (es : List Text) (ps : List Pr) : Decidable (okP s first b es ps) := by unfold okP; infer_instance
def pieceWant (s : ByteArray) (first : Int) (b : Text) (es : List Text) (ps : List Pr) : Option Text := if okP s first b es ps then some (pieceB s first b es ps) else none
theorem good_all {size : Int} : ∀ {l : List PieceP.Item} {b : Nat} {p : Option Int}, goodFrom size b p l = true → ∀ x ∈ l, x.fit = true ∧ x.size = size
  | [], _, _, _, x, h => by cases h
  | y :: l, b, p, hg, x, hx => by
    have hg : ((y.fit && decide (y.size = size)) && (!low p y.num && (decide (b + (12 + y.len + 32 * y.ways) ≤ 2097152) && goodFrom size (b + (12 + y.len + 32 * y.ways)) (some y.num) l))) = true := hg
    simp only [Bool.and_eq_true, decide_eq_true_eq] at hg
    obtain ⟨⟨h1, h2⟩, -, -, h5⟩ := hg
    rcases List.mem_cons.1 hx with rfl | hx
    · exact ⟨h1, h2⟩
    · exact good_all h5 x hx
theorem items_at {es : List Text} {ps : List Pr} {i : Nat} {e : Text} {p : Pr} (h1 : es[i]? = some e) (h2 : ps[i]? = some p) : (itemsOf es ps)[i]? = some (itemOf e p) := by
  unfold itemsOf
  rw [List.getElem?_zipWith, h1, h2]
theorem rows_at {es : List Text} {ps : List Pr} {i : Nat} {e : Text} {p : Pr} (h1 : es[i]? = some e) (h2 : ps[i]? = some p) : (rowsOf es ps)[i]? = some (rowOf e p) := by
  unfold rowsOf
  rw [List.getElem?_zipWith, h1, h2]
theorem rows_len {es : List Text} {ps : List Pr} (h : ps.length = es.length) : (rowsOf es ps).length = es.length := by
  unfold rowsOf
  rw [List.length_zipWith, h, Nat.min_self]
theorem items_len {es : List Text} {ps : List Pr} (h : ps.length = es.length) : (itemsOf es ps).length = es.length := by
  unfold itemsOf
  rw [List.length_zipWith, h, Nat.min_self]
theorem fit_parts {x y : Int} {n k : Nat} (h : fitB x y n k = true) : insideB x y = true ∧ bsNum x y = (n : Int) ∧ 1 ≤ k ∧ k ≤ 65536 ∧ n ≤ 40 ∧ 1 ≤ x ∧ x ≤ 1099511627776 ∧ 0 ≤ y ∧ y < x := by
  unfold fitB at h
  simp only [Bool.and_eq_true, decide_eq_true_eq, beq_iff_eq] at h
  obtain ⟨h1, h2, h3, h4⟩ := h
  have h5 := h1
  simp only [insideB, Bool.and_eq_true, decide_eq_true_eq] at h5
  refine ⟨h1, h2, h3, h4, ?_, by omega, by omega, by omega, by omega⟩
  unfold bsNum at h2
  rw [if_pos h1] at h2
  have := besideOf_le (size := x.toNat) (i := y.toNat) (by omega)
  omega
/-- What a piece that may be holds. -/
structure Fits (s : ByteArray) (first : Int) (b : Text) (es : List Text) (ps : List Pr) : Prop where
  beg : begB s.data.toList first b = true
  s64 : s.size ≤ 64
  n0 : 0 < es.length
  n1000 : es.length ≤ 1000
  len : ps.length = es.length
  f0 : 0 ≤ first
  f40 : first ≤ 1099511627776
  x0 : 1 ≤ firstSize ps
  x40 : firstSize ps ≤ 1099511627776
  row : ∀ (i : Nat) (e : Text) (p : Pr), es[i]? = some e → ps[i]? = some p → fitB p.x p.y p.n e.length = true ∧ p.x = firstSize ps
theorem okP_fits {s : ByteArray} {first : Int} {b : Text} {es : List Text} {ps : List Pr} (h : okP s first b es ps) : Fits s first b es ps ∧ goodFrom (firstSize ps) (54 + s.size) none (itemsOf es ps) = true ∧ first ≤ firstSize ps - es.length := by
  obtain ⟨h1, h2, h3⟩ := h
  unfold reachN at h3
  split at h3
  · rename_i hb
    have hl := items_len h2
    have hr := (reach_all first (firstSize ps) (itemsOf es ps) 0 (54 + s.size) none (by rw [hl]; omega) (by omega)).1 (by rw [h3, hl]; omega)
    rw [hl, Nat.zero_add] at hr
    obtain ⟨g1, g2, g3⟩ := hr
    have hrow : ∀ (i : Nat) (e : Text) (p : Pr), es[i]? = some e → ps[i]? = some p → fitB p.x p.y p.n e.length = true ∧ p.x = firstSize ps := fun i e p he hp => good_all g1 _ (List.mem_of_getElem? (items_at he hp))
    have hbb := hb
    unfold begB namedB at hbb
    simp only [Bool.and_eq_true, decide_eq_true_eq] at hbb
    have h0 : es[0]? = some (es[0]'(by omega)) := List.getElem?_eq_getElem _
    have h0' : ps[0]? = some (ps[0]'(by omega)) := List.getElem?_eq_getElem _
    obtain ⟨k1, k2⟩ := hrow 0 _ _ h0 h0'
    obtain ⟨-, -, -, -, -, k3, k4, -, -⟩ := fit_parts k1
    rw [k2] at k3 k4
    exact ⟨⟨hb, by simpa using hbb.1.1, by omega, g2, h2, hbb.2.1, by omega, k3, k4, hrow⟩, g1, g3⟩
  · omega
/-- The rows' bytes are few. -/
theorem rowsB_le : ∀ (l : List Row), (∀ r ∈ l, Digs r.ds ∧ r.e.length ≤ 65536 ∧ r.ds.length ≤ 40) → (rowsB l).length ≤ 70000 * l.length
  | [], _ => Nat.le_refl _
  | r :: l, h => by
    obtain ⟨h1, h2, h3⟩ := h r (List.mem_cons_self ..)
    have ih := rowsB_le l (fun x hx => h x (List.mem_cons_of_mem _ hx))
    have e : rowsB (r :: l) = rowB r ++ rowsB l := by simp [rowsB]
    rw [e, List.length_append, rowB_len r h1, List.length_cons]
    omega
theorem rowsB_snoc (l : List Row) (i : Nat) (r : Row) (h : l[i]? = some r) : rowsB (l.take (i + 1)) = rowsB (l.take i) ++ rowB r := by
  rw [List.take_add_one, h, Option.toList_some]
  simp [rowsB]
/-- How many events make a piece, walked at any input. -/
theorem reach_any (s : ByteArray) (hs : s.size ≤ 140737488355328) (first : Int) (b : Text) (hb : b.length = 32) (es : List Text) (n : Nat) (hn : es.length = n) (hn47 : n < 140737488355328) (A : Option Addr) (c : Nat) (ps : List Pr) (hm : ps.length = n) (A2 : Option Addr) (c2 : Nat) (w : World) (hp : Pieces w A es) (hq : Prs w A2 ps) (hsh : ∀ e ∈ es, e.length < 140737488355328) (hnn : ∀ p ∈ ps, p.n < 140737488355328) :
    Calls Tryd.prog 83 #[.string s, .int .i64 first, .agg (cells8 b).toArray, .slice A n c, .slice A2 n c2] w fun e w' => e = .returned (.int .i64 (reachN s first b es ps : Int)) ∧ Below w.heap.size w w' := by
  unfold reachN
  split
  · rename_i h
    have h64 : s.size ≤ 64 := by
      have hbb := h
      unfold begB namedB at hbb
      simp only [Bool.and_eq_true, decide_eq_true_eq] at hbb
      simpa using hbb.1.1
    exact reach_yes s h64 first b hb h es n hn hn47 A c ps hm A2 c2 w hp hq hsh hnn
  · rename_i h
    exact reach_no s hs first b hb (by simpa using h) A n c A2 n c2 w
end Go.Proofs.YtgldkfaiofkhbaaDoor.PieceLay

namespace Go.Proofs.YtgldkfaiofkhbaaDoor.SamePiece
open Go Go.RowKit Go.Proofs.YtgldkfaiofkhbaaDoor Go.Proofs.YtgldkfaiofkhbaaDoor.Mem Go.Proofs.YtgldkfaiofkhbaaDoor.Sha Go.Proofs.YtgldkfaiofkhbaaDoor.Bytes Go.Proofs.YtgldkfaiofkhbaaDoor.TreeMem Go.Proofs.YtgldkfaiofkhbaaDoor.Held Go.Proofs.YtgldkfaiofkhbaaDoor.Grown Go.Proofs.YtgldkfaiofkhbaaDoor.Guard Go.Proofs.YtgldkfaiofkhbaaDoor.Guard2 Go.Proofs.YtgldkfaiofkhbaaDoor.Want Go.Proofs.YtgldkfaiofkhbaaDoor.Plain Go.Proofs.YtgldkfaiofkhbaaDoor.DigEq Go.Proofs.YtgldkfaiofkhbaaDoor.HeadMem Go.Proofs.YtgldkfaiofkhbaaDoor.StructEq Go.Proofs.YtgldkfaiofkhbaaDoor.Book2 Go.Proofs.YtgldkfaiofkhbaaDoor.ProofEnc Go.Proofs.YtgldkfaiofkhbaaDoor.ProofIdx Go.Proofs.YtgldkfaiofkhbaaDoor.Ref17 Go.Proofs.YtgldkfaiofkhbaaDoor.Prs Go.Proofs.YtgldkfaiofkhbaaDoor.Reach2 Go.Proofs.YtgldkfaiofkhbaaDoor.PieceLay Go.Proofs.YtgldkfaiofkhbaaDoor.Same8 Go.Proofs.YtgldkfaiofkhbaaDoor.Law17a Go.Proofs.YtgldkfaiofkhbaaDoor.SameIdx

/-- Two rows of proofs with the same in them. -/
def Alike (ps qs : List Pr) : Prop := ps.map (fun p => (p.x, p.y, p.n, p.ds)) = qs.map (fun p => (p.x, p.y, p.n, p.ds))
theorem Alike.len {ps qs : List Pr} (h : Alike ps qs) : ps.length = qs.length := by
  have := congrArg List.length h
  simpa using this
theorem Alike.at_ {ps qs : List Pr} (h : Alike ps qs) {i : Nat} {p q : Pr} (hp : ps[i]? = some p) (hq : qs[i]? = some q) : p.x = q.x ∧ p.y = q.y ∧ p.n = q.n ∧ p.ds = q.ds := by
  have e := congrArg (fun l => l[i]?) h
  simp only [List.getElem?_map, hp, hq, Option.map_some, Option.some.injEq, Prod.mk.injEq] at e
  exact e
end Go.Proofs.YtgldkfaiofkhbaaDoor.SamePiece

namespace Go.Proofs.YtgldkfaiofkhbaaDoor.RefPiece
open Go Go.RowKit Go.Proofs.YtgldkfaiofkhbaaDoor Go.Proofs.YtgldkfaiofkhbaaDoor.HeadMem Go.Proofs.YtgldkfaiofkhbaaDoor.Mem Go.Proofs.YtgldkfaiofkhbaaDoor.Sha Go.Proofs.YtgldkfaiofkhbaaDoor.Bytes Go.Proofs.YtgldkfaiofkhbaaDoor.HashMem Go.Proofs.YtgldkfaiofkhbaaDoor.Append Go.Proofs.YtgldkfaiofkhbaaDoor.Octet Go.Proofs.YtgldkfaiofkhbaaDoor.Octet2 Go.Proofs.YtgldkfaiofkhbaaDoor.Octet4 Go.Proofs.YtgldkfaiofkhbaaDoor.Own Go.Proofs.YtgldkfaiofkhbaaDoor.Held Go.Proofs.YtgldkfaiofkhbaaDoor.TreeMem Go.Proofs.YtgldkfaiofkhbaaDoor.Reader7 Go.Proofs.YtgldkfaiofkhbaaDoor.ProofBeside Go.Proofs.YtgldkfaiofkhbaaDoor.ProofEnc Go.Proofs.YtgldkfaiofkhbaaDoor.ProofIdx Go.Proofs.YtgldkfaiofkhbaaDoor.ProofIdx2 Go.Proofs.YtgldkfaiofkhbaaDoor.IdxRef0 Go.Proofs.YtgldkfaiofkhbaaDoor.IdxRef2 Go.Proofs.YtgldkfaiofkhbaaDoor.DigEq Go.Proofs.YtgldkfaiofkhbaaDoor.QuietTail Go.Proofs.YtgldkfaiofkhbaaDoor.Grown Go.Proofs.YtgldkfaiofkhbaaDoor.Want Go.Proofs.YtgldkfaiofkhbaaDoor.Plain Go.Proofs.YtgldkfaiofkhbaaDoor.Guard Go.Proofs.YtgldkfaiofkhbaaDoor.Guard2 Go.Proofs.YtgldkfaiofkhbaaDoor.Sides Go.Proofs.YtgldkfaiofkhbaaDoor.Beside17 Go.Proofs.YtgldkfaiofkhbaaDoor.Ref17 Go.Proofs.YtgldkfaiofkhbaaDoor.Ref17b Go.Proofs.YtgldkfaiofkhbaaDoor.Eight Go.Proofs.YtgldkfaiofkhbaaDoor.RefIncl0 Go.Proofs.YtgldkfaiofkhbaaDoor.PieceP Go.Proofs.YtgldkfaiofkhbaaDoor.PieceRow Go.Proofs.YtgldkfaiofkhbaaDoor.PieceBegins Go.Proofs.YtgldkfaiofkhbaaDoor.Prs Go.Proofs.YtgldkfaiofkhbaaDoor.Reach Go.Proofs.YtgldkfaiofkhbaaDoor.Reach2 Go.Proofs.YtgldkfaiofkhbaaDoor.PieceB Go.Proofs.YtgldkfaiofkhbaaDoor.PieceLay Go.Proofs.YtgldkfaiofkhbaaDoor.Ref17K

/-- May a piece's head be? -/
def headOk (s : ByteArray) (F : Int) (b : Text) (n n2 : Nat) : Prop := begB s.data.toList F b = true ∧ 1 ≤ n ∧ n ≤ 1000 ∧ n2 = n
instance (s : ByteArray) (F : Int) (b : Text) (n n2 : Nat) : Decidable (headOk s F b n n2) := by unfold headOk; infer_instance
end Go.Proofs.YtgldkfaiofkhbaaDoor.RefPiece

namespace Go.Proofs.YtgldkfaiofkhbaaDoor.EncPiece
open Go Go.RowKit Go.Proofs.YtgldkfaiofkhbaaDoor Go.Proofs.YtgldkfaiofkhbaaDoor.Mem Go.Proofs.YtgldkfaiofkhbaaDoor.Sha Go.Proofs.YtgldkfaiofkhbaaDoor.Bytes Go.Proofs.YtgldkfaiofkhbaaDoor.HashMem Go.Proofs.YtgldkfaiofkhbaaDoor.Octet Go.Proofs.YtgldkfaiofkhbaaDoor.Octet4 Go.Proofs.YtgldkfaiofkhbaaDoor.TreeMem Go.Proofs.YtgldkfaiofkhbaaDoor.ProofBeside Go.Proofs.YtgldkfaiofkhbaaDoor.ProofEnc Go.Proofs.YtgldkfaiofkhbaaDoor.ProofIdx Go.Proofs.YtgldkfaiofkhbaaDoor.ProofIdx2 Go.Proofs.YtgldkfaiofkhbaaDoor.Ref17 Go.Proofs.YtgldkfaiofkhbaaDoor.PieceP Go.Proofs.YtgldkfaiofkhbaaDoor.PieceRow Go.Proofs.YtgldkfaiofkhbaaDoor.PieceBegins Go.Proofs.YtgldkfaiofkhbaaDoor.Prs Go.Proofs.YtgldkfaiofkhbaaDoor.Reach Go.Proofs.YtgldkfaiofkhbaaDoor.Reach2 Go.Proofs.YtgldkfaiofkhbaaDoor.PieceB Go.Proofs.YtgldkfaiofkhbaaDoor.PieceLay Go.Proofs.YtgldkfaiofkhbaaDoor.Append Go.Proofs.YtgldkfaiofkhbaaDoor.Octet2 Go.Proofs.YtgldkfaiofkhbaaDoor.OctetBytes Go.Proofs.YtgldkfaiofkhbaaDoor.HeadMem Go.Proofs.YtgldkfaiofkhbaaDoor.Guard Go.Proofs.YtgldkfaiofkhbaaDoor.Guard2 Go.Proofs.YtgldkfaiofkhbaaDoor.Want Go.Proofs.YtgldkfaiofkhbaaDoor.Reader7 Go.Proofs.YtgldkfaiofkhbaaDoor.NumberNew

section
variable {w0 w : World} {g : Nat} {r : Option Nat} {l : Text}
theorem put4_from (N : Nat) (hN : N < 4294967296) (hl : l.length + 4 ≤ 140737488355328) (hW : Wrote w0 g r l w) :
    Calls Tryd.prog 85 #[.pointer (some ⟨g, 0, none⟩), .int .u32 (N : Int)] w fun e w' => e = .returned (.tuple #[]) ∧ Wrote w0 g r (l ++ be4 N) w' := by
  obtain ⟨r1, h1, k1, c1⟩ := hW
  exact (put4 g r1 l N hN w hl h1).mono fun e w' ⟨he, hx⟩ => ⟨he, Wrote.trans1 k1 c1 hx⟩
theorem wbytes_from (q : Text) (m : Nat) (hqm : q.length = m) (hm : m ≤ 65536) (A : Option Addr) (c : Nat) (hl : l.length + 4 + m ≤ 140737488355328) (hrd : Reads w0 1 A m (cells8 q)) (hnil : A = none → m = 0 ∧ c = 0) (hA : 0 < m → ∀ a, A = some a → a.block ≠ g ∧ some a.block ≠ r) (hW : Wrote w0 g r l w) :
    Calls Tryd.prog 86 #[.pointer (some ⟨g, 0, none⟩), .slice A m c, .int .i64 65536] w fun e w' => e = .returned (.int .i64 0) ∧ Wrote w0 g r (l ++ be4 m ++ q) w' := by
  obtain ⟨r1, h1, k1, c1⟩ := hW
  have hr1 : Reads w 1 A m (cells8 q) := hrd.kept0 k1 (fun hp b o e h => by
    have := hA (by omega) _ e
    rcases h with h | h
    · exact this.1 h
    · exact this.2 h)
  refine (wbytes_any g r1 l q m hqm hm A c w hl h1 hr1 hnil (fun h0 a e => ?_)).mono fun e w' ⟨he, hx⟩ => ⟨he, Wrote.trans1 k1 c1 hx⟩
  have h2 := hA h0 a e
  refine ⟨h2.1, fun e2 => ?_⟩
  rcases c1 with rfl | ⟨k, rfl, hk⟩
  · exact h2.2 e2
  · injection e2 with e2
    obtain ⟨b, o, e3, hb, _⟩ := hrd.2 (by omega)
    rw [e] at e3
    injection e3 with e3
    subst e3
    simp at e2
    omega
end

set_option maxRecDepth 100000 in
set_option maxHeartbeats 2000000 in
theorem encodePiece_yes (s : ByteArray) (F : Nat) (b : Text) (hb : b.length = 32) (es : List Text) (n : Nat) (hn : es.length = n) (A : Option Addr) (c : Nat) (ps : List Pr) (A2 : Option Addr) (c2 : Nat) (hok : okP s (F : Int) b es ps) (w : World) (hp : Pieces w A es) (hq : Prs w A2 ps) :
    Calls Tryd.prog 35 #[.agg (pieceCells s (F : Int) b (.slice A n c) (.slice A2 n c2)).toArray] w fun e w' => ∃ v, e = .returned (.tuple #[v, .int .i64 0]) ∧ Below w.heap.size w w' ∧ w'.ownsRow w.heap.size 5 1 v (pieceB s (F : Int) b es ps).length (cells8 (pieceB s (F : Int) b es ps)) := by
  obtain ⟨hfit, -, -⟩ := okP_fits hok
  have hm : ps.length = n := by rw [hfit.len, hn]
  have hn0 := hfit.n0
  have hn1000 := hfit.n1000
  have hF40 := hfit.f40
  have h64 := hfit.s64
  obtain ⟨Z, hZ⟩ : ∃ Z : Nat, firstSize ps = (Z : Int) := Int.eq_ofNat_of_zero_le (by have := hfit.x0; omega)
  have hZ40 : Z ≤ 1099511627776 := by have := hfit.x40; omega
  have hrow : ∀ (i : Nat) (e : Text) (p : Pr), es[i]? = some e → ps[i]? = some p → ∃ y : Nat, p.y = (y : Int) ∧ y ≤ 1099511627776 ∧ e.length ≤ 65536 ∧ p.n ≤ 40 := fun i e p h1 h2 => by
    obtain ⟨k1, k2⟩ := hfit.row i e p h1 h2
    obtain ⟨-, -, -, j1, j2, j3, j4, j5, j6⟩ := fit_parts k1
    obtain ⟨y, hy⟩ := Int.eq_ofNat_of_zero_le j5
    exact ⟨y, hy, by omega, j1, j2⟩
  have hsh : ∀ e ∈ es, e.length < 140737488355328 := fun e he => by
    obtain ⟨i, hi, rfl⟩ := List.getElem_of_mem he
    obtain ⟨-, -, -, h, -⟩ := hrow i _ _ (List.getElem?_eq_getElem hi) (List.getElem?_eq_getElem (show i < ps.length by omega))
    omega
  have hnn : ∀ p ∈ ps, p.n < 140737488355328 := fun p hp => by
    obtain ⟨i, hi, rfl⟩ := List.getElem_of_mem hp
    obtain ⟨-, -, -, -, h⟩ := hrow i _ _ (List.getElem?_eq_getElem (show i < es.length by omega)) (List.getElem?_eq_getElem hi)
    omega
  have hdg : ∀ p ∈ ps, Digs p.ds ∧ p.ds.length = p.n := fun p hp => ⟨(hq.2 p hp).1.2.1, (hq.2 p hp).1.1⟩
  have hrl : Hid (∀ i, (rowsB ((rowsOf es ps).take i)).length ≤ 70000 * 1000) := fun i => by
    refine Nat.le_trans (rowsB_le _ fun r hr => ?_) (Nat.mul_le_mul_left _ (by rw [List.length_take, rows_len hfit.len]; omega))
    obtain ⟨j, hj, rfl⟩ := List.getElem_of_mem (List.mem_of_mem_take hr)
    have hj' : j < es.length := by rw [rows_len hfit.len] at hj; exact hj
    have e1 := rows_at (List.getElem?_eq_getElem hj') (List.getElem?_eq_getElem (show j < ps.length by omega))
    rw [List.getElem?_eq_getElem hj] at e1
    rw [Option.some.inj e1]
    obtain ⟨y, h1, h2, h3, h4⟩ := hrow j _ _ (List.getElem?_eq_getElem hj') (List.getElem?_eq_getElem (show j < ps.length by omega))
    obtain ⟨d1, d2⟩ := hdg _ (List.getElem_mem (show j < ps.length by omega))
    exact ⟨d1, h3, by show (ps[j]).ds.length ≤ 40; rw [d2]; exact h4⟩
  have hT := Lib.hid (fun w1 h => reach_any s (by omega) (F : Int) b hb es n hn (by omega) A c ps hm A2 c2 w1 (hp.below h) (hq.below h) hsh hnn)
  rw [show reachN s (F : Int) b es ps = n by rw [hok.2.2, hn]] at hT
  obtain ⟨cs, hcs⟩ : ∃ cs : Array Value, (pieceCells s (F : Int) b (.slice A n c) (.slice A2 n c2)).toArray = cs := ⟨_, rfl⟩
  have i0 : Hid (cs[0]? = some (.string s)) := by show _ = _; rw [← hcs, List.getElem?_toArray]; exact pc_name
  have i1 : Hid (cs[1]? = some (.int .i64 (F : Int))) := by show _ = _; rw [← hcs, List.getElem?_toArray]; exact pc_first
  have ib : Hid (∀ j v, (cells8 b)[j]? = some v → cs[2 + j]? = some v) := fun j v hv => by rw [← hcs, List.getElem?_toArray]; exact pc_before j v hv
  have i34 : Hid (cs[34]? = some (.slice A n c)) := by show _ = _; rw [← hcs, List.getElem?_toArray]; exact pc_events hb
  have i35 : Hid (cs[35]? = some (.slice A2 n c2)) := by show _ = _; rw [← hcs, List.getElem?_toArray]; exact pc_proofs hb
  rw [hcs]
  have sD : Hid ((Tryd.prog.info? 23).map (·.size) = some (cells8 b).length) := agg_hi size32 (by rw [cells8_len, hb])
  have q1 : Hid (∀ v ∈ [cells8 b], v.length = 32) := by intro v hv; simp only [List.mem_singleton] at hv; rw [hv, cells8_len, hb]
  have d1 : Hid (∀ x ∈ [b], x.length = 32) := by intro v hv; simp only [List.mem_singleton] at hv; rw [hv, hb]
  obtain ⟨X1, x1⟩ : ∃ X, Hid (X = ([cells8 b].flatten).toArray) := ⟨_, rfl⟩
  have hB0 : Hid (Blk (w.alloc (.cells cs 83)) w.heap.size 83 cs) := Blk.new w _ _
  have hb0 : Hid (Below w.heap.size w (w.alloc (.cells cs 83))) := Below.heap_below w _
  have hnl := Lib.hid (nm_len s)
  obtain ⟨H, hH⟩ : ∃ H : Text, Hid (([] : Text) ++ [51] ++ [kb s.size] ++ nm s ++ be8 F ++ [b].flatten ++ be8 Z ++ ([] : List Text).flatten ++ be4 n = H) := ⟨_, Lib.hid rfl⟩
  have hHl : Hid (H.length ≤ 200) := by show _ ≤ _; rw [← hH.out]; simp [be8_len, be4_len, nm_len, hb]; omega
  have hfin : Hid (H ++ rowsB (rowsOf es ps) = pieceB s (F : Int) b es ps) := by show _ = _; rw [← hH.out]; unfold pieceB; rw [hn, hZ]; simp
  have hpl : Hid ((pieceB s (F : Int) b es ps).length ≤ 100000000) := by
    show _ ≤ _
    rw [← hfin.out, List.length_append]
    have h1 := hrl.out n
    rw [List.take_of_length_le (by rw [rows_len hfit.len, hn]; exact Nat.le_refl _)] at h1
    have := hHl.out
    omega
  generalize hPB : pieceB s (F : Int) b es ps = PB at *
  have z0 : ((n : Int) == 0) = false := by simp; omega
  have z1 : ((n : Int) != (n : Int)) = false := by simp
  have z2 : IntKind.u32.wrap (n : Int) = (n : Int) := u32_in _ (by omega) (by omega)
  obtain ⟨x0, hx0⟩ : ∃ x, Hid (ps[0]? = some x) := ⟨ps[0]'(by omega), List.getElem?_eq_getElem _⟩
  have hxZ : x0.x = (Z : Int) := by
    rw [← hZ]
    have h := hx0.out
    cases ps with
    | nil => cases h
    | cons a l => obtain rfl := Option.some.inj h; rfl
  obtain ⟨bP, oP, rfl, hbP, hc0⟩ := hq.at_ hx0.out
  have hP0 : Hid (∀ w', Below w.heap.size w w' → w'.cell? ⟨bP, oP, none⟩ = some (.int .i64 (Z : Int))) := fun w' hb => (hb.cell (p := ⟨bP, oP, none⟩) hbP).trans (by have := hc0 0 _ rfl; rw [← hxZ]; simpa using this)
  have hlen : Hid (54 + s.size ≤ 118) := by show _ ≤ _; omega
  have hFl : Hid (F < 9223372036854775808) := by show _ < _; omega
  have hZl : Hid (Z < 9223372036854775808) := by show _ < _; omega
  have e34 : (w.alloc (.cells cs 83)).cell? ⟨w.heap.size, 34, none⟩ = some (.slice A n c) := (hB0.out.cell 34).trans i34.out
  have e35 : (w.alloc (.cells cs 83)).cell? ⟨w.heap.size, 35, none⟩ = some (.slice (some ⟨bP, oP, none⟩) n c2) := (hB0.out.cell 35).trans i35.out
  have e00 : (w.alloc (.cells cs 83)).cell? ⟨w.heap.size, 0, none⟩ = some (.string s) := (hB0.out.cell 0).trans i0.out
  have e01 : (w.alloc (.cells cs 83)).cell? ⟨w.heap.size, 1, none⟩ = some (.int .i64 (F : Int)) := (hB0.out.cell 1).trans i1.out
  have fB : Hid (∀ j v, (cells8 b)[j]? = some v → (w.alloc (.cells cs 83)).cell? ⟨w.heap.size, 2 + j, none⟩ = some v) := fun j v hv => (hB0.out.cell (2 + j)).trans (ib.out j v hv)
  have hnI : (0 : Int) < (n : Int) := by omega
  have hn0 : ¬ n = 0 := by omega
  have hzs : Hid ((w.alloc (.cells cs 83)).heap.size = w.heap.size + 1) := by show _ = _; simp
  replace hn := Lib.hid hn
  replace hm := Lib.hid hm
  replace h64 := Lib.hid h64
  replace hn1000 := Lib.hid hn1000
  replace hrow := Lib.hid hrow
  replace hdg := Lib.hid hdg
  replace hp := Lib.hid hp
  replace hq := Lib.hid hq
  replace hPB := Lib.hid hPB
  replace hb := Lib.hid hb
  have h8 := Lib.hid be8_len
  clear hok hfit hF40 hZ hZ40 hsh hnn hcs hc0 hxZ
  go_enter Tryd.func35, Tryd.ntmps35
  go_wp2_with (first
    | ((with_reducible change wpList _ _ _ ({ dst := some 26, op := _, type := _, pos := _, after := _, guard := _ } :: _) _ _); (with_reducible refine Veil.out ?_); refine wpList_partW (o := ⟨some 26, _, _, _, _, _⟩) rfl 23 (.tmp 25) rfl (w.heap.size) (2) rfl (cells8 b) _ fB.out Tryd.underlying23 rfl sD.out ?_)
    | (go_at_call 83; refine (hT.out _ hb0.out).mono ?_; rintro e w1 ⟨rfl, hb1⟩; rw [hzs.out] at hb1; have hB1 := Lib.hid ((hb1.block w.heap.size (by omega)).trans hB0.out); have bb1 := Lib.hid (hb0.out.trans (hb1.mono (by omega))); have hlt1 : Hid (w.heap.size < w1.heap.size) := (by have := hb1.size; have := hzs.out; show _ < _; omega); clear hb1 e34 e35 e00 e01 fB hT)
    | (go_at_call 57; refine (new_any _).mono ?_; rintro e w2 ⟨rfl, rfl⟩; have hN := Lib.hid (WrAt.new w1).refl; have hBB : Hid (∀ w' l, Wrote (w1.alloc (.cells #[.slice none 0 0] 171)) w1.heap.size none l w' → ∀ j v, cs[j]? = some v → w'.cell? ⟨w.heap.size, j, none⟩ = some v) := (fun w' l h j v hv => ((h.blk (Blk.alloc hB1.out _) (by have := hlt1.out; omega) (by simp)).cell j).trans hv); have hbW : Hid (∀ w' l, Wrote (w1.alloc (.cells #[.slice none 0 0] 171)) w1.heap.size none l w' → Below w.heap.size w w') := (fun w' l h => (bb1.out.alloc bb1.out.size _).trans (h.below (fun _ e => by cases e) (B := w.heap.size) (by have := hlt1.out; omega) (by have := hlt1.out; simp; omega))); have hW0 : Hid (∀ size A' m xs, Reads w size A' m xs → Reads (w1.alloc (.cells #[.slice none 0 0] 171)) size A' m xs) := (fun size A' m xs h => (h.below bb1.out).alloc _); have hNil := Lib.hid (Reads.nil_ (w1.alloc (.cells #[.slice none 0 0] 171)) 32 none))
    | (go_at_call 58; refine (put1_from 51 51 rfl (by simp) hN.out).mono ?_; rintro e w3 ⟨rfl, hW3⟩; have e3 := hBB.out w3 _ hW3 0 _ i0.out; replace hW3 := Lib.hid hW3; clear hN)
    | (go_at_call 73; refine (name_from s h64.out (by have := h64.out; simp; omega) hW3.out).mono ?_; rintro e w4 ⟨rfl, hW4⟩; have e4 := hBB.out w4 _ hW4 1 _ i1.out; have f4 : Hid (∀ j v, (cells8 b)[j]? = some v → w4.cell? ⟨w.heap.size, 2 + j, none⟩ = some v) := (fun j v hv => hBB.out w4 _ hW4 (2 + j) v (ib.out j v hv)); replace hW4 := Lib.hid hW4; clear hW3 e3)
    | ((with_reducible change wpList _ _ _ ({ dst := some 46, op := _, type := _, pos := _, after := _, guard := _ } :: _) _ _); (with_reducible refine Veil.out ?_); refine wpList_partW (o := ⟨some 46, _, _, _, _, _⟩) rfl 23 (.tmp 45) rfl (w.heap.size) (2) rfl (cells8 b) _ f4.out Tryd.underlying23 rfl sD.out ?_)
    | ((with_reducible change wpList _ _ _ ({ dst := some 47, op := _, type := _, pos := _, after := _, guard := _ } :: _) _ _); refine wpList_buildAggs (o := ⟨some 47, _, _, _, _, _⟩) rfl 42 23 1 _ rfl 32 (by decide) [cells8 b] Tryd.underlying42 size32 zero32 rfl (by decide) (by decide) q1.out rfl ?_; rw [← x1.out])
    | (go_at_call 59; have tok := hW4; rw [show X1 = (([b].map cells8).flatten).toArray from x1.out]; refine (number_new F hFl.out [b] 1 rfl d1.out (by have := h64.out; have := hnl.out; simp; omega) hW4.out).mono ?_; rintro e w5 ⟨rfl, hW5⟩; have e5 := hBB.out w5 _ hW5 35 _ i35.out; have e50 := hP0.out w5 (hbW.out w5 _ hW5); replace hW5 := Lib.hid hW5; clear tok hW4 e4 f4)
    | (go_at_call 59; have tok := hW5; refine (number_from Z hZl.out [] 0 rfl (by simp) none 0 (by have := h64.out; have := hnl.out; have := h8.out; have := hb.out; simp [be8_len]; omega) hNil.out (fun h => absurd h (by simp)) hW5.out).mono ?_; rintro e w6 ⟨rfl, hW6⟩; replace hW6 := Lib.hid hW6; clear tok hW5 e5 e50)
    | (go_at_call 85; refine (put4_from n (by have := hn1000.out; have := hn.out; omega) (by have := h64.out; have := hnl.out; have := hb.out; simp [be8_len]; omega) hW6.out).mono ?_; rintro e w7 ⟨rfl, hW7⟩; have e7 := hBB.out w7 _ hW7 34 _ i34.out; rw [hH.out] at hW7; replace hW7 := Lib.hid hW7; clear hW6))
  generalize w1.heap.size = g at *
  generalize w1.alloc (.cells #[.slice none 0 0] 171) = W0 at *
  go_loopw [63] (fun v wr => ∃ i : Nat, v = .int .i64 (i : Int) ∧ Hid (i ≤ n) ∧ Hid (Wrote W0 g none (H ++ rowsB ((rowsOf es ps).take i)) wr)) (fun v _ => n - (intOf v).toNat)
  case atStart => exact ⟨0, rfl, (show 0 ≤ n by omega), (show Wrote _ _ _ _ _ by rw [List.take_zero]; simpa [rowsB] using hW7.out)⟩
  case round =>
    clear hW7
    obtain ⟨i, rfl, hi, hW⟩ := hrel
    have hBr := Lib.hid (hbW.out wr _ hW.out)
    by_cases hlt : i < n
    · have hz : (i : Int) < (n : Int) := by omega
      have hz0 : (0 : Int) ≤ (i : Int) := by omega
      have hz47 : (i : Int) < 9223372036854775807 := by have := hn1000.out; have := hn.out; omega
      obtain ⟨q, hqi⟩ : ∃ q, Hid (es[i]? = some q) := ⟨_, List.getElem?_eq_getElem (by rw [hn.out]; exact hlt)⟩
      obtain ⟨x, hxi⟩ : ∃ x, Hid (ps[i]? = some x) := ⟨ps[i]'(by rw [hm.out]; omega), List.getElem?_eq_getElem _⟩
      obtain ⟨y, hy, hy40, hq6, hx40⟩ := hrow.out i q x hqi.out hxi.out
      obtain ⟨bA, oA, rfl, hbA, hcs⟩ := hp.out (by have := hn.out; omega)
      obtain ⟨Ae, ce, hc1, hc2, hc3, hc4⟩ := hcs i q hqi.out
      obtain ⟨bP', oP', heP, -, hcx⟩ := hq.out.at_ hxi.out
      injection heP with heP
      injection heP with heP1 heP2
      subst heP1 heP2
      obtain ⟨m, hqm⟩ : ∃ m, Hid (q.length = m) := ⟨_, Lib.hid rfl⟩
      have hrd := Lib.hid (hq.out.2 x (List.mem_of_getElem? hxi.out)).1
      obtain ⟨L, hL⟩ : ∃ L, Hid (H ++ rowsB ((rowsOf es ps).take i) = L) := ⟨_, Lib.hid rfl⟩
      have hLl : Hid (L.length ≤ 70000200) := by show _ ≤ _; rw [← hL.out, List.length_append]; have := hrl.out i; have := hHl.out; omega
      have hstep : Hid (L ++ be8 y ++ ([] : List Text).flatten ++ be4 m ++ q ++ x.ds.flatten = H ++ rowsB ((rowsOf es ps).take (i + 1))) := by
        show _ = _
        rw [rowsB_snoc _ _ _ (rows_at hqi.out hxi.out), ← List.append_assoc, hL.out]
        simp [rowOf, rowB, hy, hqm.out]
      rw [hL.out] at hW
      have c1 : wr.cell? ⟨bA, oA + i, none⟩ = some (.slice Ae m ce) := (hBr.out.cell (p := ⟨bA, oA + i, none⟩) hbA).trans (by rw [← hqm.out]; exact hc1)
      have hPc : Hid (∀ w', Below w.heap.size w w' → w'.cell? ⟨bP, oP + i * 3 + 1, none⟩ = some (.int .i64 (y : Int)) ∧ w'.cell? ⟨bP, oP + i * 3 + 2, none⟩ = some (.slice x.A x.n x.c)) := fun w' hb => ⟨(hb.cell (p := ⟨bP, oP + i * 3 + 1, none⟩) hbP).trans (by rw [show oP + i * 3 + 1 = oP + (3 * i + 1) by omega, ← hy]; exact hcx 1 _ rfl), (hb.cell (p := ⟨bP, oP + i * 3 + 2, none⟩) hbP).trans (by rw [show oP + i * 3 + 2 = oP + (3 * i + 2) by omega]; exact hcx 2 _ rfl)⟩
      have c35 := hBB.out wr _ hW.out 35 _ i35.out
      have cy := (hPc.out wr hBr.out).1
      have hyl : Hid (y < 9223372036854775808) := by show _ < _; omega
      have hm6 : Hid (m ≤ 65536) := by show _ ≤ _; rw [← hqm.out]; exact hq6
      have hR8 : Hid (Reads W0 1 Ae m (cells8 q)) := hW0.out _ _ _ _ (by rw [← hqm.out]; exact hc3)
      have hA8 : Hid (0 < m → ∀ a, Ae = some a → a.block ≠ g ∧ some a.block ≠ none) := fun h0 a e => by
        obtain ⟨b', o', e', hlt', -⟩ := hc3.2 (by rw [hqm.out]; omega)
        rw [e] at e'
        injection e' with e'
        subst e'
        have := hlt1.out
        exact ⟨by simp; omega, by simp⟩
      have hnil8 : Hid (Ae = none → m = 0 ∧ ce = 0) := by rw [← hqm.out]; exact hc4
      have hR9 : Hid (Reads W0 32 x.A x.n (x.ds.flatMap cells8)) := hW0.out _ _ _ _ hrd.out.2.2
      have hA9 : Hid (0 < x.n → ∀ a, x.A = some a → a.block ≠ g ∧ some a.block ≠ none) := fun h0 a e => by
        obtain ⟨b', o', e', hlt', -⟩ := hrd.out.2.2.2 (by omega)
        rw [e] at e'
        injection e' with e'
        subst e'
        have := hlt1.out
        exact ⟨by simp; omega, by simp⟩
      have hx40 := Lib.hid hx40
      replace hqm := Lib.hid hqm.out
      clear hcs hc1 hc2 hc3 hc4 hcx hq6 hy40 hy hbA
      go_wp2_with (first
        | (go_at_call 59; refine (number_from y hyl.out [] 0 rfl (by simp) none 0 (by have := hLl.out; omega) hNil.out (fun h => absurd h (by simp)) hW.out).mono ?_; rintro e w8 ⟨rfl, hW8⟩; replace hW8 := Lib.hid hW8; clear c1 c35 cy)
        | (go_at_call 86; refine (wbytes_from q m hqm.out hm6.out Ae ce (by have := hLl.out; have := hm6.out; simp [be8_len]; omega) hR8.out hnil8.out hA8.out hW8.out).mono ?_; rintro e w9 ⟨rfl, hW9⟩; have d35 := hBB.out w9 _ hW9 35 _ i35.out; have dw := (hPc.out w9 (hbW.out w9 _ hW9)).2; replace hW9 := Lib.hid hW9; clear hW8)
        | (go_at_call 75; refine (digests_old x.ds x.n hrd.out.1 hrd.out.2.1 x.A x.c (by have := hLl.out; have := hm6.out; have := hqm.out; have := hx40.out; simp [be8_len, be4_len]; omega) hR9.out hA9.out hW9.out).mono ?_; rintro e w10 ⟨rfl, hW10⟩; rw [hstep.out] at hW10; replace hW10 := Lib.hid hW10; clear hW9 d35 dw))
      go_roundw
      case rel => exact ⟨i + 1, by go_num, (show i + 1 ≤ n by omega), hW10.out⟩
      case measure => simp [intOf]; omega
    · obtain rfl : i = n := by have := hi.out; omega
      have hL : H ++ rowsB ((rowsOf es ps).take i) = PB := by rw [List.take_of_length_le (by unfold rowsOf; rw [List.length_zipWith, hn.out, hm.out, Nat.min_self]; exact Nat.le_refl _)]; exact hfin.out
      rw [hL] at hW
      obtain ⟨r9, hA9, -, -⟩ := hW.out
      replace hA9 := Lib.hid hA9
      clear hW hL hlt
      have hz : ¬ (i : Int) < (i : Int) := by omega
      go_wp2_with (go_at_call 60; refine (all_any g r9 PB _ (by have := hpl.out; omega) hA9.out).mono ?_; rintro e w11 ⟨v, rfl, hb11, ho11⟩; obtain ⟨Av, cv, rfl, -⟩ := Own.reads ho11; have bb11 : Hid (Below w.heap.size w w11) := hBr.out.trans (hb11.mono hBr.out.size); replace ho11 := Lib.hid ho11; clear hb11)
      go_ret2
      exact ⟨_, rfl, bb11.out, ownsRow_base ho11.out hBr.out.size⟩

set_option maxRecDepth 100000 in
set_option maxHeartbeats 2000000 in
theorem encodePiece_no (s : ByteArray) (hs : s.size ≤ 140737488355328) (F : Int) (b : Text) (hb : b.length = 32) (es : List Text) (n : Nat) (hn : es.length = n) (hn47 : n < 140737488355328) (A : Option Addr) (c : Nat) (ps : List Pr) (n2 : Nat) (hm : ps.length = n2) (A2 : Option Addr) (c2 : Nat) (hok : ¬ okP s F b es ps) (w : World) (hp : Pieces w A es) (hq : Prs w A2 ps) (hsh : ∀ e ∈ es, e.length < 140737488355328) (hnn : ∀ p ∈ ps, p.n < 140737488355328) :
    Calls Tryd.prog 35 #[.agg (pieceCells s F b (.slice A n c) (.slice A2 n2 c2)).toArray] w fun e w' => e = .returned (.tuple #[.slice none 0 0, .int .i64 170]) ∧ Below w.heap.size w w' := by
  have hT := Lib.hid (fun (e2 : n2 = n) w1 h => reach_any s hs F b hb es n hn hn47 A c ps (hm.trans e2) A2 c2 w1 (hp.below h) (hq.below h) hsh hnn)
  obtain ⟨k, hk⟩ : ∃ k, reachN s F b es ps = k := ⟨_, rfl⟩
  rw [hk] at hT
  have hno : n ≠ 0 → n2 = n → k ≠ n := fun h1 h2 h3 => hok ⟨by omega, by omega, by omega⟩
  obtain ⟨cs, hcs⟩ : ∃ cs : Array Value, (pieceCells s F b (.slice A n c) (.slice A2 n2 c2)).toArray = cs := ⟨_, rfl⟩
  have i0 : cs[0]? = some (.string s) := by rw [← hcs, List.getElem?_toArray]; exact pc_name
  have i1 : cs[1]? = some (.int .i64 F) := by rw [← hcs, List.getElem?_toArray]; exact pc_first
  have ib : ∀ j v, (cells8 b)[j]? = some v → cs[2 + j]? = some v := fun j v hv => by rw [← hcs, List.getElem?_toArray]; exact pc_before j v hv
  have i34 : cs[34]? = some (.slice A n c) := by rw [← hcs, List.getElem?_toArray]; exact pc_events hb
  have i35 : cs[35]? = some (.slice A2 n2 c2) := by rw [← hcs, List.getElem?_toArray]; exact pc_proofs hb
  rw [hcs]
  have sD : Hid ((Tryd.prog.info? 23).map (·.size) = some (cells8 b).length) := agg_hi size32 (by rw [cells8_len, hb])
  have hB0 : Blk (w.alloc (.cells cs 83)) w.heap.size 83 cs := Blk.new w _ _
  have hb0 : Hid (Below w.heap.size w (w.alloc (.cells cs 83))) := Below.heap_below w _
  have e34 : (w.alloc (.cells cs 83)).cell? ⟨w.heap.size, 34, none⟩ = some (.slice A n c) := (hB0.cell 34).trans i34
  have e35 : (w.alloc (.cells cs 83)).cell? ⟨w.heap.size, 35, none⟩ = some (.slice A2 n2 c2) := (hB0.cell 35).trans i35
  have e00 : (w.alloc (.cells cs 83)).cell? ⟨w.heap.size, 0, none⟩ = some (.string s) := (hB0.cell 0).trans i0
  have e01 : (w.alloc (.cells cs 83)).cell? ⟨w.heap.size, 1, none⟩ = some (.int .i64 F) := (hB0.cell 1).trans i1
  have fB : Hid (∀ j v, (cells8 b)[j]? = some v → (w.alloc (.cells cs 83)).cell? ⟨w.heap.size, 2 + j, none⟩ = some v) := fun j v hv => (hB0.cell (2 + j)).trans (ib j v hv)
  clear hok hn hn47 hm hp hq hsh hnn hs hb hcs i0 i1 ib i34 i35 hB0 hk
  by_cases h1 : n = 0
  · have z0 : ((n : Int) == 0) = true := by simp; omega
    clear hno hT
    replace h1 := Lib.hid h1
    go_enter Tryd.func35, Tryd.ntmps35
    go_wp2_with fail
    go_ret2
    exact ⟨rfl, hb0.out⟩
  · have z0 : ((n : Int) == 0) = false := by simp; omega
    by_cases h2 : n2 = n
    · have hne := hno h1 h2
      have z1 : ((n : Int) != (n2 : Int)) = false := by simp; omega
      have z2 : ((k : Int) != (n : Int)) = true := by simp; omega
      have hT := Lib.hid (hT.out h2 _ hb0.out)
      subst h2
      replace hne := Lib.hid hne
      clear hno
      go_enter Tryd.func35, Tryd.ntmps35
      go_wp2_with (first
        | ((with_reducible change wpList _ _ _ ({ dst := some 26, op := _, type := _, pos := _, after := _, guard := _ } :: _) _ _); (with_reducible refine Veil.out ?_); refine wpList_partW (o := ⟨some 26, _, _, _, _, _⟩) rfl 23 (.tmp 25) rfl (w.heap.size) (2) rfl (cells8 b) _ fB.out Tryd.underlying23 rfl sD.out ?_)
        | (go_at_call 83; refine hT.out.mono ?_; rintro e w1 ⟨rfl, hb1⟩; have bb1 := Lib.hid (hb0.out.trans (hb1.mono hb0.out.size)); clear hb1 hT))
      go_ret2
      exact ⟨rfl, bb1.out⟩
    · have z1 : ((n : Int) != (n2 : Int)) = true := by simp; omega
      clear hno hT
      replace h2 := Lib.hid h2
      go_enter Tryd.func35, Tryd.ntmps35
      go_wp2_with fail
      go_ret2
      exact ⟨rfl, hb0.out⟩
/-- Whatever is laid down. -/
theorem encPiece_any (s : ByteArray) (hs : s.size ≤ 140737488355328) (F : Int) (b : Text) (hb : b.length = 32) (es : List Text) (n : Nat) (hn : es.length = n) (hn47 : n < 140737488355328) (A : Option Addr) (c : Nat) (ps : List Pr) (n2 : Nat) (hm : ps.length = n2) (A2 : Option Addr) (c2 : Nat) (w : World) (hp : Pieces w A es) (hq : Prs w A2 ps) (hsh : ∀ e ∈ es, e.length < 140737488355328) (hnn : ∀ p ∈ ps, p.n < 140737488355328) :
    Calls Tryd.prog 35 #[.agg (pieceCells s F b (.slice A n c) (.slice A2 n2 c2)).toArray] w fun e w' => ∃ A4 c4 t err, e = .returned (.tuple #[.slice A4 t.length c4, .int .i64 err]) ∧ Reads w' 1 A4 t.length (cells8 t) ∧ ((pieceWant s F b es ps = some t ∧ err = 0) ∨ (pieceWant s F b es ps = none ∧ t = [] ∧ err = 170)) ∧ Below w.heap.size w w' := by
  unfold pieceWant
  by_cases hok : okP s F b es ps
  · rw [if_pos hok]
    obtain ⟨hf, -, -⟩ := okP_fits hok
    obtain ⟨F, rfl⟩ := Int.eq_ofNat_of_zero_le hf.f0
    obtain rfl : n2 = n := by have := hf.len; omega
    refine (encodePiece_yes s F b hb es n2 hn A c ps A2 c2 hok w hp hq).mono ?_
    rintro e w' ⟨v, rfl, hb, ho⟩
    obtain ⟨A4, c4, rfl, -, -, -, hrd, -⟩ := Own.reads ho
    exact ⟨A4, c4, _, 0, rfl, hrd, .inl ⟨rfl, rfl⟩, hb⟩
  · rw [if_neg hok]
    refine (encodePiece_no s hs F b hb es n hn hn47 A c ps n2 hm A2 c2 hok w hp hq hsh hnn).mono ?_
    rintro e w' ⟨rfl, hb⟩
    exact ⟨none, 0, [], 170, rfl, Reads.nil_ _ _ _, .inr ⟨rfl, rfl, rfl⟩, hb⟩
end Go.Proofs.YtgldkfaiofkhbaaDoor.EncPiece

namespace Go.Proofs.YtgldkfaiofkhbaaDoor.EncOut
open Go Go.RowKit Go.Proofs.YtgldkfaiofkhbaaDoor Go.Proofs.YtgldkfaiofkhbaaDoor.Mem Go.Proofs.YtgldkfaiofkhbaaDoor.Sha Go.Proofs.YtgldkfaiofkhbaaDoor.Bytes

/-- What an encoder answers: the text, in a row of its own, or the refusal. -/
def EncOut (W : Option Text) (w : World) (e : Ending) (w' : World) : Prop := ∃ A4 c4 b err, e = .returned (.tuple #[.slice A4 b.length c4, .int .i64 err]) ∧ b.length ≤ c4 ∧ (A4 = none → b.length = 0 ∧ c4 = 0) ∧ Reads w' 1 A4 b.length (cells8 b) ∧ ((W = some b ∧ err = 0) ∨ (W = none ∧ b = [] ∧ err = 170)) ∧ Below w.heap.size w w'
section
open Go Go.RowKit Go.Proofs.YtgldkfaiofkhbaaDoor Go.Proofs.YtgldkfaiofkhbaaDoor.Mem Go.Proofs.YtgldkfaiofkhbaaDoor.Sha Go.Proofs.YtgldkfaiofkhbaaDoor.Bytes Go.Proofs.YtgldkfaiofkhbaaDoor.TreeMath Go.Proofs.YtgldkfaiofkhbaaDoor.Sides Go.Proofs.YtgldkfaiofkhbaaDoor.TreeMem Go.Proofs.YtgldkfaiofkhbaaDoor.TreeRoot Go.Proofs.YtgldkfaiofkhbaaDoor.Held Go.Proofs.YtgldkfaiofkhbaaDoor.Own Go.Proofs.YtgldkfaiofkhbaaDoor.ProofBeside Go.Proofs.YtgldkfaiofkhbaaDoor.ProofEnc Go.Proofs.YtgldkfaiofkhbaaDoor.Beside17 Go.Proofs.YtgldkfaiofkhbaaDoor.Ref17 Go.Proofs.YtgldkfaiofkhbaaDoor.Ref17b Go.Proofs.YtgldkfaiofkhbaaDoor.DecIncl Go.Proofs.YtgldkfaiofkhbaaDoor.DecIncl2 Go.Proofs.YtgldkfaiofkhbaaDoor.ReadIncl Go.Proofs.YtgldkfaiofkhbaaDoor.ReadIncl2 Go.Proofs.YtgldkfaiofkhbaaDoor.Book Go.Proofs.YtgldkfaiofkhbaaDoor.Book2 Go.Proofs.YtgldkfaiofkhbaaDoor.Same8 Go.Proofs.YtgldkfaiofkhbaaDoor.Book8 Go.Proofs.YtgldkfaiofkhbaaDoor.Law17a
end
section
open Go Go.RowKit Go.Proofs.YtgldkfaiofkhbaaDoor Go.Proofs.YtgldkfaiofkhbaaDoor.Mem Go.Proofs.YtgldkfaiofkhbaaDoor.Sha Go.Proofs.YtgldkfaiofkhbaaDoor.Bytes Go.Proofs.YtgldkfaiofkhbaaDoor.TreeMath Go.Proofs.YtgldkfaiofkhbaaDoor.Sides Go.Proofs.YtgldkfaiofkhbaaDoor.TreeMem Go.Proofs.YtgldkfaiofkhbaaDoor.TreeRoot Go.Proofs.YtgldkfaiofkhbaaDoor.Held Go.Proofs.YtgldkfaiofkhbaaDoor.Own Go.Proofs.YtgldkfaiofkhbaaDoor.ProofEnc Go.Proofs.YtgldkfaiofkhbaaDoor.Ref17 Go.Proofs.YtgldkfaiofkhbaaDoor.Ref17b Go.Proofs.YtgldkfaiofkhbaaDoor.Subs Go.Proofs.YtgldkfaiofkhbaaDoor.Betw Go.Proofs.YtgldkfaiofkhbaaDoor.BetwRef Go.Proofs.YtgldkfaiofkhbaaDoor.EncCons Go.Proofs.YtgldkfaiofkhbaaDoor.RefCons Go.Proofs.YtgldkfaiofkhbaaDoor.EncConsAny
end
section
open Go Go.RowKit Go.Proofs.YtgldkfaiofkhbaaDoor Go.Proofs.YtgldkfaiofkhbaaDoor.Mem Go.Proofs.YtgldkfaiofkhbaaDoor.Sha Go.Proofs.YtgldkfaiofkhbaaDoor.Bytes Go.Proofs.YtgldkfaiofkhbaaDoor.Append Go.Proofs.YtgldkfaiofkhbaaDoor.Octet Go.Proofs.YtgldkfaiofkhbaaDoor.Octet2 Go.Proofs.YtgldkfaiofkhbaaDoor.HeadMem Go.Proofs.YtgldkfaiofkhbaaDoor.ProofBeside Go.Proofs.YtgldkfaiofkhbaaDoor.ProofEnc Go.Proofs.YtgldkfaiofkhbaaDoor.ProofIdx Go.Proofs.YtgldkfaiofkhbaaDoor.ProofIdx2 Go.Proofs.YtgldkfaiofkhbaaDoor.ProofIdx3 Go.Proofs.YtgldkfaiofkhbaaDoor.ProofIdx4 Go.Proofs.YtgldkfaiofkhbaaDoor.StructEq Go.Proofs.YtgldkfaiofkhbaaDoor.IdxAny Go.Proofs.YtgldkfaiofkhbaaDoor.TreeMem Go.Proofs.YtgldkfaiofkhbaaDoor.NumberNew Go.Proofs.YtgldkfaiofkhbaaDoor.IdxEnc
end
section
open Go Go.RowKit Go.Proofs.YtgldkfaiofkhbaaDoor Go.Proofs.YtgldkfaiofkhbaaDoor.Mem Go.Proofs.YtgldkfaiofkhbaaDoor.Sha Go.Proofs.YtgldkfaiofkhbaaDoor.Bytes Go.Proofs.YtgldkfaiofkhbaaDoor.HashMem Go.Proofs.YtgldkfaiofkhbaaDoor.Octet Go.Proofs.YtgldkfaiofkhbaaDoor.Octet4 Go.Proofs.YtgldkfaiofkhbaaDoor.TreeMem Go.Proofs.YtgldkfaiofkhbaaDoor.ProofBeside Go.Proofs.YtgldkfaiofkhbaaDoor.ProofEnc Go.Proofs.YtgldkfaiofkhbaaDoor.ProofIdx Go.Proofs.YtgldkfaiofkhbaaDoor.ProofIdx2 Go.Proofs.YtgldkfaiofkhbaaDoor.Ref17 Go.Proofs.YtgldkfaiofkhbaaDoor.PieceP Go.Proofs.YtgldkfaiofkhbaaDoor.PieceRow Go.Proofs.YtgldkfaiofkhbaaDoor.PieceBegins Go.Proofs.YtgldkfaiofkhbaaDoor.Prs Go.Proofs.YtgldkfaiofkhbaaDoor.Reach Go.Proofs.YtgldkfaiofkhbaaDoor.Reach2 Go.Proofs.YtgldkfaiofkhbaaDoor.PieceB Go.Proofs.YtgldkfaiofkhbaaDoor.PieceLay Go.Proofs.YtgldkfaiofkhbaaDoor.Append Go.Proofs.YtgldkfaiofkhbaaDoor.Octet2 Go.Proofs.YtgldkfaiofkhbaaDoor.OctetBytes Go.Proofs.YtgldkfaiofkhbaaDoor.HeadMem Go.Proofs.YtgldkfaiofkhbaaDoor.Guard Go.Proofs.YtgldkfaiofkhbaaDoor.Guard2 Go.Proofs.YtgldkfaiofkhbaaDoor.Want Go.Proofs.YtgldkfaiofkhbaaDoor.Reader7 Go.Proofs.YtgldkfaiofkhbaaDoor.NumberNew Go.Proofs.YtgldkfaiofkhbaaDoor.EncPiece
end
end Go.Proofs.YtgldkfaiofkhbaaDoor.EncOut
