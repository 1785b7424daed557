/-
  Texts of the claim, put into one file: PieceBegins, Reach, Reach2.
-/
import Derived.Test.YthkdlaohaekilaaDoorZ21
import Derived.Test.YthkdlaohaekilaaDoorZ31
import Derived.Test.YthkdlaohaekilaaDoorZ12
import Derived.Test.YthkdlaohaekilaaDoorZ26

namespace Go.Proofs.YthkdlaohaekilaaDoor.PieceBegins
open Go Go.RowKit Go.Proofs.YthkdlaohaekilaaDoor Go.Proofs.YthkdlaohaekilaaDoor.Mem Go.Proofs.YthkdlaohaekilaaDoor.Sha Go.Proofs.YthkdlaohaekilaaDoor.Bytes Go.Proofs.YthkdlaohaekilaaDoor.HashMem Go.Proofs.YthkdlaohaekilaaDoor.DigestMem Go.Proofs.YthkdlaohaekilaaDoor.TreeMem Go.Proofs.YthkdlaohaekilaaDoor.ProofIdx Go.Proofs.YthkdlaohaekilaaDoor.DigEq Go.Proofs.YthkdlaohaekilaaDoor.Grown Go.Proofs.YthkdlaohaekilaaDoor.Want Go.Proofs.YthkdlaohaekilaaDoor.Plain Go.Proofs.YthkdlaohaekilaaDoor.QuietTail

/-- May a piece begin so? -/
def begB (s : List UInt8) (first : Int) (b : Text) : Bool := namedB s && (decide (0 ≤ first) && (decide (0 < first) || decide (b = List.replicate 32 0)))
theorem qDB : Tryd.prog.eqGuardType Tryd.prog.depth 23 = false := by kernel_rfl
set_option maxRecDepth 100000 in
set_option maxHeartbeats 1000000 in
theorem begins_any (s : ByteArray) (hs : s.size ≤ 140737488355328) (first : Int) (b : Text) (hb : b.length = 32) (w : World) :
    Calls Tryd.prog 51 #[.string s, .int .i64 first, .agg (cells8 b).toArray] w fun e w' => e = .returned (.bool (begB s.data.toList first b)) ∧ Below w.heap.size w w' := by
  have hN := Lib.hid (fun w' => named_any s hs w')
  obtain ⟨nb, hnb⟩ : ∃ x, namedB s.data.toList = x := ⟨_, rfl⟩
  unfold begB
  rw [hnb] at hN
  rw [hnb]
  have hq := Lib.hid (fun w' => eql_dig b (List.replicate 32 0) hb (by simp) w')
  obtain ⟨zb, hzb⟩ : ∃ x, decide (b = List.replicate 32 0) = x := ⟨_, rfl⟩
  rw [hzb] at hq
  rw [hzb]
  have hsz : Hid ((Tryd.prog.info? 23).map (·.size) = some (cells8 b).toArray.size) := by show _ = _; rw [List.size_toArray, cells8_len, hb]; exact size31
  have hb0 : Hid (Below w.heap.size w (w.alloc (.cells (cells8 b).toArray 23))) := Below.heap_below w _
  have hP : Hid (Blk (w.alloc (.cells (cells8 b).toArray 23)) w.heap.size 23 (cells8 b).toArray) := Blk.new w _ _
  clear hs hb hnb hzb
  go_enter Tryd.func51, Tryd.ntmps51
  go_upto_region 1 with fail
  generalize w.alloc (.cells (cells8 b).toArray 23) = w1 at *
  cases nb with
  | false =>
    go_wp2_with fail
    refine (hN.out _).mono ?_
    rintro e w2 ⟨rfl, rfl⟩
    go_wp2_with fail
    go_ret
    exact ⟨rfl, hb0.out⟩
  | true =>
    by_cases h1 : 0 ≤ first
    · have y1 := Lib.hid (decide_eq_true h1)
      by_cases h2 : 0 < first
      · have y2 := Lib.hid (decide_eq_true h2)
        go_wp2_with fail
        refine (hN.out _).mono ?_
        rintro e w2 ⟨rfl, rfl⟩
        go_wp2_with fail
        go_ret
        exact ⟨by rw [y1.out, y2.out]; rfl, hb0.out⟩
      · have y2 := Lib.hid (decide_eq_false h2)
        refine q_plain (Class w1) (Class.mk_ (Below.refl _ _)) ?_
        refine q_move rfl (.tmp 0) rfl ?_
        (intro K hK; go_simp; refine hK _ ?_; clear hK K)
        refine q_fn (v := .bool true) (args := #[.string s]) rfl _ _ rfl rfl Tryd.func99 (by kernel_rfl) (by kernel_rfl) (fun w' hw' => (hN.out w').mono (fun e w'' ⟨he, hw⟩ => ⟨he, hw ▸ hw'⟩)) ?_
        (intro K hK; go_simp; refine hK _ ?_; clear hK K)
        refine q_val (v := .bool true) rfl (fun w' hw' => by go_simp) ?_
        (intro K hK; go_simp; refine hK _ ?_; clear hK K)
        refine q_move rfl (.tmp 1) rfl ?_
        (intro K hK; go_simp; refine hK _ ?_; clear hK K)
        refine q_val (v := .bool true) rfl (fun w' hw' => by go_simp) ?_
        (intro K hK; go_simp; refine hK _ ?_; clear hK K)
        refine q_val (v := .bool true) rfl (fun w' hw' => by go_simp) ?_
        (intro K hK; go_simp; refine hK _ ?_; clear hK K)
        refine q_val (v := .bool true) rfl (fun w' hw' => by go_simp) ?_
        (intro K hK; go_simp; refine hK _ ?_; clear hK K)
        refine q_move rfl (.tmp 1) rfl ?_
        (intro K hK; go_simp; refine hK _ ?_; clear hK K)
        refine q_val (v := .bool false) rfl (fun w' hw' => by go_simp) ?_
        (intro K hK; go_simp; refine hK _ ?_; clear hK K)
        refine q_val (v := .bool false) rfl (fun w' hw' => by go_simp) ?_
        (intro K hK; go_simp; refine hK _ ?_; clear hK K)
        refine q_row rfl 23 (.tmp 5) rfl w.heap.size rfl 23 ((cells8 b).toArray) (0, 0) _ (fun w' hw' => (hw'.below.block _ hP.out.lt).trans hP.out) Tryd.underlying23 rfl hsz.out ?_
        (intro K hK; go_simp; refine hK _ ?_; clear hK K)
        refine q_val (v := .agg (cells8 (List.replicate 32 0)).toArray) rfl (fun w' hw' => by first | rfl | kernel_rfl) ?_
        (intro K hK; go_simp; refine hK _ ?_; clear hK K)
        refine q_val (v := .bool zb) rfl (fun w' hw' => run_cmp rfl rfl rfl qDB (hq.out w')) ?_
        (intro K hK; go_simp; refine hK _ ?_; clear hK K)
        refine q_val (v := .bool zb) rfl (fun w' hw' => by go_simp) ?_
        (intro K hK; go_simp; refine hK _ ?_; clear hK K)
        refine q_val (v := .bool zb) rfl (fun w' hw' => by go_simp) ?_
        (intro K hK; go_simp; refine hK _ ?_; clear hK K)
        refine q_val (v := .bool zb) rfl (fun w' hw' => by go_simp) ?_
        (intro K hK; go_simp; refine hK _ ?_; clear hK K)
        refine q_nil ?_
        intro w7 hw7
        have h7 : Hid (Below w.heap.size w w7) := hb0.out.trans (hw7.below.mono hb0.out.size)
        go_wp2_with fail
        go_ret
        exact ⟨by rw [y2.out]; rfl, h7.out⟩
    · have y1 := Lib.hid (decide_eq_false h1)
      go_wp2_with fail
      refine (hN.out _).mono ?_
      rintro e w2 ⟨rfl, rfl⟩
      go_wp2_with fail
      go_ret
      exact ⟨by rw [y1.out]; rfl, hb0.out⟩
end Go.Proofs.YthkdlaohaekilaaDoor.PieceBegins

namespace Go.Proofs.YthkdlaohaekilaaDoor.Reach
open Go Go.RowKit Go.Proofs.YthkdlaohaekilaaDoor Go.Proofs.YthkdlaohaekilaaDoor.Mem Go.Proofs.YthkdlaohaekilaaDoor.Sha Go.Proofs.YthkdlaohaekilaaDoor.Bytes Go.Proofs.YthkdlaohaekilaaDoor.HashMem Go.Proofs.YthkdlaohaekilaaDoor.DigestMem Go.Proofs.YthkdlaohaekilaaDoor.TreeMem Go.Proofs.YthkdlaohaekilaaDoor.ProofIdx Go.Proofs.YthkdlaohaekilaaDoor.DigEq Go.Proofs.YthkdlaohaekilaaDoor.Grown Go.Proofs.YthkdlaohaekilaaDoor.Want Go.Proofs.YthkdlaohaekilaaDoor.Plain Go.Proofs.YthkdlaohaekilaaDoor.QuietTail Go.Proofs.YthkdlaohaekilaaDoor.Ref17 Go.Proofs.YthkdlaohaekilaaDoor.PieceP Go.Proofs.YthkdlaohaekilaaDoor.PieceRow Go.Proofs.YthkdlaohaekilaaDoor.PieceBegins Go.Proofs.YthkdlaohaekilaaDoor.Prs

/-- An event with its proof, as the count sees them. -/
def itemOf (e : Text) (p : Pr) : PieceP.Item := ⟨e.length, p.x, p.y, p.n, fitB p.x p.y p.n e.length⟩
def itemsOf (es : List Text) (ps : List Pr) : List PieceP.Item := List.zipWith itemOf es ps
def firstSize (ps : List Pr) : Int := match ps with | [] => 0 | p :: _ => p.x
/-- How many of the events make a piece. -/
def reachN (s : ByteArray) (first : Int) (b : Text) (es : List Text) (ps : List Pr) : Nat := if begB s.data.toList first b = true then reachFrom first (firstSize ps) 0 (54 + s.size) none (itemsOf es ps) else 0
set_option maxRecDepth 100000 in
set_option maxHeartbeats 1000000 in
theorem reach_no (s : ByteArray) (hs : s.size ≤ 140737488355328) (first : Int) (b : Text) (hb : b.length = 32) (hno : begB s.data.toList first b = false) (A : Option Addr) (n c : Nat) (A2 : Option Addr) (m c2 : Nat) (w : World) :
    Calls Tryd.prog 52 #[.string s, .int .i64 first, .agg (cells8 b).toArray, .slice A n c, .slice A2 m c2] w fun e w' => e = .returned (.int .i64 0) ∧ Below w.heap.size w w' := by
  have hN := Lib.hid (fun w' => begins_any s hs first b hb w')
  rw [hno] at hN
  have hsz : Hid ((Tryd.prog.info? 23).map (·.size) = some (cells8 b).toArray.size) := by show _ = _; rw [List.size_toArray, cells8_len, hb]; exact size31
  have hb0 : Hid (Below w.heap.size w (w.alloc (.cells (cells8 b).toArray 23))) := Below.heap_below w _
  have hP : Hid (Blk (w.alloc (.cells (cells8 b).toArray 23)) w.heap.size 23 (cells8 b).toArray) := Blk.new w _ _
  clear hs hb hno
  go_enter Tryd.func52, Tryd.ntmps52
  go_upto_region 1 with fail
  generalize w.alloc (.cells (cells8 b).toArray 23) = w1 at *
  go_wp2_with ((with_reducible change wpList _ _ _ ({ dst := some 16, op := _, type := _, pos := _, after := _, guard := _ } :: _) _ _); refine wpList_load_row (o := ⟨some 16, _, _, _, _, _⟩) rfl 23 (.tmp 7) rfl (w.heap.size) rfl 23 ((cells8 b).toArray) (0, 0) _ hP.out Tryd.underlying23 rfl hsz.out ?_)
  refine (hN.out _).mono ?_
  rintro e w2 ⟨rfl, hk⟩
  have h2 : Hid (Below w.heap.size w w2) := hb0.out.trans (hk.mono hb0.out.size)
  clear hk hN hP
  go_wp2_with fail
  go_ret
  exact ⟨rfl, h2.out⟩
end Go.Proofs.YthkdlaohaekilaaDoor.Reach

namespace Go.Proofs.YthkdlaohaekilaaDoor.Reach2
open Go Go.RowKit Go.Proofs.YthkdlaohaekilaaDoor Go.Proofs.YthkdlaohaekilaaDoor.Mem Go.Proofs.YthkdlaohaekilaaDoor.Sha Go.Proofs.YthkdlaohaekilaaDoor.Bytes Go.Proofs.YthkdlaohaekilaaDoor.HashMem Go.Proofs.YthkdlaohaekilaaDoor.DigestMem Go.Proofs.YthkdlaohaekilaaDoor.TreeMem Go.Proofs.YthkdlaohaekilaaDoor.ProofIdx Go.Proofs.YthkdlaohaekilaaDoor.DigEq Go.Proofs.YthkdlaohaekilaaDoor.Grown Go.Proofs.YthkdlaohaekilaaDoor.Want Go.Proofs.YthkdlaohaekilaaDoor.Plain Go.Proofs.YthkdlaohaekilaaDoor.QuietTail Go.Proofs.YthkdlaohaekilaaDoor.Ref17 Go.Proofs.YthkdlaohaekilaaDoor.PieceP Go.Proofs.YthkdlaohaekilaaDoor.PieceRow Go.Proofs.YthkdlaohaekilaaDoor.PieceBegins Go.Proofs.YthkdlaohaekilaaDoor.Prs Go.Proofs.YthkdlaohaekilaaDoor.Reach Go.Proofs.YthkdlaohaekilaaDoor.Guard Go.Proofs.YthkdlaohaekilaaDoor.Guard2 Go.Proofs.YthkdlaohaekilaaDoor.ProofBeside Go.Proofs.YthkdlaohaekilaaDoor.ProofEnc

theorem size3 : (Tryd.prog.info? 31).map (·.size) = some 3 := by kernel_rfl
set_option maxRecDepth 100000 in
set_option maxHeartbeats 1000000 in
theorem reach_yes (s : ByteArray) (hs : s.size ≤ 64) (first : Int) (b : Text) (hb : b.length = 32) (hyes : begB s.data.toList first b = true) (es : List Text) (n : Nat) (hn : es.length = n) (hn47 : n < 140737488355328) (A : Option Addr) (c : Nat) (ps : List Pr) (hm : ps.length = n) (A2 : Option Addr) (c2 : Nat) (w : World) (hp : Pieces w A es) (hq : Prs w A2 ps) (hsh : ∀ e ∈ es, e.length < 140737488355328) (hnn : ∀ p ∈ ps, p.n < 140737488355328) :
    Calls Tryd.prog 52 #[.string s, .int .i64 first, .agg (cells8 b).toArray, .slice A n c, .slice A2 n c2] w fun e w' => e = .returned (.int .i64 (reachFrom first (firstSize ps) 0 (54 + s.size) none (itemsOf es ps) : Int)) ∧ Below w.heap.size w w' := by
  have hN := Lib.hid (fun w' => begins_any s (by omega) first b hb w')
  rw [hyes] at hN
  have hH := Lib.hid (fun w' => headBytes_any s (by omega) w')
  obtain ⟨h0, hh0⟩ : ∃ x, 54 + s.size = x := ⟨_, rfl⟩
  have hh : Hid (h0 ≤ 118) := by show _ ≤ _; omega
  rw [hh0] at hH
  rw [hh0]
  obtain ⟨ans, hans⟩ : ∃ x, Hid (reachFrom first (firstSize ps) 0 h0 none (itemsOf es ps) = x) := ⟨_, Lib.hid rfl⟩
  rw [hans.out]
  have hsz : Hid ((Tryd.prog.info? 23).map (·.size) = some (cells8 b).toArray.size) := by show _ = _; rw [List.size_toArray, cells8_len, hb]; exact size31
  have hb0 : Hid (Below w.heap.size w (w.alloc (.cells (cells8 b).toArray 23))) := Below.heap_below w _
  have hP : Hid (Blk (w.alloc (.cells (cells8 b).toArray 23)) w.heap.size 23 (cells8 b).toArray) := Blk.new w _ _
  replace hn := Lib.hid hn
  replace hm := Lib.hid hm
  replace hp := Lib.hid hp
  replace hq := Lib.hid hq
  replace hsh := Lib.hid hsh
  replace hnn := Lib.hid hnn
  replace hn47 := Lib.hid hn47
  clear hs hb hyes hh0
  go_enter Tryd.func52, Tryd.ntmps52
  go_upto_region 1 with fail
  generalize w.alloc (.cells (cells8 b).toArray 23) = w1 at *
  go_wp2_with ((with_reducible change wpList _ _ _ ({ dst := some 16, op := _, type := _, pos := _, after := _, guard := _ } :: _) _ _); refine wpList_load_row (o := ⟨some 16, _, _, _, _, _⟩) rfl 23 (.tmp 7) rfl (w.heap.size) rfl 23 ((cells8 b).toArray) (0, 0) _ hP.out Tryd.underlying23 rfl hsz.out ?_)
  refine (hN.out _).mono ?_
  rintro e w2 ⟨rfl, hk⟩
  have h2 : Hid (Below w.heap.size w w2) := hb0.out.trans (hk.mono hb0.out.size)
  clear hk hN hP hb0 hsz
  go_wp2_with fail
  refine (hH.out _).mono ?_
  rintro e w3 ⟨rfl, rfl⟩
  clear hH
  go_wp2_with fail
  go_loopw [11, 23] (fun v v2 wr => ∃ k bk : Nat, ∃ pv : Option Int, v = .int .i64 (bk : Int) ∧ v2 = .int .i64 (k : Int) ∧ Hid (k ≤ n) ∧ Hid (bk ≤ 2097152) ∧ Hid (pv = if k = 0 then none else (ps[k - 1]?).map (·.y)) ∧ Hid (reachFrom first (firstSize ps) k bk pv ((itemsOf es ps).drop k) = ans) ∧ Hid (Below w.heap.size w wr)) (fun _ v _ => n - (intOf v).toNat)
  case atStart => exact ⟨0, h0, none, rfl, rfl, (show 0 ≤ n by omega), (show h0 ≤ 2097152 by have := hh.out; omega), rfl, hans.out, h2.out⟩
  case round =>
    obtain ⟨k, bk, pv, rfl, rfl, hk, hbk, hpv, hre, hW⟩ := hrel
    by_cases hlt : k < n
    · have hz : (k : Int) < (n : Int) := by omega
      have hz0 : (0 : Int) ≤ (k : Int) := by omega
      have hz1 : (0 : Int) < (n : Int) := by omega
      have hz2 : ¬ n = 0 := by omega
      have hk47 : (k : Int) < 140737488355328 := by have := hn47.out; omega
      obtain ⟨q, hqi⟩ : ∃ q, Hid (es[k]? = some q) := ⟨_, List.getElem?_eq_getElem (by rw [hn.out]; exact hlt)⟩
      obtain ⟨x, hxi⟩ : ∃ x, Hid (ps[k]? = some x) := ⟨_, List.getElem?_eq_getElem (by rw [hm.out]; exact hlt)⟩
      obtain ⟨x0, hx0⟩ : ∃ x, Hid (ps[0]? = some x) := ⟨ps[0]'(by rw [hm.out]; omega), List.getElem?_eq_getElem _⟩
      have hfs : Hid (firstSize ps = x0.x) := by
        show firstSize ps = _
        have h := hx0.out
        cases ps with
        | nil => cases h
        | cons a l => obtain rfl := Option.some.inj h; rfl
      have hdr : Hid ((itemsOf es ps).drop k = itemOf q x :: (itemsOf es ps).drop (k + 1)) := by
        show _ = _
        have hget : (itemsOf es ps)[k]? = some (itemOf q x) := by
          unfold itemsOf
          rw [List.getElem?_zipWith, hqi.out, hxi.out]
        obtain ⟨hl, he⟩ := List.getElem?_eq_some_iff.1 hget
        rw [List.drop_eq_getElem_cons hl, he]
      rw [hdr.out, hfs.out] at hre
      obtain ⟨bA, oA, rfl, hbA, hcs⟩ := hp.out (by have := hn.out; omega)
      obtain ⟨Ae, ce, hc1, -, -, -⟩ := hcs k q hqi.out
      obtain ⟨bP, oP, rfl, hbP, hcx⟩ := hq.out.at_ hxi.out
      obtain ⟨bP', oP', heP, -, hc0⟩ := hq.out.at_ hx0.out
      injection heP with heP
      injection heP with heP1 heP2
      subst heP1 heP2
      have hcell : wr.cell? ⟨bA, oA + k, none⟩ = some (.slice Ae q.length ce) := (hW.out.cell (p := ⟨bA, oA + k, none⟩) hbA).trans hc1
      obtain ⟨m, hqm⟩ : ∃ m, Hid (q.length = m) := ⟨_, Lib.hid rfl⟩
      have hm47 : Hid (m < 140737488355328) := by have := hsh.out q (List.mem_of_getElem? hqi.out); have := hqm.out; show _ < _; omega
      have hxn : Hid (x.n < 140737488355328) := hnn.out x (List.mem_of_getElem? hxi.out)
      have hfx : Hid (∀ w', Below w.heap.size w w' → ∀ j u, x.cells[j]? = some u → w'.cell? ⟨bP, oP + k * 3 + j, none⟩ = some u) := fun w' hb j u hu => (hb.cell (p := ⟨bP, oP + k * 3 + j, none⟩) hbP).trans (by rw [show oP + k * 3 + j = oP + (3 * k + j) by omega]; exact hcx j u hu)
      have hf0 : Hid (∀ w', Below w.heap.size w w' → w'.cell? ⟨bP, oP, none⟩ = some (.int .i64 x0.x)) := fun w' hb => (hb.cell (p := ⟨bP, oP, none⟩) hbP).trans (by have := hc0 0 _ rfl; simpa using this)
      have hprev : Hid (0 < k → ∃ z, ps[k - 1]? = some z ∧ ∀ w', Below w.heap.size w w' → w'.cell? ⟨bP, oP + (k - 1) * 3 + 1, none⟩ = some (.int .i64 z.y)) := fun h0 => by
        obtain ⟨z, hz⟩ : ∃ z, ps[k - 1]? = some z := ⟨_, List.getElem?_eq_getElem (by rw [hm.out]; omega)⟩
        obtain ⟨b3, o3, e3, hb3, hc3⟩ := hq.out.at_ hz
        injection e3 with e3
        injection e3 with e31 e32
        subst e31 e32
        exact ⟨z, hz, fun w' hb => (hb.cell (p := ⟨bP, oP + (k - 1) * 3 + 1, none⟩) hbP).trans (by rw [show oP + (k - 1) * 3 + 1 = oP + (3 * (k - 1) + 1) by omega]; exact hc3 1 _ rfl)⟩
      rw [hqm.out] at hcell
      clear hcs hc1 hcx hc0
      obtain ⟨bq, hbq⟩ : ∃ b, Hid (bk + (12 + m + 32 * x.n) = b) := ⟨_, Lib.hid rfl⟩
      have hsum : wrap64 ((bk : Int) + (12 + (m : Int) + 32 * (x.n : Int))) = (bq : Int) := by rw [IntWalk.wrap64_in _ (by have := hbk.out; have := hm47.out; have := hxn.out; omega), ← hbq.out]; simp
      have hstop := Lib.hid (fun h => (reach_stop (first := first) (size := x0.x) (i := k) (b := bk) (p := pv) (x := itemOf q x) (l := (itemsOf es ps).drop (k + 1)) h).symm.trans hre.out)
      have hlow := Lib.hid (fun h => (reach_low (first := first) (size := x0.x) (i := k) (b := bk) (p := pv) (x := itemOf q x) (l := (itemsOf es ps).drop (k + 1)) h).symm.trans hre.out)
      have hon := Lib.hid (fun h h2 => (reach_on (first := first) (size := x0.x) (i := k) (b := bk) (p := pv) (x := itemOf q x) (l := (itemsOf es ps).drop (k + 1)) h h2).symm.trans hre.out)
      have hie : Hid (bk + (12 + (itemOf q x).len + 32 * (itemOf q x).ways) = bq) := by show bk + (12 + q.length + 32 * x.n) = bq; rw [hqm.out]; exact hbq.out
      rw [hie.out] at hon
      have hstop : Hid ((k = 1000 ∨ 2097152 < bq ∨ (itemOf q x).fit = false ∨ (itemOf q x).size ≠ x0.x ∨ x0.x - k - 1 < first) → k = ans) := fun h => hstop.out (by rw [hie.out]; exact h)
      have hfit : Hid (fitB x.x x.y x.n m = (itemOf q x).fit) := by show _ = fitB x.x x.y x.n q.length; rw [hqm.out]
      have hRB := Lib.hid (fun w' => rowBytes_any x.x x.y x.A x.n x.c (Nat.le_of_lt hxn.out) Ae m ce (Nat.le_of_lt hm47.out) w')
      have hRo := Lib.hid (fun w' => row_any x.x x.y x.A x.n x.c x0.x Ae m ce w')
      go_wp2_with (first
        | ((with_reducible change wpList _ _ _ ({ dst := some 33, op := _, type := _, pos := _, after := _, guard := _ } :: _) _ _); (with_reducible refine Veil.out ?_); refine wpList_partW (o := ⟨some 33, _, _, _, _, _⟩) rfl 31 (.tmp 32) rfl (bP) ((oP + k * 3)) rfl (x.cells) _ (hfx.out _ hW.out) Tryd.underlying31 rfl size3 ?_)
        | (go_at_call 101; refine (hRB.out _).mono ?_; rintro e w4 ⟨rfl, hk4⟩; have h4 : Hid (Below w.heap.size w w4) := hW.out.trans (hk4.mono hW.out.size); clear hk4))
      by_cases y1 : k = 1000
      · have z1 : ((k : Int) == 1000) = true := by simp; omega
        replace y1 := Lib.hid y1
        go_upto_region 8 with fail
        refine q_region (Class w4) (by kernel_rfl) (by kernel_rfl) (Class.mk_ ((Below.refl _ _).drew)) ?_
        refine q_move rfl (.tmp 12) rfl ?_
        (intro K hK; go_simp; refine hK _ ?_; clear hK K)
        refine q_val (v := .bool true) rfl (fun w' hw' => by go_simp) ?_
        (intro K hK; go_simp; refine hK _ ?_; clear hK K)
        refine q_move rfl (.tmp 37) rfl ?_
        (intro K hK; go_simp; refine hK _ ?_; clear hK K)
        refine q_skip rfl ?_
        (intro K hK; go_simp; refine hK _ ?_; clear hK K)
        refine q_skip rfl ?_
        (intro K hK; go_simp; refine hK _ ?_; clear hK K)
        refine q_val (v := .bool true) rfl (fun w' hw' => by go_simp) ?_
        (intro K hK; go_simp; refine hK _ ?_; clear hK K)
        refine q_move rfl (.tmp 41) rfl ?_
        (intro K hK; go_simp; refine hK _ ?_; clear hK K)
        refine q_skip rfl ?_
        (intro K hK; go_simp; refine hK _ ?_; clear hK K)
        refine q_skip rfl ?_
        (intro K hK; go_simp; refine hK _ ?_; clear hK K)
        refine q_skip rfl ?_
        (intro K hK; go_simp; refine hK _ ?_; clear hK K)
        refine q_skip rfl ?_
        (intro K hK; go_simp; refine hK _ ?_; clear hK K)
        refine q_skip rfl ?_
        (intro K hK; go_simp; refine hK _ ?_; clear hK K)
        refine q_skip rfl ?_
        (intro K hK; go_simp; refine hK _ ?_; clear hK K)
        refine q_skip rfl ?_
        (intro K hK; go_simp; refine hK _ ?_; clear hK K)
        refine q_skip rfl ?_
        (intro K hK; go_simp; refine hK _ ?_; clear hK K)
        refine q_skip rfl ?_
        (intro K hK; go_simp; refine hK _ ?_; clear hK K)
        refine q_skip rfl ?_
        (intro K hK; go_simp; refine hK _ ?_; clear hK K)
        refine q_skip rfl ?_
        (intro K hK; go_simp; refine hK _ ?_; clear hK K)
        refine q_val (v := .bool true) rfl (fun w' hw' => by go_simp) ?_
        (intro K hK; go_simp; refine hK _ ?_; clear hK K)
        refine q_move rfl (.tmp 54) rfl ?_
        (intro K hK; go_simp; refine hK _ ?_; clear hK K)
        refine q_skip rfl ?_
        (intro K hK; go_simp; refine hK _ ?_; clear hK K)
        refine q_skip rfl ?_
        (intro K hK; go_simp; refine hK _ ?_; clear hK K)
        refine q_skip rfl ?_
        (intro K hK; go_simp; refine hK _ ?_; clear hK K)
        refine q_skip rfl ?_
        (intro K hK; go_simp; refine hK _ ?_; clear hK K)
        refine q_skip rfl ?_
        (intro K hK; go_simp; refine hK _ ?_; clear hK K)
        refine q_skip rfl ?_
        (intro K hK; go_simp; refine hK _ ?_; clear hK K)
        refine q_skip rfl ?_
        (intro K hK; go_simp; refine hK _ ?_; clear hK K)
        refine q_skip rfl ?_
        (intro K hK; go_simp; refine hK _ ?_; clear hK K)
        refine q_skip rfl ?_
        (intro K hK; go_simp; refine hK _ ?_; clear hK K)
        refine q_val (v := .bool true) rfl (fun w' hw' => by go_simp) ?_
        (intro K hK; go_simp; refine hK _ ?_; clear hK K)
        refine q_nil ?_
        intro w5 hw5
        have h5 : Hid (Below w.heap.size w w5) := h4.out.trans (hw5.below.mono h4.out.size)
        have hans2 : Hid ((k : Int) = (ans : Int)) := congrArg Nat.cast (hstop.out (.inl y1.out))
        go_wp2_with fail
        go_ret
        exact ⟨by rw [← hans2.out]; rfl, h5.out⟩
      · have z1 : ((k : Int) == 1000) = false := by simp; omega
        replace y1 := Lib.hid y1
        by_cases y2 : 2097152 < bq
        · have z2 : (2097152 : Int) < (bq : Int) := by omega
          go_upto_region 8 with fail
          refine q_region (Class w4) (by kernel_rfl) (by kernel_rfl) (Class.mk_ ((Below.refl _ _).drew)) ?_
          refine q_move rfl (.tmp 12) rfl ?_
          (intro K hK; go_simp; refine hK _ ?_; clear hK K)
          refine q_val (v := .bool false) rfl (fun w' hw' => by go_simp) ?_
          (intro K hK; go_simp; refine hK _ ?_; clear hK K)
          refine q_move rfl (.tmp 37) rfl ?_
          (intro K hK; go_simp; refine hK _ ?_; clear hK K)
          refine q_move rfl (.tmp 11) rfl ?_
          (intro K hK; go_simp; refine hK _ ?_; clear hK K)
          refine q_val (v := .bool true) rfl (fun w' hw' => by go_simp) ?_
          (intro K hK; go_simp; refine hK _ ?_; clear hK K)
          refine q_val (v := .bool true) rfl (fun w' hw' => by go_simp) ?_
          (intro K hK; go_simp; refine hK _ ?_; clear hK K)
          refine q_move rfl (.tmp 41) rfl ?_
          (intro K hK; go_simp; refine hK _ ?_; clear hK K)
          refine q_skip rfl ?_
          (intro K hK; go_simp; refine hK _ ?_; clear hK K)
          refine q_skip rfl ?_
          (intro K hK; go_simp; refine hK _ ?_; clear hK K)
          refine q_skip rfl ?_
          (intro K hK; go_simp; refine hK _ ?_; clear hK K)
          refine q_skip rfl ?_
          (intro K hK; go_simp; refine hK _ ?_; clear hK K)
          refine q_skip rfl ?_
          (intro K hK; go_simp; refine hK _ ?_; clear hK K)
          refine q_skip rfl ?_
          (intro K hK; go_simp; refine hK _ ?_; clear hK K)
          refine q_skip rfl ?_
          (intro K hK; go_simp; refine hK _ ?_; clear hK K)
          refine q_skip rfl ?_
          (intro K hK; go_simp; refine hK _ ?_; clear hK K)
          refine q_skip rfl ?_
          (intro K hK; go_simp; refine hK _ ?_; clear hK K)
          refine q_skip rfl ?_
          (intro K hK; go_simp; refine hK _ ?_; clear hK K)
          refine q_skip rfl ?_
          (intro K hK; go_simp; refine hK _ ?_; clear hK K)
          refine q_val (v := .bool true) rfl (fun w' hw' => by go_simp) ?_
          (intro K hK; go_simp; refine hK _ ?_; clear hK K)
          refine q_move rfl (.tmp 54) rfl ?_
          (intro K hK; go_simp; refine hK _ ?_; clear hK K)
          refine q_skip rfl ?_
          (intro K hK; go_simp; refine hK _ ?_; clear hK K)
          refine q_skip rfl ?_
          (intro K hK; go_simp; refine hK _ ?_; clear hK K)
          refine q_skip rfl ?_
          (intro K hK; go_simp; refine hK _ ?_; clear hK K)
          refine q_skip rfl ?_
          (intro K hK; go_simp; refine hK _ ?_; clear hK K)
          refine q_skip rfl ?_
          (intro K hK; go_simp; refine hK _ ?_; clear hK K)
          refine q_skip rfl ?_
          (intro K hK; go_simp; refine hK _ ?_; clear hK K)
          refine q_skip rfl ?_
          (intro K hK; go_simp; refine hK _ ?_; clear hK K)
          refine q_skip rfl ?_
          (intro K hK; go_simp; refine hK _ ?_; clear hK K)
          refine q_skip rfl ?_
          (intro K hK; go_simp; refine hK _ ?_; clear hK K)
          refine q_val (v := .bool true) rfl (fun w' hw' => by go_simp) ?_
          (intro K hK; go_simp; refine hK _ ?_; clear hK K)
          refine q_nil ?_
          intro w5 hw5
          have h5 : Hid (Below w.heap.size w w5) := h4.out.trans (hw5.below.mono h4.out.size)
          have hans2 : Hid ((k : Int) = (ans : Int)) := congrArg Nat.cast (hstop.out (.inr (.inl y2)))
          go_wp2_with fail
          go_ret
          exact ⟨by rw [← hans2.out]; rfl, h5.out⟩
        · have z2 : ¬ (2097152 : Int) < (bq : Int) := by omega
          replace y2 := Lib.hid y2
          obtain ⟨fb, hfb⟩ : ∃ fb, Hid ((fitB x.x x.y x.n m && (x.x == x0.x)) = fb) := ⟨_, Lib.hid rfl⟩
          rw [hfb.out] at hRo
          cases fb with
          | false =>
            have y3 : Hid ((itemOf q x).fit = false ∨ (itemOf q x).size ≠ x0.x) := by
              have h := hfb.out
              rw [hfit.out, Bool.and_eq_false_iff, beq_eq_false_iff_ne] at h
              exact h
            go_upto_region 8 with fail
            refine q_region (Class w4) (by kernel_rfl) (by kernel_rfl) (Class.mk_ ((Below.refl _ _).drew)) ?_
            refine q_move rfl (.tmp 12) rfl ?_
            (intro K hK; go_simp; refine hK _ ?_; clear hK K)
            refine q_val (v := .bool false) rfl (fun w' hw' => by go_simp) ?_
            (intro K hK; go_simp; refine hK _ ?_; clear hK K)
            refine q_move rfl (.tmp 37) rfl ?_
            (intro K hK; go_simp; refine hK _ ?_; clear hK K)
            refine q_move rfl (.tmp 11) rfl ?_
            (intro K hK; go_simp; refine hK _ ?_; clear hK K)
            refine q_val (v := .bool false) rfl (fun w' hw' => by go_simp) ?_
            (intro K hK; go_simp; refine hK _ ?_; clear hK K)
            refine q_val (v := .bool false) rfl (fun w' hw' => by go_simp) ?_
            (intro K hK; go_simp; refine hK _ ?_; clear hK K)
            refine q_move rfl (.tmp 41) rfl ?_
            (intro K hK; go_simp; refine hK _ ?_; clear hK K)
            refine q_move rfl (.tmp 13) rfl ?_
            (intro K hK; go_simp; refine hK _ ?_; clear hK K)
            refine q_move rfl (.tmp 4) rfl ?_
            (intro K hK; go_simp; refine hK _ ?_; clear hK K)
            refine q_move rfl (.tmp 12) rfl ?_
            (intro K hK; go_simp; refine hK _ ?_; clear hK K)
            refine q_val (v := .pointer (some ⟨bP, oP + k * 3, none⟩)) rfl (fun w' hw' => by go_simp) ?_
            (intro K hK; go_simp; refine hK _ ?_; clear hK K)
            refine q_part rfl 31 (.tmp 46) rfl bP ((oP + k * 3)) rfl (x.cells) _ (fun w' hw' => hfx.out _ (h4.out.trans (hw'.below.mono h4.out.size))) Tryd.underlying31 rfl size3 ?_
            (intro K hK; go_simp; refine hK _ ?_; clear hK K)
            refine q_move rfl (.tmp 4) rfl ?_
            (intro K hK; go_simp; refine hK _ ?_; clear hK K)
            refine q_val (v := .pointer (some ⟨bP, oP, none⟩)) rfl (fun w' hw' => by go_simp) ?_
            (intro K hK; go_simp; refine hK _ ?_; clear hK K)
            refine q_val (v := .pointer (some ⟨bP, oP, none⟩)) rfl (fun w' hw' => by go_simp) ?_
            (intro K hK; go_simp; refine hK _ ?_; clear hK K)
            refine q_val (v := .int .i64 x0.x) rfl (fun w' hw' => by have e8 := hf0.out _ (h4.out.trans (hw'.below.mono h4.out.size)); go_simp) ?_
            (intro K hK; go_simp; refine hK _ ?_; clear hK K)
            refine q_fn (v := .bool false) (args := #[.slice Ae m ce, .agg x.cells.toArray, .int .i64 x0.x]) rfl _ _ rfl rfl Tryd.func102 (by kernel_rfl) (by kernel_rfl) (fun w' hw' => (hRo.out w').mono (fun e w'' ⟨he, hw⟩ => ⟨he, hw'.next hw⟩)) ?_
            (intro K hK; go_simp; refine hK _ ?_; clear hK K)
            refine q_val (v := .bool true) rfl (fun w' hw' => by go_simp) ?_
            (intro K hK; go_simp; refine hK _ ?_; clear hK K)
            refine q_val (v := .bool true) rfl (fun w' hw' => by go_simp) ?_
            (intro K hK; go_simp; refine hK _ ?_; clear hK K)
            refine q_move rfl (.tmp 54) rfl ?_
            (intro K hK; go_simp; refine hK _ ?_; clear hK K)
            refine q_skip rfl ?_
            (intro K hK; go_simp; refine hK _ ?_; clear hK K)
            refine q_skip rfl ?_
            (intro K hK; go_simp; refine hK _ ?_; clear hK K)
            refine q_skip rfl ?_
            (intro K hK; go_simp; refine hK _ ?_; clear hK K)
            refine q_skip rfl ?_
            (intro K hK; go_simp; refine hK _ ?_; clear hK K)
            refine q_skip rfl ?_
            (intro K hK; go_simp; refine hK _ ?_; clear hK K)
            refine q_skip rfl ?_
            (intro K hK; go_simp; refine hK _ ?_; clear hK K)
            refine q_skip rfl ?_
            (intro K hK; go_simp; refine hK _ ?_; clear hK K)
            refine q_skip rfl ?_
            (intro K hK; go_simp; refine hK _ ?_; clear hK K)
            refine q_skip rfl ?_
            (intro K hK; go_simp; refine hK _ ?_; clear hK K)
            refine q_val (v := .bool true) rfl (fun w' hw' => by go_simp) ?_
            (intro K hK; go_simp; refine hK _ ?_; clear hK K)
            refine q_nil ?_
            intro w5 hw5
            have h5 : Hid (Below w.heap.size w w5) := h4.out.trans (hw5.below.mono h4.out.size)
            have hans2 : Hid ((k : Int) = (ans : Int)) := congrArg Nat.cast (hstop.out (.inr (.inr (y3.out.elim .inl fun h => .inr (.inl h)))))
            go_wp2_with fail
            go_ret
            exact ⟨by rw [← hans2.out]; rfl, h5.out⟩
          | true =>
            have y3 : Hid ((itemOf q x).fit = true ∧ x.x = x0.x) := by
              have h := hfb.out
              rw [hfit.out, Bool.and_eq_true, beq_iff_eq] at h
              exact h
            have hin : Hid (1 ≤ x0.x ∧ x0.x ≤ 1099511627776) := by
              have h := y3.out.1
              rw [← hfit.out, y3.out.2] at h
              unfold fitB insideB at h
              simp only [Bool.and_eq_true, decide_eq_true_eq] at h
              show _ ∧ _
              omega
            have y4 : IntKind.i64.wrap (x0.x - (k : Int)) = x0.x - (k : Int) := IntWalk.i64_in _ (by have := hin.out; omega)
            have y5 : IntKind.i64.wrap (x0.x - (k : Int) - 1) = x0.x - (k : Int) - 1 := IntWalk.i64_in _ (by have := hin.out; omega)
            by_cases y6 : x0.x - k - 1 < first
            · go_upto_region 8 with fail
              refine q_region (Class w4) (by kernel_rfl) (by kernel_rfl) (Class.mk_ ((Below.refl _ _).drew)) ?_
              refine q_move rfl (.tmp 12) rfl ?_
              (intro K hK; go_simp; refine hK _ ?_; clear hK K)
              refine q_val (v := .bool false) rfl (fun w' hw' => by go_simp) ?_
              (intro K hK; go_simp; refine hK _ ?_; clear hK K)
              refine q_move rfl (.tmp 37) rfl ?_
              (intro K hK; go_simp; refine hK _ ?_; clear hK K)
              refine q_move rfl (.tmp 11) rfl ?_
              (intro K hK; go_simp; refine hK _ ?_; clear hK K)
              refine q_val (v := .bool false) rfl (fun w' hw' => by go_simp) ?_
              (intro K hK; go_simp; refine hK _ ?_; clear hK K)
              refine q_val (v := .bool false) rfl (fun w' hw' => by go_simp) ?_
              (intro K hK; go_simp; refine hK _ ?_; clear hK K)
              refine q_move rfl (.tmp 41) rfl ?_
              (intro K hK; go_simp; refine hK _ ?_; clear hK K)
              refine q_move rfl (.tmp 13) rfl ?_
              (intro K hK; go_simp; refine hK _ ?_; clear hK K)
              refine q_move rfl (.tmp 4) rfl ?_
              (intro K hK; go_simp; refine hK _ ?_; clear hK K)
              refine q_move rfl (.tmp 12) rfl ?_
              (intro K hK; go_simp; refine hK _ ?_; clear hK K)
              refine q_val (v := .pointer (some ⟨bP, oP + k * 3, none⟩)) rfl (fun w' hw' => by go_simp) ?_
              (intro K hK; go_simp; refine hK _ ?_; clear hK K)
              refine q_part rfl 31 (.tmp 46) rfl bP ((oP + k * 3)) rfl (x.cells) _ (fun w' hw' => hfx.out _ (h4.out.trans (hw'.below.mono h4.out.size))) Tryd.underlying31 rfl size3 ?_
              (intro K hK; go_simp; refine hK _ ?_; clear hK K)
              refine q_move rfl (.tmp 4) rfl ?_
              (intro K hK; go_simp; refine hK _ ?_; clear hK K)
              refine q_val (v := .pointer (some ⟨bP, oP, none⟩)) rfl (fun w' hw' => by go_simp) ?_
              (intro K hK; go_simp; refine hK _ ?_; clear hK K)
              refine q_val (v := .pointer (some ⟨bP, oP, none⟩)) rfl (fun w' hw' => by go_simp) ?_
              (intro K hK; go_simp; refine hK _ ?_; clear hK K)
              refine q_val (v := .int .i64 x0.x) rfl (fun w' hw' => by have e8 := hf0.out _ (h4.out.trans (hw'.below.mono h4.out.size)); go_simp) ?_
              (intro K hK; go_simp; refine hK _ ?_; clear hK K)
              refine q_fn (v := .bool true) (args := #[.slice Ae m ce, .agg x.cells.toArray, .int .i64 x0.x]) rfl _ _ rfl rfl Tryd.func102 (by kernel_rfl) (by kernel_rfl) (fun w' hw' => (hRo.out w').mono (fun e w'' ⟨he, hw⟩ => ⟨he, hw'.next hw⟩)) ?_
              (intro K hK; go_simp; refine hK _ ?_; clear hK K)
              refine q_val (v := .bool false) rfl (fun w' hw' => by go_simp) ?_
              (intro K hK; go_simp; refine hK _ ?_; clear hK K)
              refine q_val (v := .bool false) rfl (fun w' hw' => by go_simp) ?_
              (intro K hK; go_simp; refine hK _ ?_; clear hK K)
              refine q_move rfl (.tmp 54) rfl ?_
              (intro K hK; go_simp; refine hK _ ?_; clear hK K)
              refine q_move rfl (.tmp 1) rfl ?_
              (intro K hK; go_simp; refine hK _ ?_; clear hK K)
              refine q_move rfl (.tmp 4) rfl ?_
              (intro K hK; go_simp; refine hK _ ?_; clear hK K)
              refine q_val (v := .pointer (some ⟨bP, oP, none⟩)) rfl (fun w' hw' => by go_simp) ?_
              (intro K hK; go_simp; refine hK _ ?_; clear hK K)
              refine q_val (v := .pointer (some ⟨bP, oP, none⟩)) rfl (fun w' hw' => by go_simp) ?_
              (intro K hK; go_simp; refine hK _ ?_; clear hK K)
              refine q_val (v := .int .i64 x0.x) rfl (fun w' hw' => by have e8 := hf0.out _ (h4.out.trans (hw'.below.mono h4.out.size)); go_simp) ?_
              (intro K hK; go_simp; refine hK _ ?_; clear hK K)
              refine q_move rfl (.tmp 12) rfl ?_
              (intro K hK; go_simp; refine hK _ ?_; clear hK K)
              refine q_val (v := .int .i64 (x0.x - (k : Int))) rfl (fun w' hw' => by go_simp) ?_
              (intro K hK; go_simp; refine hK _ ?_; clear hK K)
              refine q_val (v := .int .i64 (x0.x - (k : Int) - 1)) rfl (fun w' hw' => by go_simp) ?_
              (intro K hK; go_simp; refine hK _ ?_; clear hK K)
              refine q_val (v := .bool true) rfl (fun w' hw' => by go_simp) ?_
              (intro K hK; go_simp; refine hK _ ?_; clear hK K)
              refine q_val (v := .bool true) rfl (fun w' hw' => by go_simp) ?_
              (intro K hK; go_simp; refine hK _ ?_; clear hK K)
              refine q_nil ?_
              intro w5 hw5
              have h5 : Hid (Below w.heap.size w w5) := h4.out.trans (hw5.below.mono h4.out.size)
              have hans2 : Hid ((k : Int) = (ans : Int)) := congrArg Nat.cast (hstop.out (.inr (.inr (.inr (.inr y6)))))
              go_wp2_with fail
              go_ret
              exact ⟨by rw [← hans2.out]; rfl, h5.out⟩
            · go_upto_region 8 with fail
              refine q_region (Class w4) (by kernel_rfl) (by kernel_rfl) (Class.mk_ ((Below.refl _ _).drew)) ?_
              refine q_move rfl (.tmp 12) rfl ?_
              (intro K hK; go_simp; refine hK _ ?_; clear hK K)
              refine q_val (v := .bool false) rfl (fun w' hw' => by go_simp) ?_
              (intro K hK; go_simp; refine hK _ ?_; clear hK K)
              refine q_move rfl (.tmp 37) rfl ?_
              (intro K hK; go_simp; refine hK _ ?_; clear hK K)
              refine q_move rfl (.tmp 11) rfl ?_
              (intro K hK; go_simp; refine hK _ ?_; clear hK K)
              refine q_val (v := .bool false) rfl (fun w' hw' => by go_simp) ?_
              (intro K hK; go_simp; refine hK _ ?_; clear hK K)
              refine q_val (v := .bool false) rfl (fun w' hw' => by go_simp) ?_
              (intro K hK; go_simp; refine hK _ ?_; clear hK K)
              refine q_move rfl (.tmp 41) rfl ?_
              (intro K hK; go_simp; refine hK _ ?_; clear hK K)
              refine q_move rfl (.tmp 13) rfl ?_
              (intro K hK; go_simp; refine hK _ ?_; clear hK K)
              refine q_move rfl (.tmp 4) rfl ?_
              (intro K hK; go_simp; refine hK _ ?_; clear hK K)
              refine q_move rfl (.tmp 12) rfl ?_
              (intro K hK; go_simp; refine hK _ ?_; clear hK K)
              refine q_val (v := .pointer (some ⟨bP, oP + k * 3, none⟩)) rfl (fun w' hw' => by go_simp) ?_
              (intro K hK; go_simp; refine hK _ ?_; clear hK K)
              refine q_part rfl 31 (.tmp 46) rfl bP ((oP + k * 3)) rfl (x.cells) _ (fun w' hw' => hfx.out _ (h4.out.trans (hw'.below.mono h4.out.size))) Tryd.underlying31 rfl size3 ?_
              (intro K hK; go_simp; refine hK _ ?_; clear hK K)
              refine q_move rfl (.tmp 4) rfl ?_
              (intro K hK; go_simp; refine hK _ ?_; clear hK K)
              refine q_val (v := .pointer (some ⟨bP, oP, none⟩)) rfl (fun w' hw' => by go_simp) ?_
              (intro K hK; go_simp; refine hK _ ?_; clear hK K)
              refine q_val (v := .pointer (some ⟨bP, oP, none⟩)) rfl (fun w' hw' => by go_simp) ?_
              (intro K hK; go_simp; refine hK _ ?_; clear hK K)
              refine q_val (v := .int .i64 x0.x) rfl (fun w' hw' => by have e8 := hf0.out _ (h4.out.trans (hw'.below.mono h4.out.size)); go_simp) ?_
              (intro K hK; go_simp; refine hK _ ?_; clear hK K)
              refine q_fn (v := .bool true) (args := #[.slice Ae m ce, .agg x.cells.toArray, .int .i64 x0.x]) rfl _ _ rfl rfl Tryd.func102 (by kernel_rfl) (by kernel_rfl) (fun w' hw' => (hRo.out w').mono (fun e w'' ⟨he, hw⟩ => ⟨he, hw'.next hw⟩)) ?_
              (intro K hK; go_simp; refine hK _ ?_; clear hK K)
              refine q_val (v := .bool false) rfl (fun w' hw' => by go_simp) ?_
              (intro K hK; go_simp; refine hK _ ?_; clear hK K)
              refine q_val (v := .bool false) rfl (fun w' hw' => by go_simp) ?_
              (intro K hK; go_simp; refine hK _ ?_; clear hK K)
              refine q_move rfl (.tmp 54) rfl ?_
              (intro K hK; go_simp; refine hK _ ?_; clear hK K)
              refine q_move rfl (.tmp 1) rfl ?_
              (intro K hK; go_simp; refine hK _ ?_; clear hK K)
              refine q_move rfl (.tmp 4) rfl ?_
              (intro K hK; go_simp; refine hK _ ?_; clear hK K)
              refine q_val (v := .pointer (some ⟨bP, oP, none⟩)) rfl (fun w' hw' => by go_simp) ?_
              (intro K hK; go_simp; refine hK _ ?_; clear hK K)
              refine q_val (v := .pointer (some ⟨bP, oP, none⟩)) rfl (fun w' hw' => by go_simp) ?_
              (intro K hK; go_simp; refine hK _ ?_; clear hK K)
              refine q_val (v := .int .i64 x0.x) rfl (fun w' hw' => by have e8 := hf0.out _ (h4.out.trans (hw'.below.mono h4.out.size)); go_simp) ?_
              (intro K hK; go_simp; refine hK _ ?_; clear hK K)
              refine q_move rfl (.tmp 12) rfl ?_
              (intro K hK; go_simp; refine hK _ ?_; clear hK K)
              refine q_val (v := .int .i64 (x0.x - (k : Int))) rfl (fun w' hw' => by go_simp) ?_
              (intro K hK; go_simp; refine hK _ ?_; clear hK K)
              refine q_val (v := .int .i64 (x0.x - (k : Int) - 1)) rfl (fun w' hw' => by go_simp) ?_
              (intro K hK; go_simp; refine hK _ ?_; clear hK K)
              refine q_val (v := .bool false) rfl (fun w' hw' => by go_simp) ?_
              (intro K hK; go_simp; refine hK _ ?_; clear hK K)
              refine q_val (v := .bool false) rfl (fun w' hw' => by go_simp) ?_
              (intro K hK; go_simp; refine hK _ ?_; clear hK K)
              refine q_nil ?_
              intro w5 hw5
              have h5 : Hid (Below w.heap.size w w5) := h4.out.trans (hw5.below.mono h4.out.size)
              have hgo : Hid (low pv x.y = false → reachFrom first x0.x (k + 1) bq (some x.y) ((itemsOf es ps).drop (k + 1)) = ans) := fun hl => hon.out (by
                rintro (h | h | h | h | h)
                · exact y1.out h
                · exact y2.out h
                · rw [y3.out.1] at h; cases h
                · exact h y3.out.2
                · exact y6 h) hl
              replace y6 := Lib.hid y6
              clear y4 y5
              have hk1 : Hid (k + 1 ≤ n) := by show _ ≤ _; omega
              have hb1 : Hid (bq ≤ 2097152) := by have := y2.out; show _ ≤ _; omega
              have hp1 : Hid (some x.y = if k + 1 = 0 then none else (ps[k + 1 - 1]?).map (·.y)) := by show _ = _; rw [if_neg (by omega), Nat.add_sub_cancel, hxi.out]; rfl
              by_cases h0 : k = 0
              · have hl : low pv x.y = false := by rw [hpv.out, if_pos h0]; rfl
                have hgo1 := Lib.hid (hgo.out hl)
                have z5 := Lib.hid h0
                clear h0 hl hgo hon hstop hlow
                go_upto_region 10 with fail
                refine q_region (Class w5) (by kernel_rfl) (by kernel_rfl) (Class.mk_ ((Below.refl _ _).drew)) ?_
                refine q_move rfl (.tmp 12) rfl ?_
                (intro K hK; go_simp; refine hK _ ?_; clear hK K)
                refine q_val (v := .bool false) rfl (fun w' hw' => by (go_simp; have := z5.out; omega)) ?_
                (intro K hK; go_simp; refine hK _ ?_; clear hK K)
                refine q_move rfl (.tmp 68) rfl ?_
                (intro K hK; go_simp; refine hK _ ?_; clear hK K)
                refine q_skip rfl ?_
                (intro K hK; go_simp; refine hK _ ?_; clear hK K)
                refine q_skip rfl ?_
                (intro K hK; go_simp; refine hK _ ?_; clear hK K)
                refine q_skip rfl ?_
                (intro K hK; go_simp; refine hK _ ?_; clear hK K)
                refine q_skip rfl ?_
                (intro K hK; go_simp; refine hK _ ?_; clear hK K)
                refine q_skip rfl ?_
                (intro K hK; go_simp; refine hK _ ?_; clear hK K)
                refine q_skip rfl ?_
                (intro K hK; go_simp; refine hK _ ?_; clear hK K)
                refine q_skip rfl ?_
                (intro K hK; go_simp; refine hK _ ?_; clear hK K)
                refine q_skip rfl ?_
                (intro K hK; go_simp; refine hK _ ?_; clear hK K)
                refine q_skip rfl ?_
                (intro K hK; go_simp; refine hK _ ?_; clear hK K)
                refine q_skip rfl ?_
                (intro K hK; go_simp; refine hK _ ?_; clear hK K)
                refine q_skip rfl ?_
                (intro K hK; go_simp; refine hK _ ?_; clear hK K)
                refine q_skip rfl ?_
                (intro K hK; go_simp; refine hK _ ?_; clear hK K)
                refine q_val (v := .bool false) rfl (fun w' hw' => by go_simp) ?_
                (intro K hK; go_simp; refine hK _ ?_; clear hK K)
                refine q_nil ?_
                intro w6 hw6
                have h6 : Hid (Below w.heap.size w w6) := h5.out.trans (hw6.below.mono h5.out.size)
                go_wp2_with fail
                go_roundw
                case rel => exact ⟨k + 1, bq, some x.y, rfl, by go_num, hk1.out, hb1.out, hp1.out, (show reachFrom _ _ _ _ _ _ = _ by rw [hfs.out]; exact hgo1.out), h6.out⟩
                case measure => (have := hk1.out; simp [intOf]; omega)
              · have z5 : Hid (0 < k) := by show _ < _; omega
                obtain ⟨z, hz, hzc⟩ := hprev.out (by omega)
                obtain ⟨kp, hkp⟩ : ∃ kp, k - 1 = kp := ⟨_, rfl⟩
                have hpz : pv = some z.y := by rw [hpv.out, if_neg h0, hz]; rfl
                rw [hkp] at hzc
                have z7 : IntKind.i64.wrap ((k : Int) - 1) = (kp : Int) := by rw [IntWalk.i64_in _ (by omega)]; omega
                have z8 : (kp : Int) < (n : Int) := by omega
                have z9 : (0 : Int) ≤ (kp : Int) := by omega
                replace hzc := Lib.hid hzc
                replace hkp := Lib.hid hkp
                replace h0 := Lib.hid h0
                by_cases hy : x.y ≤ z.y
                · have hl : low pv x.y = true := by rw [hpz]; exact decide_eq_true hy
                  have hans2 : Hid ((k : Int) = (ans : Int)) := congrArg Nat.cast (hlow.out hl)
                  clear hl hpz hz hgo hon hstop hlow
                  go_upto_region 10 with fail
                  refine q_region (Class w5) (by kernel_rfl) (by kernel_rfl) (Class.mk_ ((Below.refl _ _).drew)) ?_
                  refine q_move rfl (.tmp 12) rfl ?_
                  (intro K hK; go_simp; refine hK _ ?_; clear hK K)
                  refine q_val (v := .bool true) rfl (fun w' hw' => by (go_simp; have := z5.out; omega)) ?_
                  (intro K hK; go_simp; refine hK _ ?_; clear hK K)
                  refine q_move rfl (.tmp 68) rfl ?_
                  (intro K hK; go_simp; refine hK _ ?_; clear hK K)
                  refine q_move rfl (.tmp 4) rfl ?_
                  (intro K hK; go_simp; refine hK _ ?_; clear hK K)
                  refine q_move rfl (.tmp 12) rfl ?_
                  (intro K hK; go_simp; refine hK _ ?_; clear hK K)
                  refine q_val (v := .pointer (some ⟨bP, oP + k * 3, none⟩)) rfl (fun w' hw' => by go_simp) ?_
                  (intro K hK; go_simp; refine hK _ ?_; clear hK K)
                  refine q_val (v := .pointer (some ⟨bP, oP + k * 3 + 1, none⟩)) rfl (fun w' hw' => by go_simp) ?_
                  (intro K hK; go_simp; refine hK _ ?_; clear hK K)
                  refine q_val (v := .int .i64 x.y) rfl (fun w' hw' => by have e8 := hfx.out _ (h5.out.trans (hw'.below.mono h5.out.size)) 1 _ rfl; go_simp) ?_
                  (intro K hK; go_simp; refine hK _ ?_; clear hK K)
                  refine q_move rfl (.tmp 4) rfl ?_
                  (intro K hK; go_simp; refine hK _ ?_; clear hK K)
                  refine q_move rfl (.tmp 12) rfl ?_
                  (intro K hK; go_simp; refine hK _ ?_; clear hK K)
                  refine q_val (v := .int .i64 (kp : Int)) rfl (fun w' hw' => by go_simp) ?_
                  (intro K hK; go_simp; refine hK _ ?_; clear hK K)
                  refine q_val (v := .pointer (some ⟨bP, oP + kp * 3, none⟩)) rfl (fun w' hw' => by go_simp) ?_
                  (intro K hK; go_simp; refine hK _ ?_; clear hK K)
                  refine q_val (v := .pointer (some ⟨bP, oP + kp * 3 + 1, none⟩)) rfl (fun w' hw' => by go_simp) ?_
                  (intro K hK; go_simp; refine hK _ ?_; clear hK K)
                  refine q_val (v := .int .i64 z.y) rfl (fun w' hw' => by have e8 := hzc.out _ (h5.out.trans (hw'.below.mono h5.out.size)); go_simp) ?_
                  (intro K hK; go_simp; refine hK _ ?_; clear hK K)
                  refine q_val (v := .bool true) rfl (fun w' hw' => by go_simp) ?_
                  (intro K hK; go_simp; refine hK _ ?_; clear hK K)
                  refine q_val (v := .bool true) rfl (fun w' hw' => by go_simp) ?_
                  (intro K hK; go_simp; refine hK _ ?_; clear hK K)
                  refine q_nil ?_
                  intro w6 hw6
                  have h6 : Hid (Below w.heap.size w w6) := h5.out.trans (hw6.below.mono h5.out.size)
                  go_wp2_with fail
                  go_ret
                  exact ⟨by rw [← hans2.out]; rfl, h6.out⟩
                · have hl : low pv x.y = false := by rw [hpz]; exact decide_eq_false hy
                  have hgo1 := Lib.hid (hgo.out hl)
                  clear hl hpz hz hgo hon hstop hlow
                  go_upto_region 10 with fail
                  refine q_region (Class w5) (by kernel_rfl) (by kernel_rfl) (Class.mk_ ((Below.refl _ _).drew)) ?_
                  refine q_move rfl (.tmp 12) rfl ?_
                  (intro K hK; go_simp; refine hK _ ?_; clear hK K)
                  refine q_val (v := .bool true) rfl (fun w' hw' => by (go_simp; have := z5.out; omega)) ?_
                  (intro K hK; go_simp; refine hK _ ?_; clear hK K)
                  refine q_move rfl (.tmp 68) rfl ?_
                  (intro K hK; go_simp; refine hK _ ?_; clear hK K)
                  refine q_move rfl (.tmp 4) rfl ?_
                  (intro K hK; go_simp; refine hK _ ?_; clear hK K)
                  refine q_move rfl (.tmp 12) rfl ?_
                  (intro K hK; go_simp; refine hK _ ?_; clear hK K)
                  refine q_val (v := .pointer (some ⟨bP, oP + k * 3, none⟩)) rfl (fun w' hw' => by go_simp) ?_
                  (intro K hK; go_simp; refine hK _ ?_; clear hK K)
                  refine q_val (v := .pointer (some ⟨bP, oP + k * 3 + 1, none⟩)) rfl (fun w' hw' => by go_simp) ?_
                  (intro K hK; go_simp; refine hK _ ?_; clear hK K)
                  refine q_val (v := .int .i64 x.y) rfl (fun w' hw' => by have e8 := hfx.out _ (h5.out.trans (hw'.below.mono h5.out.size)) 1 _ rfl; go_simp) ?_
                  (intro K hK; go_simp; refine hK _ ?_; clear hK K)
                  refine q_move rfl (.tmp 4) rfl ?_
                  (intro K hK; go_simp; refine hK _ ?_; clear hK K)
                  refine q_move rfl (.tmp 12) rfl ?_
                  (intro K hK; go_simp; refine hK _ ?_; clear hK K)
                  refine q_val (v := .int .i64 (kp : Int)) rfl (fun w' hw' => by go_simp) ?_
                  (intro K hK; go_simp; refine hK _ ?_; clear hK K)
                  refine q_val (v := .pointer (some ⟨bP, oP + kp * 3, none⟩)) rfl (fun w' hw' => by go_simp) ?_
                  (intro K hK; go_simp; refine hK _ ?_; clear hK K)
                  refine q_val (v := .pointer (some ⟨bP, oP + kp * 3 + 1, none⟩)) rfl (fun w' hw' => by go_simp) ?_
                  (intro K hK; go_simp; refine hK _ ?_; clear hK K)
                  refine q_val (v := .int .i64 z.y) rfl (fun w' hw' => by have e8 := hzc.out _ (h5.out.trans (hw'.below.mono h5.out.size)); go_simp) ?_
                  (intro K hK; go_simp; refine hK _ ?_; clear hK K)
                  refine q_val (v := .bool false) rfl (fun w' hw' => by go_simp) ?_
                  (intro K hK; go_simp; refine hK _ ?_; clear hK K)
                  refine q_val (v := .bool false) rfl (fun w' hw' => by go_simp) ?_
                  (intro K hK; go_simp; refine hK _ ?_; clear hK K)
                  refine q_nil ?_
                  intro w6 hw6
                  have h6 : Hid (Below w.heap.size w w6) := h5.out.trans (hw6.below.mono h5.out.size)
                  go_wp2_with fail
                  go_roundw
                  case rel => exact ⟨k + 1, bq, some x.y, rfl, by go_num, hk1.out, hb1.out, hp1.out, (show reachFrom _ _ _ _ _ _ = _ by rw [hfs.out]; exact hgo1.out), h6.out⟩
                  case measure => (have := hk1.out; simp [intOf]; omega)
    · have hkn : n = k := by have := hk.out; omega
      have hz : ¬ ((k : Int) < (n : Int)) := by omega
      have hl : (itemsOf es ps).drop k = [] := List.drop_eq_nil_of_le (by unfold itemsOf; rw [List.length_zipWith, hn.out, hm.out]; omega)
      have hans2 : Hid ((n : Int) = (ans : Int)) := by
        show _ = _
        have := hre.out
        rw [hl] at this
        rw [← this, hkn]
        rfl
      clear hl hkn hre hbk hpv hlt
      go_wp2_with fail
      go_ret
      exact ⟨by rw [← hans2.out]; rfl, hW.out⟩
end Go.Proofs.YthkdlaohaekilaaDoor.Reach2
