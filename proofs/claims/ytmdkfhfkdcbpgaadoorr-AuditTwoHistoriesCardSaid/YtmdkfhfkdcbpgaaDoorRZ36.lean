/-
  Texts of the claim, put into one file: AuditTwoEvents, AuditTwoHistories.
-/
import Derived.Test.YtmdkfhfkdcbpgaaDoorRZ34
import Derived.Test.YtmdkfhfkdcbpgaaDoorRZ33
import Derived.Test.YtmdkfhfkdcbpgaaDoorRZ17
import Derived.Test.YtmdkfhfkdcbpgaaDoorRZ6
import Derived.Test.YtmdkfhfkdcbpgaaDoorRZ25
import Derived.LoopN
import Derived.Test.YtmdkfhfkdcbpgaaDoorRZ35

namespace Go.Proofs.YtmdkfhfkdcbpgaaDoorR.AuditTwoEvents
open Go Go.RowKit Go.Proofs.YtmdkfhfkdcbpgaaDoorR Go.Proofs.YtmdkfhfkdcbpgaaDoorR.Mem Go.Proofs.YtmdkfhfkdcbpgaaDoorR.Sha Go.Proofs.YtmdkfhfkdcbpgaaDoorR.Bytes Go.Proofs.YtmdkfhfkdcbpgaaDoorR.HashMem Go.Proofs.YtmdkfhfkdcbpgaaDoorR.DigestMem Go.Proofs.YtmdkfhfkdcbpgaaDoorR.RefSum Go.Proofs.YtmdkfhfkdcbpgaaDoorR.RefCut Go.Proofs.YtmdkfhfkdcbpgaaDoorR.QuietTail Go.Proofs.YtmdkfhfkdcbpgaaDoorR.Grown Go.Proofs.YtmdkfhfkdcbpgaaDoorR.TreeMem Go.Proofs.YtmdkfhfkdcbpgaaDoorR.TreeRoot Go.Proofs.YtmdkfhfkdcbpgaaDoorR.Append Go.Proofs.YtmdkfhfkdcbpgaaDoorR.Held Go.Proofs.YtmdkfhfkdcbpgaaDoorR.Guard Go.Proofs.YtmdkfhfkdcbpgaaDoorR.Chain Go.Proofs.YtmdkfhfkdcbpgaaDoorR.ProofEnc Go.Proofs.YtmdkfhfkdcbpgaaDoorR.Ref17 Go.Proofs.YtmdkfhfkdcbpgaaDoorR.TwiceP Go.Proofs.YtmdkfhfkdcbpgaaDoorR.Clash Go.Proofs.YtmdkfhfkdcbpgaaDoorR.Node Go.Proofs.YtmdkfhfkdcbpgaaDoorR.RowsT Go.Proofs.YtmdkfhfkdcbpgaaDoorR.RowsY Go.Proofs.YtmdkfhfkdcbpgaaDoorR.Want Go.Proofs.YtmdkfhfkdcbpgaaDoorR.Law20 Go.Proofs.YtmdkfhfkdcbpgaaDoorR.Same8 Go.Proofs.YtmdkfhfkdcbpgaaDoorR.Extract Go.Proofs.YtmdkfhfkdcbpgaaDoorR.Book Go.Proofs.YtmdkfhfkdcbpgaaDoorR.Book2 Go.Proofs.YtmdkfhfkdcbpgaaDoorR.AudIncl Go.Proofs.YtmdkfhfkdcbpgaaDoorR.Way20 Go.Proofs.YtmdkfhfkdcbpgaaDoorR.TwoEvP Go.Proofs.YtmdkfhfkdcbpgaaDoorR.Included Go.Proofs.YtmdkfhfkdcbpgaaDoorR.WayOwn Go.Proofs.YtmdkfhfkdcbpgaaDoorR.TwoEv Go.Proofs.YtmdkfhfkdcbpgaaDoorR.TwoEvAny Go.Proofs.YtmdkfhfkdcbpgaaDoorR.Told20 Go.Proofs.YtmdkfhfkdcbpgaaDoorR.Told20b Go.Proofs.YtmdkfhfkdcbpgaaDoorR.BuildD

structure FitE (cs : Array Value) : Prop where
  size : (Tryd.prog.info? 82).map (·.size) = some cs.size
  zero : (#[Value.slice none 0 0, Value.slice none 0 0] : Array Value).size = cs.size
  one : cs.all (fun v => v.oneCell') = true
theorem XR.fit {w : World} {s : Int} {want : Bool} {ts : List Text} {xa xb : Value} {ok : Bool} (h : XR w s want ts xa xb ok) : FitE #[xa, xb] := by
  refine ⟨sizeE2, rfl, ?_⟩
  rcases h with ⟨-, rfl, rfl, -⟩ | ⟨-, -, ga, ca, gb, cb, p, q, rfl, rfl, -⟩
  · rw [List.all_toArray]; rfl
  · rw [List.all_toArray]; rfl
end Go.Proofs.YtmdkfhfkdcbpgaaDoorR.AuditTwoEvents

namespace Go.Proofs.YtmdkfhfkdcbpgaaDoorR.AuditTwoHistories
open Go Go.RowKit Go.Proofs.YtmdkfhfkdcbpgaaDoorR Go.Proofs.YtmdkfhfkdcbpgaaDoorR.Mem Go.Proofs.YtmdkfhfkdcbpgaaDoorR.Sha Go.Proofs.YtmdkfhfkdcbpgaaDoorR.Bytes Go.Proofs.YtmdkfhfkdcbpgaaDoorR.HashMem Go.Proofs.YtmdkfhfkdcbpgaaDoorR.DigestMem Go.Proofs.YtmdkfhfkdcbpgaaDoorR.QuietTail Go.Proofs.YtmdkfhfkdcbpgaaDoorR.Grown Go.Proofs.YtmdkfhfkdcbpgaaDoorR.TreeMem Go.Proofs.YtmdkfhfkdcbpgaaDoorR.TreeRoot Go.Proofs.YtmdkfhfkdcbpgaaDoorR.Append Go.Proofs.YtmdkfhfkdcbpgaaDoorR.Held Go.Proofs.YtmdkfhfkdcbpgaaDoorR.Guard Go.Proofs.YtmdkfhfkdcbpgaaDoorR.Guard2 Go.Proofs.YtmdkfhfkdcbpgaaDoorR.Chain Go.Proofs.YtmdkfhfkdcbpgaaDoorR.Chain2 Go.Proofs.YtmdkfhfkdcbpgaaDoorR.ProofEnc Go.Proofs.YtmdkfhfkdcbpgaaDoorR.TwiceP Go.Proofs.YtmdkfhfkdcbpgaaDoorR.Clash Go.Proofs.YtmdkfhfkdcbpgaaDoorR.Node Go.Proofs.YtmdkfhfkdcbpgaaDoorR.AheadT Go.Proofs.YtmdkfhfkdcbpgaaDoorR.RowsT Go.Proofs.YtmdkfhfkdcbpgaaDoorR.RowsY Go.Proofs.YtmdkfhfkdcbpgaaDoorR.Want Go.Proofs.YtmdkfhfkdcbpgaaDoorR.Law20 Go.Proofs.YtmdkfhfkdcbpgaaDoorR.Extract Go.Proofs.YtmdkfhfkdcbpgaaDoorR.Book Go.Proofs.YtmdkfhfkdcbpgaaDoorR.Book2 Go.Proofs.YtmdkfhfkdcbpgaaDoorR.TwoEvP Go.Proofs.YtmdkfhfkdcbpgaaDoorR.TwoEv Go.Proofs.YtmdkfhfkdcbpgaaDoorR.Told20 Go.Proofs.YtmdkfhfkdcbpgaaDoorR.Told20b Go.Proofs.YtmdkfhfkdcbpgaaDoorR.HistP Go.Proofs.YtmdkfhfkdcbpgaaDoorR.HistMem Go.Proofs.YtmdkfhfkdcbpgaaDoorR.TwoHist Go.Proofs.YtmdkfhfkdcbpgaaDoorR.Links Go.Proofs.YtmdkfhfkdcbpgaaDoorR.DigEq Go.Proofs.YtmdkfhfkdcbpgaaDoorR.AuditTwoEvents

theorem qDH : Tryd.prog.eqGuardType Tryd.prog.depth 23 = false := by kernel_rfl
set_option maxRecDepth 100000 in
set_option maxHeartbeats 8000000 in
theorem auditTwoHistories_any (s : Int) (hs63 : s < 9223372036854775808) (b : Text) (hb : b.length = 32) (es0 : List Text) (n0 : Nat) (hn0 : es0.length = n0) (A : Option Addr) (c : Nat) (hnc : n0 ≤ c) (fs0 : List Text) (m0 : Nat) (hm0 : fs0.length = m0) (B : Option Addr) (d : Nat) (hmd : m0 ≤ d) (w : World) (hB : Base w) (hp0 : Pieces w A es0) (hse0 : ∀ q ∈ es0, q.length < 140737488355327) (hq0 : Pieces w B fs0) (hsf0 : ∀ q ∈ fs0, q.length < 140737488355327) :
    Calls Tryd.prog 10 #[.int .i64 s, .agg (cells8 b).toArray, .slice A n0 c, .slice B m0 d] w fun e' w' => e' = .returned (.bool true) ∧ Below w.heap.size w w' := by
  obtain ⟨i0, ii, iz0, iz1, iz2⟩ := info_partsN infoT
  obtain ⟨n, hn⟩ : ∃ n, min n0 60 = n := ⟨_, rfl⟩
  obtain ⟨m, hm⟩ : ∃ m, min m0 60 = m := ⟨_, rfl⟩
  obtain ⟨es, hes⟩ : ∃ es, es0.take n = es := ⟨_, rfl⟩
  obtain ⟨fs, hfs⟩ : ∃ fs, fs0.take m = fs := ⟨_, rfl⟩
  have hnl : es.length = n := by rw [← hes, List.length_take]; omega
  have hml : fs.length = m := by rw [← hfs, List.length_take]; omega
  have hn60 : n ≤ 60 := by omega
  have hm60 : m ≤ 60 := by omega
  have hp : Pieces w A es := by rw [← hes]; exact Pieces.take_ hp0 n
  have hq : Pieces w B fs := by rw [← hfs]; exact Pieces.take_ hq0 m
  have hse : ∀ q ∈ es, q.length < 140737488355327 := fun q h => hse0 q (by rw [← hes] at h; exact List.mem_of_mem_take h)
  have hsf : ∀ q ∈ fs, q.length < 140737488355327 := fun q h => hsf0 q (by rw [← hfs] at h; exact List.mem_of_mem_take h)
  have hF1 : Hid (∀ w', Calls Tryd.prog 49 #[.slice A n0 c, .int .i64 60] w' fun e w'' => e = .returned (.slice A n c) ∧ w' = w'') := fun w' => by
    have := few60_any A n0 c hnc w'
    rwa [hn] at this
  have hF2 : Hid (∀ w', Calls Tryd.prog 49 #[.slice B m0 d, .int .i64 60] w' fun e w'' => e = .returned (.slice B m d) ∧ w' = w'') := fun w' => by
    have := few60_any B m0 d hmd w'
    rwa [hm] at this
  have hla := linksOf_texts s (K := 140737488355326) (by decide) es b hb (fun e he => by have := hse e he; omega)
  have hlb := linksOf_texts s (K := 140737488355326) (by decide) fs b hb (fun e he => by have := hsf e he; omega)
  have hSa := Lib.hid (fun w' (h : Below w.heap.size w w') => lists_any es fs n m A B c d w' hnl hml (by omega) (hp.below h) (hq.below h) (fun q hx => by have := hse q hx; omega))
  have hCa := Lib.hid (fun w' (h : Below w.heap.size w w') => refchain_any s hs63 b hb es n hnl (by omega) A c w' (hp.below h) (fun q hx => by have := hse q hx; omega))
  have hCb := Lib.hid (fun w' (h : Below w.heap.size w w') => refchain_any s hs63 b hb fs m hml (by omega) B d w' (hq.below h) (fun q hx => by have := hsf q hx; omega))
  have hLa := Lib.hid (fun w' (h : Below w.heap.size w w') => links_any s hs63 b hb es n hnl (by omega) A c w' (hp.below h) hse)
  have hLb := Lib.hid (fun w' (h : Below w.heap.size w w') => links_any s hs63 b hb fs m hml (by omega) B d w' (hq.below h) hsf)
  have hTE := Lib.hid (fun w' (h : Below w.heap.size w w') => twoHist_any s b es fs n m A B c d w' hb hnl hml hn60 hm60 (hB.below h hB.1) (hp.below h) (hq.below h) hse hsf)
  unfold wantHist at hTE
  rw [hnl, hml] at hTE
  obtain ⟨x, hx⟩ : ∃ x, chainOf s b es = x := ⟨_, rfl⟩
  obtain ⟨y, hy⟩ : ∃ y, chainOf s b fs = y := ⟨_, rfl⟩
  have hxl : x.length = 32 := by rw [← hx]; exact chainOf_len s b hb es
  have hyl : y.length = 32 := by rw [← hy]; exact chainOf_len s b hb fs
  have hE := Lib.hid (fun w' => eql_dig x y hxl hyl w')
  rw [hx] at hCa hTE
  rw [hy] at hCb hTE
  obtain ⟨T1, hT1⟩ : ∃ T, linksOf s b es = T := ⟨_, rfl⟩
  obtain ⟨T2, hT2⟩ : ∃ T, linksOf s b fs = T := ⟨_, rfl⟩
  obtain ⟨k1, hk1⟩ : ∃ k1, T1.length = k1 := ⟨_, rfl⟩
  obtain ⟨k2, hk2⟩ : ∃ k2, T2.length = k2 := ⟨_, rfl⟩
  have hk1s : Hid (k1 ≤ 120) := by show _ ≤ _; rw [← hk1, ← hT1, linksOf_len]; omega
  have hk2s : Hid (k2 ≤ 120) := by show _ ≤ _; rw [← hk2, ← hT2, linksOf_len]; omega
  rw [hT1] at hla hLa hTE
  rw [hT2] at hlb hLb hTE
  rw [hk1] at hLa
  rw [hk2] at hLb
  have hlall : ∀ q ∈ T1 ++ T2, q.length < 140737488355328 := fun q hq => by
    rcases List.mem_append.1 hq with h | h
    · have := (hla q h).2; omega
    · have := (hlb q h).2; omega
  have hpall : ∀ q ∈ T1 ++ T2, 0 < q.length := fun q hq => by
    rcases List.mem_append.1 hq with h | h
    · exact (hla q h).1
    · exact (hlb q h).1
  have hTo := Lib.hid (fun w' want (A9 : Option Addr) (c9 : Nat) xa xb ok (hp9 : Pieces w' A9 (T1 ++ T2)) (hx : XR w' s want (T1 ++ T2) xa xb ok) => told_any s hs63 (T1 ++ T2) (k1 + k2) (by rw [List.length_append, hk1, hk2]) (by have := hk1s.out; have := hk2s.out; omega) hlall want A9 c9 w' hp9 xa xb ok hx)
  have hTX := Lib.hid (fun w' (h : Below w.heap.size w w') => (hTE.out w' h).mono fun e w'' h => TPost.xr hpall h)
  clear hTE
  have Fb := Lib.hid (fit (x := b) hb)
  have hk1h := Lib.hid hk1
  have hk2h := Lib.hid hk2
  obtain ⟨g, hg⟩ : ∃ g, Hid (decide (es = fs) = g) := ⟨_, Lib.hid rfl⟩
  rw [hg.out] at hSa hTX
  obtain ⟨h2, hh2⟩ : ∃ h, Hid (decide (x = y) = h) := ⟨_, Lib.hid rfl⟩
  rw [hh2.out] at hE hTX
  have hd0 : decide (n = m) = ((n : Int) == (m : Int)) := by
    by_cases h : n = m
    · subst h; simp
    · rw [decide_eq_false h]; exact (beq_eq_false_iff_ne.2 (by omega)).symm
  rw [hd0] at hTX
  obtain ⟨b0, q0⟩ : ∃ b, ((n : Int) == (m : Int)) = b := ⟨_, rfl⟩
  rw [q0] at hTX
  obtain ⟨want, hwant⟩ : ∃ z, Hid ((b0 && (!g && h2)) = z) := ⟨_, Lib.hid rfl⟩
  rw [hwant.out] at hTX
  have hb0 : Hid (Below w.heap.size w (w.alloc (.cells (cells8 b).toArray 23))) := Below.heap_below w _
  have hR0 : Hid (Blk (w.alloc (.cells (cells8 b).toArray 23)) w.heap.size 23 (cells8 b).toArray) := Blk.new w _ _
  clear hs63 hb hn0 hnc hm0 hmd hB hp0 hse0 hq0 hsf0 hn hm hes hfs hnl hml hn60 hm60 hp hq hse hsf hla hlb hx hy hxl hyl hT1 hT2 hk1 hk2 hlall hpall hd0
  go_enter Tryd.func10, Tryd.ntmps10
  go_wp2_with fail
  refine (hF1.out _).mono ?_
  rintro e' w1 ⟨rfl, rfl⟩
  go_wp2_with fail
  refine (hF2.out _).mono ?_
  rintro e' w1 ⟨rfl, rfl⟩
  generalize w.alloc (.cells (cells8 b).toArray 23) = w3 at *
  have hRw := Lib.hid (fun w' (h : Below w3.heap.size w3 w') => (show Blk w' w.heap.size 23 (cells8 b).toArray from (h.block _ hR0.out.lt).trans hR0.out))
  clear hF1 hF2 hR0
  go_upto_region 3 with fail
  go_cut [9] from 16 to 38 (fun v wr' => v = .bool want ∧ Hid (Below w3.heap.size w3 wr'))
  case first =>
    cases b0 with
    | false =>
      obtain rfl : false = want := hwant.out
      refine q_region (Class w3) (by kernel_rfl) (by kernel_rfl) (Class.mk_ ((Below.refl _ _).drew)) ?_
      refine q_move rfl (.tmp 2) rfl ?_
      (intro K hK; go_simp; refine hK _ ?_; clear hK K)
      refine q_val (v := .int .i64 (n : Int)) rfl (fun w' hw' => by go_simp) ?_
      (intro K hK; go_simp; refine hK _ ?_; clear hK K)
      refine q_move rfl (.tmp 3) rfl ?_
      (intro K hK; go_simp; refine hK _ ?_; clear hK K)
      refine q_val (v := .int .i64 (m : Int)) rfl (fun w' hw' => by go_simp) ?_
      (intro K hK; go_simp; refine hK _ ?_; clear hK K)
      refine q_val (v := .bool false) rfl (fun w' hw' => by go_simp) ?_
      (intro K hK; go_simp; refine hK _ ?_; clear hK K)
      refine q_val (v := .bool false) rfl (fun w' hw' => by go_simp) ?_
      (intro K hK; go_simp; refine hK _ ?_; clear hK K)
      refine q_skip rfl ?_
      (intro K hK; go_simp; refine hK _ ?_; clear hK K)
      refine q_skip rfl ?_
      (intro K hK; go_simp; refine hK _ ?_; clear hK K)
      refine q_skip rfl ?_
      (intro K hK; go_simp; refine hK _ ?_; clear hK K)
      refine q_skip rfl ?_
      (intro K hK; go_simp; refine hK _ ?_; clear hK K)
      refine q_val (v := .bool false) rfl (fun w' hw' => by go_simp) ?_
      (intro K hK; go_simp; refine hK _ ?_; clear hK K)
      refine q_val (v := .bool false) rfl (fun w' hw' => by go_simp) ?_
      (intro K hK; go_simp; refine hK _ ?_; clear hK K)
      refine q_skip rfl ?_
      (intro K hK; go_simp; refine hK _ ?_; clear hK K)
      refine q_skip rfl ?_
      (intro K hK; go_simp; refine hK _ ?_; clear hK K)
      refine q_skip rfl ?_
      (intro K hK; go_simp; refine hK _ ?_; clear hK K)
      refine q_skip rfl ?_
      (intro K hK; go_simp; refine hK _ ?_; clear hK K)
      refine q_skip rfl ?_
      (intro K hK; go_simp; refine hK _ ?_; clear hK K)
      refine q_skip rfl ?_
      (intro K hK; go_simp; refine hK _ ?_; clear hK K)
      refine q_skip rfl ?_
      (intro K hK; go_simp; refine hK _ ?_; clear hK K)
      refine q_skip rfl ?_
      (intro K hK; go_simp; refine hK _ ?_; clear hK K)
      refine q_skip rfl ?_
      (intro K hK; go_simp; refine hK _ ?_; clear hK K)
      refine q_val (v := .bool false) rfl (fun w' hw' => by go_simp) ?_
      (intro K hK; go_simp; refine hK _ ?_; clear hK K)
      refine q_val (v := .bool false) rfl (fun w' hw' => by go_simp) ?_
      (intro K hK; go_simp; refine hK _ ?_; clear hK K)
      refine q_nil ?_
      intro w7 hw7
      have h7 : Hid (Below w3.heap.size w3 w7) := hw7.below
      go_wp2_with fail
      go_meet
      case rel => exact ⟨rfl, h7.out⟩
    | true =>
      cases g with
      | true =>
        obtain rfl : false = want := hwant.out
        refine q_region (Class w3) (by kernel_rfl) (by kernel_rfl) (Class.mk_ ((Below.refl _ _).drew)) ?_
        refine q_move rfl (.tmp 2) rfl ?_
        (intro K hK; go_simp; refine hK _ ?_; clear hK K)
        refine q_val (v := .int .i64 (n : Int)) rfl (fun w' hw' => by go_simp) ?_
        (intro K hK; go_simp; refine hK _ ?_; clear hK K)
        refine q_move rfl (.tmp 3) rfl ?_
        (intro K hK; go_simp; refine hK _ ?_; clear hK K)
        refine q_val (v := .int .i64 (m : Int)) rfl (fun w' hw' => by go_simp) ?_
        (intro K hK; go_simp; refine hK _ ?_; clear hK K)
        refine q_val (v := .bool true) rfl (fun w' hw' => by go_simp) ?_
        (intro K hK; go_simp; refine hK _ ?_; clear hK K)
        refine q_val (v := .bool true) rfl (fun w' hw' => by go_simp) ?_
        (intro K hK; go_simp; refine hK _ ?_; clear hK K)
        refine q_move rfl (.tmp 2) rfl ?_
        (intro K hK; go_simp; refine hK _ ?_; clear hK K)
        refine q_move rfl (.tmp 3) rfl ?_
        (intro K hK; go_simp; refine hK _ ?_; clear hK K)
        refine q_fn (v := .bool true) (args := #[.slice A n c, .slice B m d]) rfl _ _ rfl rfl Tryd.func50 (by kernel_rfl) (by kernel_rfl) (fun w' hw' => (hSa.out w' (hb0.out.trans (hw'.below.mono hb0.out.size))).mono (fun e w'' ⟨he, hb⟩ => ⟨he, hw'.next hb⟩)) ?_
        (intro K hK; go_simp; refine hK _ ?_; clear hK K)
        refine q_val (v := .bool false) rfl (fun w' hw' => by go_simp) ?_
        (intro K hK; go_simp; refine hK _ ?_; clear hK K)
        refine q_val (v := .bool false) rfl (fun w' hw' => by go_simp) ?_
        (intro K hK; go_simp; refine hK _ ?_; clear hK K)
        refine q_val (v := .bool false) rfl (fun w' hw' => by go_simp) ?_
        (intro K hK; go_simp; refine hK _ ?_; clear hK K)
        refine q_skip rfl ?_
        (intro K hK; go_simp; refine hK _ ?_; clear hK K)
        refine q_skip rfl ?_
        (intro K hK; go_simp; refine hK _ ?_; clear hK K)
        refine q_skip rfl ?_
        (intro K hK; go_simp; refine hK _ ?_; clear hK K)
        refine q_skip rfl ?_
        (intro K hK; go_simp; refine hK _ ?_; clear hK K)
        refine q_skip rfl ?_
        (intro K hK; go_simp; refine hK _ ?_; clear hK K)
        refine q_skip rfl ?_
        (intro K hK; go_simp; refine hK _ ?_; clear hK K)
        refine q_skip rfl ?_
        (intro K hK; go_simp; refine hK _ ?_; clear hK K)
        refine q_skip rfl ?_
        (intro K hK; go_simp; refine hK _ ?_; clear hK K)
        refine q_skip rfl ?_
        (intro K hK; go_simp; refine hK _ ?_; clear hK K)
        refine q_val (v := .bool false) rfl (fun w' hw' => by go_simp) ?_
        (intro K hK; go_simp; refine hK _ ?_; clear hK K)
        refine q_val (v := .bool false) rfl (fun w' hw' => by go_simp) ?_
        (intro K hK; go_simp; refine hK _ ?_; clear hK K)
        refine q_nil ?_
        intro w7 hw7
        have h7 : Hid (Below w3.heap.size w3 w7) := hw7.below
        go_wp2_with fail
        go_meet
        case rel => exact ⟨rfl, h7.out⟩
      | false =>
        cases h2 with
        | false =>
          obtain rfl : false = want := hwant.out
          refine q_region (Class w3) (by kernel_rfl) (by kernel_rfl) (Class.mk_ ((Below.refl _ _).drew)) ?_
          refine q_move rfl (.tmp 2) rfl ?_
          (intro K hK; go_simp; refine hK _ ?_; clear hK K)
          refine q_val (v := .int .i64 (n : Int)) rfl (fun w' hw' => by go_simp) ?_
          (intro K hK; go_simp; refine hK _ ?_; clear hK K)
          refine q_move rfl (.tmp 3) rfl ?_
          (intro K hK; go_simp; refine hK _ ?_; clear hK K)
          refine q_val (v := .int .i64 (m : Int)) rfl (fun w' hw' => by go_simp) ?_
          (intro K hK; go_simp; refine hK _ ?_; clear hK K)
          refine q_val (v := .bool true) rfl (fun w' hw' => by go_simp) ?_
          (intro K hK; go_simp; refine hK _ ?_; clear hK K)
          refine q_val (v := .bool true) rfl (fun w' hw' => by go_simp) ?_
          (intro K hK; go_simp; refine hK _ ?_; clear hK K)
          refine q_move rfl (.tmp 2) rfl ?_
          (intro K hK; go_simp; refine hK _ ?_; clear hK K)
          refine q_move rfl (.tmp 3) rfl ?_
          (intro K hK; go_simp; refine hK _ ?_; clear hK K)
          refine q_fn (v := .bool false) (args := #[.slice A n c, .slice B m d]) rfl _ _ rfl rfl Tryd.func50 (by kernel_rfl) (by kernel_rfl) (fun w' hw' => (hSa.out w' (hb0.out.trans (hw'.below.mono hb0.out.size))).mono (fun e w'' ⟨he, hb⟩ => ⟨he, hw'.next hb⟩)) ?_
          (intro K hK; go_simp; refine hK _ ?_; clear hK K)
          refine q_val (v := .bool true) rfl (fun w' hw' => by go_simp) ?_
          (intro K hK; go_simp; refine hK _ ?_; clear hK K)
          refine q_val (v := .bool true) rfl (fun w' hw' => by go_simp) ?_
          (intro K hK; go_simp; refine hK _ ?_; clear hK K)
          refine q_val (v := .bool true) rfl (fun w' hw' => by go_simp) ?_
          (intro K hK; go_simp; refine hK _ ?_; clear hK K)
          refine q_move rfl (.tmp 0) rfl ?_
          (intro K hK; go_simp; refine hK _ ?_; clear hK K)
          refine q_row rfl 23 (.tmp 5) rfl w.heap.size rfl 23 ((cells8 b).toArray) (0, 0) _ (fun w' hw' => hRw.out w' hw'.below) Tryd.underlying23 rfl Fb.out.size ?_
          (intro K hK; go_simp; refine hK _ ?_; clear hK K)
          refine q_move rfl (.tmp 2) rfl ?_
          (intro K hK; go_simp; refine hK _ ?_; clear hK K)
          refine q_fn (v := .agg (cells8 x).toArray) (args := #[.int .i64 s, .agg (cells8 b).toArray, .slice A n c]) rfl _ _ rfl rfl Tryd.func51 (by kernel_rfl) (by kernel_rfl) (fun w' hw' => (hCa.out w' (hb0.out.trans (hw'.below.mono hb0.out.size))).mono (fun e w'' ⟨he, hb⟩ => ⟨he, hw'.next hb⟩)) ?_
          (intro K hK; go_simp; refine hK _ ?_; clear hK K)
          refine q_move rfl (.tmp 0) rfl ?_
          (intro K hK; go_simp; refine hK _ ?_; clear hK K)
          refine q_row rfl 23 (.tmp 5) rfl w.heap.size rfl 23 ((cells8 b).toArray) (0, 0) _ (fun w' hw' => hRw.out w' hw'.below) Tryd.underlying23 rfl Fb.out.size ?_
          (intro K hK; go_simp; refine hK _ ?_; clear hK K)
          refine q_move rfl (.tmp 3) rfl ?_
          (intro K hK; go_simp; refine hK _ ?_; clear hK K)
          refine q_fn (v := .agg (cells8 y).toArray) (args := #[.int .i64 s, .agg (cells8 b).toArray, .slice B m d]) rfl _ _ rfl rfl Tryd.func51 (by kernel_rfl) (by kernel_rfl) (fun w' hw' => (hCb.out w' (hb0.out.trans (hw'.below.mono hb0.out.size))).mono (fun e w'' ⟨he, hb⟩ => ⟨he, hw'.next hb⟩)) ?_
          (intro K hK; go_simp; refine hK _ ?_; clear hK K)
          refine q_val (v := .bool false) rfl (fun w' hw' => run_cmp rfl rfl rfl qDH (hE.out w')) ?_
          (intro K hK; go_simp; refine hK _ ?_; clear hK K)
          refine q_val (v := .bool false) rfl (fun w' hw' => by go_simp) ?_
          (intro K hK; go_simp; refine hK _ ?_; clear hK K)
          refine q_val (v := .bool false) rfl (fun w' hw' => by go_simp) ?_
          (intro K hK; go_simp; refine hK _ ?_; clear hK K)
          refine q_nil ?_
          intro w7 hw7
          have h7 : Hid (Below w3.heap.size w3 w7) := hw7.below
          go_wp2_with fail
          go_meet
          case rel => exact ⟨rfl, h7.out⟩
        | true =>
          obtain rfl : true = want := hwant.out
          refine q_region (Class w3) (by kernel_rfl) (by kernel_rfl) (Class.mk_ ((Below.refl _ _).drew)) ?_
          refine q_move rfl (.tmp 2) rfl ?_
          (intro K hK; go_simp; refine hK _ ?_; clear hK K)
          refine q_val (v := .int .i64 (n : Int)) rfl (fun w' hw' => by go_simp) ?_
          (intro K hK; go_simp; refine hK _ ?_; clear hK K)
          refine q_move rfl (.tmp 3) rfl ?_
          (intro K hK; go_simp; refine hK _ ?_; clear hK K)
          refine q_val (v := .int .i64 (m : Int)) rfl (fun w' hw' => by go_simp) ?_
          (intro K hK; go_simp; refine hK _ ?_; clear hK K)
          refine q_val (v := .bool true) rfl (fun w' hw' => by go_simp) ?_
          (intro K hK; go_simp; refine hK _ ?_; clear hK K)
          refine q_val (v := .bool true) rfl (fun w' hw' => by go_simp) ?_
          (intro K hK; go_simp; refine hK _ ?_; clear hK K)
          refine q_move rfl (.tmp 2) rfl ?_
          (intro K hK; go_simp; refine hK _ ?_; clear hK K)
          refine q_move rfl (.tmp 3) rfl ?_
          (intro K hK; go_simp; refine hK _ ?_; clear hK K)
          refine q_fn (v := .bool false) (args := #[.slice A n c, .slice B m d]) rfl _ _ rfl rfl Tryd.func50 (by kernel_rfl) (by kernel_rfl) (fun w' hw' => (hSa.out w' (hb0.out.trans (hw'.below.mono hb0.out.size))).mono (fun e w'' ⟨he, hb⟩ => ⟨he, hw'.next hb⟩)) ?_
          (intro K hK; go_simp; refine hK _ ?_; clear hK K)
          refine q_val (v := .bool true) rfl (fun w' hw' => by go_simp) ?_
          (intro K hK; go_simp; refine hK _ ?_; clear hK K)
          refine q_val (v := .bool true) rfl (fun w' hw' => by go_simp) ?_
          (intro K hK; go_simp; refine hK _ ?_; clear hK K)
          refine q_val (v := .bool true) rfl (fun w' hw' => by go_simp) ?_
          (intro K hK; go_simp; refine hK _ ?_; clear hK K)
          refine q_move rfl (.tmp 0) rfl ?_
          (intro K hK; go_simp; refine hK _ ?_; clear hK K)
          refine q_row rfl 23 (.tmp 5) rfl w.heap.size rfl 23 ((cells8 b).toArray) (0, 0) _ (fun w' hw' => hRw.out w' hw'.below) Tryd.underlying23 rfl Fb.out.size ?_
          (intro K hK; go_simp; refine hK _ ?_; clear hK K)
          refine q_move rfl (.tmp 2) rfl ?_
          (intro K hK; go_simp; refine hK _ ?_; clear hK K)
          refine q_fn (v := .agg (cells8 x).toArray) (args := #[.int .i64 s, .agg (cells8 b).toArray, .slice A n c]) rfl _ _ rfl rfl Tryd.func51 (by kernel_rfl) (by kernel_rfl) (fun w' hw' => (hCa.out w' (hb0.out.trans (hw'.below.mono hb0.out.size))).mono (fun e w'' ⟨he, hb⟩ => ⟨he, hw'.next hb⟩)) ?_
          (intro K hK; go_simp; refine hK _ ?_; clear hK K)
          refine q_move rfl (.tmp 0) rfl ?_
          (intro K hK; go_simp; refine hK _ ?_; clear hK K)
          refine q_row rfl 23 (.tmp 5) rfl w.heap.size rfl 23 ((cells8 b).toArray) (0, 0) _ (fun w' hw' => hRw.out w' hw'.below) Tryd.underlying23 rfl Fb.out.size ?_
          (intro K hK; go_simp; refine hK _ ?_; clear hK K)
          refine q_move rfl (.tmp 3) rfl ?_
          (intro K hK; go_simp; refine hK _ ?_; clear hK K)
          refine q_fn (v := .agg (cells8 y).toArray) (args := #[.int .i64 s, .agg (cells8 b).toArray, .slice B m d]) rfl _ _ rfl rfl Tryd.func51 (by kernel_rfl) (by kernel_rfl) (fun w' hw' => (hCb.out w' (hb0.out.trans (hw'.below.mono hb0.out.size))).mono (fun e w'' ⟨he, hb⟩ => ⟨he, hw'.next hb⟩)) ?_
          (intro K hK; go_simp; refine hK _ ?_; clear hK K)
          refine q_val (v := .bool true) rfl (fun w' hw' => run_cmp rfl rfl rfl qDH (hE.out w')) ?_
          (intro K hK; go_simp; refine hK _ ?_; clear hK K)
          refine q_val (v := .bool true) rfl (fun w' hw' => by go_simp) ?_
          (intro K hK; go_simp; refine hK _ ?_; clear hK K)
          refine q_val (v := .bool true) rfl (fun w' hw' => by go_simp) ?_
          (intro K hK; go_simp; refine hK _ ?_; clear hK K)
          refine q_nil ?_
          intro w7 hw7
          have h7 : Hid (Below w3.heap.size w3 w7) := hw7.below
          go_wp2_with fail
          go_meet
          case rel => exact ⟨rfl, h7.out⟩
  case rest =>
    obtain ⟨rfl, hbe⟩ := hcut
    obtain ⟨we, rfl⟩ : ∃ we, we = wc := ⟨_, rfl⟩
    clear hSa hCa hCb hE hwant q0
    have hbwe : Hid (Below w.heap.size w we) := hb0.out.trans (hbe.out.mono hb0.out.size)
    go_wp2_with ((with_reducible change wpList _ _ _ ({ dst := some 40, op := _, type := _, pos := _, after := _, guard := _ } :: _) _ _); refine wpList_load_row (o := ⟨some 40, _, _, _, _, _⟩) rfl 23 (.tmp 5) rfl (w.heap.size) rfl 23 ((cells8 b).toArray) (0, 0) _ (hRw.out we hbe.out) Tryd.underlying23 rfl Fb.out.size ?_)
    refine (hTX.out we hbwe.out).mono ?_
    rintro e' w5 ⟨hk5, xa, xb, ok, rfl, hXR⟩
    have h5 : Hid (Below w3.heap.size w3 w5) := hbe.out.trans (hk5.mono hbe.out.size)
    have hFE : Hid (FitE #[xa, xb]) := XR.fit hXR
    replace hXR := Lib.hid hXR
    clear hk5 hTX hbwe hbe
    go_wp2_with ((with_reducible change wpList _ _ _ ({ dst := none, op := Op.store 82 (.tmp 10) _, type := _, pos := _, after := _, guard := _ } :: _) _ _); refine wpList_store_whole (o := ⟨none, _, _, _, _, _⟩) rfl 82 (.tmp 10) (.tmp 44) rfl (w5.heap.size) (#[xa, xb]) rfl rfl 82 (#[Value.slice none 0 0, Value.slice none 0 0]) (Blk.new w5 _ _) hFE.out.size hFE.out.zero hFE.out.one ?_; intro w6 hM kk; have k56 : Below w5.heap.size w5 w6 := kept_fresh kk; have h6 : Hid (Below w3.heap.size w3 w6) := h5.out.trans (k56.mono h5.out.size); replace hXR := Lib.hid (hXR.out.below k56); replace hM := Lib.hid hM; clear kk k56 h5)
    have hbwd : Hid (Below w.heap.size w w6) := hb0.out.trans (h6.out.mono hb0.out.size)
    have s0 : Hid (Below w6.heap.size w6 w6.drew) := (Below.refl _ _).drew
    refine held_start (fun w' => Below w6.heap.size w6 w') 15 rfl (by kernel_rfl) ?_
    refine held_take (i := 0) (v := .int .i64 s) rfl (by kernel_rfl) (by kernel_rfl) (by kernel_rfl) (fun _ _ _ h => h) s0.out (by rfl) (fun w' hw' => run_mv (.tmp 0) rfl w') ?_
    (intro K hK; go_simp; refine hK _ ?_; clear hK K)
    refine held_take (i := 1) (v := .agg (#[xa, xb])) rfl (by kernel_rfl) (by kernel_rfl) (by kernel_rfl) (fun _ _ _ h => h) s0.out (by rfl) (fun w' hw' => exec_row 82 (.tmp 10) rfl (w5.heap.size) rfl 82 (#[xa, xb]) (0, 0) _ ((show Blk w' w5.heap.size 82 #[xa, xb] from (hw'.block _ hM.out.lt).trans hM.out)) Tryd.underlying82 rfl sizeE2) ?_
    (intro K hK; go_simp; refine hK _ ?_; clear hK K)
    refine held_take (i := 2) (v := .bool ok) rfl (by kernel_rfl) (by kernel_rfl) (by kernel_rfl) (fun _ _ _ h => h) s0.out (by rfl) (fun w' hw' => run_mv (.tmp 11) rfl w') ?_
    (intro K hK; go_simp; refine hK _ ?_; clear hK K)
    refine held_take (i := 3) (v := .bool want) rfl (by kernel_rfl) (by kernel_rfl) (by kernel_rfl) (fun _ _ _ h => h) s0.out (by rfl) (fun w' hw' => run_mv (.tmp 9) rfl w') ?_
    (intro K hK; go_simp; refine hK _ ?_; clear hK K)
    refine held_take (i := 4) (v := .int .i64 s) rfl (by kernel_rfl) (by kernel_rfl) (by kernel_rfl) (fun _ _ _ h => h) s0.out (by rfl) (fun w' hw' => run_mv (.tmp 0) rfl w') ?_
    (intro K hK; go_simp; refine hK _ ?_; clear hK K)
    refine held_take (i := 5) (v := .agg ((cells8 b).toArray)) rfl (by kernel_rfl) (by kernel_rfl) (by kernel_rfl) (fun _ _ _ h => h) s0.out (by rfl) (fun w' hw' => exec_row 23 (.tmp 5) rfl (w.heap.size) rfl 23 ((cells8 b).toArray) (0, 0) _ (hRw.out w' (h6.out.trans (hw'.mono h6.out.size))) Tryd.underlying23 rfl Fb.out.size) ?_
    (intro K hK; go_simp; refine hK _ ?_; clear hK K)
    refine held_take (i := 6) (v := .slice A n c) rfl (by kernel_rfl) (by kernel_rfl) (by kernel_rfl) (fun _ _ _ h => h) s0.out (by rfl) (fun w' hw' => run_mv (.tmp 2) rfl w') ?_
    (intro K hK; go_simp; refine hK _ ?_; clear hK K)
    refine held_take (i := 8) (v := .int .i64 s) rfl (by kernel_rfl) (by kernel_rfl) (by kernel_rfl) (fun _ _ _ h => h) s0.out (by rfl) (fun w' hw' => run_mv (.tmp 0) rfl w') ?_
    (intro K hK; go_simp; refine hK _ ?_; clear hK K)
    refine held_take (i := 9) (v := .agg ((cells8 b).toArray)) rfl (by kernel_rfl) (by kernel_rfl) (by kernel_rfl) (fun _ _ _ h => h) s0.out (by rfl) (fun w' hw' => exec_row 23 (.tmp 5) rfl (w.heap.size) rfl 23 ((cells8 b).toArray) (0, 0) _ (hRw.out w' (h6.out.trans (hw'.mono h6.out.size))) Tryd.underlying23 rfl Fb.out.size) ?_
    (intro K hK; go_simp; refine hK _ ?_; clear hK K)
    refine held_take (i := 10) (v := .slice B m d) rfl (by kernel_rfl) (by kernel_rfl) (by kernel_rfl) (fun _ _ _ h => h) s0.out (by rfl) (fun w' hw' => run_mv (.tmp 3) rfl w') ?_
    (intro K hK; go_simp; refine hK _ ?_; clear hK K)
    refine held_only (i := 7) rfl (by kernel_rfl) (by rfl) (fun K hK => ?_)
    refine wp_fn (R := fun v w'' => ∃ xs, w''.ownsRow w6.heap.size 27 1 v k1 xs ∧ Ty w'' xs T1 ∧ Below (w6.drew).heap.size (w6.drew) w'' ∧ (k1 = 0 → v = .slice none 0 0)) (args := #[.int .i64 s, .agg (cells8 b).toArray, .slice A n c]) _ _ rfl rfl Tryd.func53 (by kernel_rfl) (by kernel_rfl) ((hLa.out _ (hbwd.out.trans (s0.out.mono hbwd.out.size))).mono fun e w'' ⟨v, xs, he, ho, hty, hb, hz⟩ => ⟨_, he, xs, own_down ho s0.out.size, hty, hb, hz⟩) ?_
    rintro vF w8 ⟨xsF, hoF, tyF, kk1, hzzk1⟩
    have h8 : Hid (Below w6.heap.size w6 w8) := s0.out.trans (kk1.mono s0.out.size)
    replace hoF := Lib.hid hoF
    replace tyF := Lib.hid tyF
    replace hzzk1 := Lib.hid hzzk1
    clear kk1
    go_simp
    refine hK _ _ h8.out ?_
    clear hK K
    refine held_only (i := 11) rfl (by kernel_rfl) (by rfl) (fun K hK => ?_)
    refine wp_fn (R := fun v w'' => ∃ xs, w''.ownsRow w6.heap.size 27 1 v k2 xs ∧ Ty w'' xs T2 ∧ Below (w8).heap.size (w8) w'' ∧ (k2 = 0 → v = .slice none 0 0)) (args := #[.int .i64 s, .agg (cells8 b).toArray, .slice B m d]) _ _ rfl rfl Tryd.func53 (by kernel_rfl) (by kernel_rfl) ((hLb.out _ (hbwd.out.trans (h8.out.mono hbwd.out.size))).mono fun e w'' ⟨v, xs, he, ho, hty, hb, hz⟩ => ⟨_, he, xs, own_down ho h8.out.size, hty, hb, hz⟩) ?_
    rintro vS w9 ⟨xsS, hoS, tyS, kk1, hzzk2⟩
    have h9 : Hid (Below w6.heap.size w6 w9) := h8.out.trans (kk1.mono h8.out.size)
    replace hoF := Lib.hid (Own.own_below hoF.out kk1)
    replace tyF := Lib.hid (tyF.out.below kk1)
    replace hoS := Lib.hid hoS
    replace tyS := Lib.hid tyS
    clear kk1 hzzk2
    go_simp
    refine hK _ _ h9.out ?_
    clear hK K
    obtain ⟨A1', c1', e1', -, -, hnil1', -, hA1'⟩ := Append.Own.reads hoF.out
    obtain ⟨A2', c2', e2', -, -, hnil2', hr2', -⟩ := Append.Own.reads hoS.out
    subst e1' e2'
    have hone := Lib.hid (Ty.one hoS.out tyS.out hk2h.out)
    have hmx : Hid (k1 + k2 ≤ maxLen) := by have := hk1s.out; have := hk2s.out; show _ ≤ _; unfold maxLen; omega
    have hmb : Hid ((k1 + k2) * 24 ≤ 140737488355328) := by have := hk1s.out; have := hk2s.out; show _ ≤ _; omega
    have hz1 := hzzk1
    refine held_only (i := 12) rfl (by kernel_rfl) (by rfl) (fun K hK => ?_)
    refine Append.wp_append_src _ (.tmp 53) (.tmp 57) 24 rfl w6.heap.size 27 i0 (.slice none 0 0) 1 24 Tryd.underlying24 ii iz0 iz1 iz2 rfl (by decide) (.slice A1' k1 c1') k1 xsF rfl hoF.out A2' k2 c2' xsS rfl hr2' hnil2' hone.out hmx.out hmb.out h9.out.size (fun v10 w10 hGr => ?_)
    obtain ⟨t12, o12, -⟩ := ty_cat2 hk1h.out hoF.out tyF.out tyS.out hz1.out hGr
    have h10 : Hid (Below w6.heap.size w6 w10) := hGr.below h9.out h9.out.size (fun k hk => own_base hoF.out k hk)
    have hkG : Kept (fun k => some k = Value.ownBlock (.slice A1' k1 c1')) w9 w10 := (Kept.refl _ w9).grown hGr.grow (fun k e => .inl e.symm)
    have ho1l := hoF.out
    rw [← hk1h.out] at ho1l
    have hXR7 : Hid (XR w10 s want (T1 ++ T2) xa xb ok) := (hXR.out.below h9.out).keep hkG (fun g hg => by
      rcases Nat.eq_zero_or_pos T1.length with h0 | h0
      · have h1 := hz1.out (by rw [← hk1h.out]; exact h0)
        rw [h1] at hg; cases hg
      · exact own_frontY ho1l tyF.out h0 g (by rw [hk1h.out]; exact hg))
    have hlen3 : (T1 ++ T2).length = k1 + k2 := by rw [List.length_append, hk1h.out, hk2h.out]
    rw [← hlen3] at o12
    obtain ⟨A8, c8, e8, -, -, hp8⟩ := Ty.pieces o12 t12
    subst e8
    rw [hlen3]
    replace hp8 := Lib.hid hp8
    clear t12 o12 hkG ho1l hlen3
    go_simp
    refine hK _ _ h10.out ?_
    clear hK K
    refine held_only (i := 13) rfl (by kernel_rfl) (by rfl) (fun K hK => ?_)
    refine wp_fn (R := fun v w'' => v = .bool true ∧ Below w6.heap.size w6 w'') (args := #[.int .i64 s, .agg #[xa, xb], .bool ok, .bool want, .slice A8 (k1 + k2) c8]) _ _ rfl rfl Tryd.func43 (by kernel_rfl) (by kernel_rfl) ((hTo.out w10 want A8 c8 xa xb ok hp8.out hXR7.out).mono fun e w'' ⟨he, hb⟩ => ⟨_, he, rfl, h10.out.trans (hb.mono h10.out.size)⟩) ?_
    rintro qq w13 ⟨rfl, h13⟩
    replace h13 := Lib.hid h13
    go_simp
    refine hK _ _ h13.out ?_
    clear hK K
    refine held_take (i := 14) (v := .bool true) rfl (by kernel_rfl) (by kernel_rfl) (by kernel_rfl) (fun _ _ _ h => h) h13.out (by rfl) (fun w' hw' => by first | go_simp | rfl) ?_
    (intro K hK; go_simp; refine hK _ ?_; clear hK K)
    refine held_end (by kernel_rfl) ?_
    have hfin : Hid (Below w.heap.size w w13) := hbwd.out.trans (h13.out.mono hbwd.out.size)
    go_wp2_with fail
    go_ret
    exact ⟨rfl, hfin.out⟩
end Go.Proofs.YtmdkfhfkdcbpgaaDoorR.AuditTwoHistories
