/-
  Texts of the claim, put into one file: Law17c, ProofIndexeds.
-/
import Derived.Test.YtmdkfhfkdcbpgaaZ15
import Derived.Test.YtmdkfhfkdcbpgaaZ20
import Derived.Test.YtmdkfhfkdcbpgaaZ23
import Derived.Test.YtmdkfhfkdcbpgaaZ25

namespace Go.Proofs.Ytmdkfhfkdcbpgaa.Law17c
open Go Go.RowKit Go.Proofs.Ytmdkfhfkdcbpgaa Go.Proofs.Ytmdkfhfkdcbpgaa.Mem Go.Proofs.Ytmdkfhfkdcbpgaa.Sha Go.Proofs.Ytmdkfhfkdcbpgaa.Bytes Go.Proofs.Ytmdkfhfkdcbpgaa.TreeMem Go.Proofs.Ytmdkfhfkdcbpgaa.TreeRoot Go.Proofs.Ytmdkfhfkdcbpgaa.Held Go.Proofs.Ytmdkfhfkdcbpgaa.Guard Go.Proofs.Ytmdkfhfkdcbpgaa.Ref17 Go.Proofs.Ytmdkfhfkdcbpgaa.Book8 Go.Proofs.Ytmdkfhfkdcbpgaa.Law17a Go.Proofs.Ytmdkfhfkdcbpgaa.StructEq Go.Proofs.Ytmdkfhfkdcbpgaa.ProofIdx3 Go.Proofs.Ytmdkfhfkdcbpgaa.IdxAny Go.Proofs.Ytmdkfhfkdcbpgaa.SameIdx Go.Proofs.Ytmdkfhfkdcbpgaa.IdxDec Go.Proofs.Ytmdkfhfkdcbpgaa.DecIdx Go.Proofs.Ytmdkfhfkdcbpgaa.DecIdx2 Go.Proofs.Ytmdkfhfkdcbpgaa.ReadIdx

theorem _root_.Go.Proofs.Ytmdkfhfkdcbpgaa.Mem.Blk.onw {w w' : World} {g : Nat} {t : TypeId} {cs : Array Value} (h : Blk w g t cs) (hb : Below w.heap.size w w') : Blk w' g t cs := (hb.block g h.lt).trans h
set_option maxRecDepth 100000 in
set_option maxHeartbeats 1000000 in
theorem readsIdx_any (q : Text) (k : Nat) (hk : q.length = k) (hk47 : k < 140737488355328) (A : Option Addr) (c : Nat) (hkc : k ≤ c) (w : World) (hr : Reads w 1 A k (cells8 q)) (hnil : A = none → k = 0 ∧ c = 0) :
    Calls Try.prog 12 #[.slice A k c] w fun e w' => e = .returned (.bool true) ∧ Below w.heap.size w w' := by
  have hRo := Lib.hid (roomy8_any q k hk hk47 165 165 rfl A c w hr)
  have hDe := Lib.hid (fun g w' (h : Reads w' 1 (some ⟨g, 0, none⟩) k (cells8 q)) => decodeIndexed_any q k hk (some ⟨g, 0, none⟩) (k + 80) w' h (fun e => by cases e))
  have hRe := Lib.hid (fun w' (h : Below w.heap.size w w') => readIndexed_any q k hk A c hkc w' (hr.below h) hnil)
  have hIn := Lib.hid (fun g w' (h : RoomB w' g q 165) (hb : Below w.heap.size w w') => intact8_any q k hk hk47 165 165 rfl g A c w' h (hr.below hb))
  have hGr : Hid (∀ g w', RoomB w' g q 165 → Reads w' 1 (some ⟨g, 0, none⟩) k (cells8 q)) := fun g w' h => by have := h.reads; rwa [hk] at this
  obtain ⟨⟨s, f, cnt, ch, d, l, err⟩, hX⟩ : ∃ X, ixAns q = X := ⟨_, rfl⟩
  have hlen := ixAns_len q
  rw [hX] at hlen
  obtain ⟨hch, hd⟩ : ch.length = 32 ∧ d.length = 32 := hlen
  have hD2 : Hid (∀ g w', Reads w' 1 (some ⟨g, 0, none⟩) k (cells8 q) → Calls Try.prog 35 #[.slice (some ⟨g, 0, none⟩) k (k + 80)] w' fun e w'' => ∃ A1 c1, e = .returned (.tuple #[.agg (idxCells s f (entC cnt ch) d A1 l.length c1).toArray, .int .i64 err]) ∧ RdD w'' A1 l.length l ∧ l.length ≤ 256 ∧ Below w'.heap.size w' w'') := fun g w' h => by
    have := hDe.out g w' h
    rw [hX] at this
    refine this.mono ?_
    rintro e w'' ⟨A1, n1, c1, rfl, hl, -, -, h40, hb⟩
    obtain rfl := hl.1
    exact ⟨A1, c1, rfl, hl, h40, hb⟩
  have hR2 : Hid (∀ w', Below w.heap.size w w' → Calls Try.prog 36 #[.slice A k c] w' fun e w'' => ∃ A1 c1, e = .returned (.tuple #[.agg (idxCells s f (entC cnt ch) d A1 l.length c1).toArray, .int .i64 err]) ∧ RdD w'' A1 l.length l ∧ Below w'.heap.size w' w'') := fun w' h => by
    have := hRe.out w' h
    rw [hX] at this
    refine this.mono ?_
    rintro e w'' ⟨A1, n1, c1, rfl, hl, -, -, h40, hb⟩
    obtain rfl := hl.1
    exact ⟨A1, c1, rfl, hl, hb⟩
  have X : ∀ g w', (Instr.sliceAt 29 (.slice (some ⟨g, 0, none⟩) (k + 80) (k + 80)) none (some (.int .i64 (k : Int))) none).run Try.prog w' = .ok (.slice (some ⟨g, 0, none⟩) k (k + 80)) w' := fun g => run_headOf (m := k) Try.underlying29 (fun _ => rfl) (by omega) _ rfl
  replace X := Lib.hid X
  have e1 : (err == err) = true := beq_self_eq_true _
  replace hch := Lib.hid hch
  replace hd := Lib.hid hd
  clear hX hDe hRe hk hk47 hkc hr hnil
  go_enter Try.func12, Try.ntmps12
  go_wp2_with fail
  refine hRo.out.mono ?_
  rintro e w1 ⟨g, rfl, -, hG, hb⟩
  replace hG := Lib.hid hG
  replace hb := Lib.hid hb
  have Xg := X.out g
  clear hRo X
  go_wp2_with fail
  refine (hD2.out g w1 (hGr.out g w1 hG.out)).mono ?_
  rintro e w2 ⟨A1, c1, rfl, hl1, h40, hk1⟩
  replace hb := Lib.hid (hb.out.trans (hk1.mono hb.out.size))
  replace hG : Hid (RoomB w2 g q 165) := hG.out.below hk1 (Tab.lt hG.out)
  replace hl1 := Lib.hid hl1
  have hl47 : Hid (l.length < 140737488355328) := by show _ < _; omega
  clear hk1 h40 hD2
  go_wp2_with ((with_reducible change wpList _ _ _ ({ dst := none, op := Op.store 28 (.tmp 4) _, type := _, pos := _, after := _, guard := _ } :: _) _ _); refine wpList_store_whole (o := ⟨none, _, _, _, _, _⟩) rfl 28 (.tmp 4) (.tmp 16) rfl (w2.heap.size) ((idxCells s f (entC cnt ch) d A1 l.length c1).toArray) rfl rfl 28 (zI) (Blk.new w2 _ _) (size_idx hch.out hd.out) (eq_idx hch.out hd.out) one_idx ?_; intro w3 hB4 hkx; have hk1 := kept_fresh hkx; replace hb := Lib.hid (hb.out.trans (hk1.mono hb.out.size)); replace hG : Hid (RoomB w3 g q 165) := hG.out.below hk1 (Tab.lt hG.out); replace hl1 := Lib.hid (hl1.out.below hk1); replace hB4 := Lib.hid hB4; clear hk1 hkx; generalize w2.heap.size = g4 at *)
  refine (hR2.out w3 hb.out).mono ?_
  rintro e w4 ⟨A2, c2, rfl, hl2, hk1⟩
  replace hb := Lib.hid (hb.out.trans (hk1.mono hb.out.size))
  replace hG : Hid (RoomB w4 g q 165) := hG.out.below hk1 (Tab.lt hG.out)
  replace hl1 := Lib.hid (hl1.out.below hk1)
  replace hB4 := Lib.hid (Blk.onw hB4.out hk1)
  replace hl2 := Lib.hid hl2
  clear hk1 hR2
  go_wp2_with (first
    | ((with_reducible change wpList _ _ _ ({ dst := none, op := Op.store 28 (.tmp 6) _, type := _, pos := _, after := _, guard := _ } :: _) _ _); refine wpList_store_whole (o := ⟨none, _, _, _, _, _⟩) rfl 28 (.tmp 6) (.tmp 21) rfl (w4.heap.size) ((idxCells s f (entC cnt ch) d A2 l.length c2).toArray) rfl rfl 28 (zI) (Blk.new w4 _ _) (size_idx hch.out hd.out) (eq_idx hch.out hd.out) one_idx ?_; intro w5 hB6 hkx; have hk1 := kept_fresh hkx; replace hb := Lib.hid (hb.out.trans (hk1.mono hb.out.size)); replace hG : Hid (RoomB w5 g q 165) := hG.out.below hk1 (Tab.lt hG.out); replace hl1 := Lib.hid (hl1.out.below hk1); replace hl2 := Lib.hid (hl2.out.below hk1); replace hB4 := Lib.hid (Blk.onw hB4.out hk1); replace hB6 := Lib.hid hB6; clear hk1 hkx; generalize w4.heap.size = g6 at *)
    | ((with_reducible change wpList _ _ _ ({ dst := some 27, op := _, type := _, pos := _, after := _, guard := _ } :: _) _ _); refine wpList_load_rowG (o := ⟨some 27, _, _, _, _, _⟩) rfl 28 (.tmp 4) rfl (g4) rfl 28 ((idxCells s f (entC cnt ch) d A1 l.length c1).toArray) (0, 0) _ hB4.out Try.underlying28 rfl (size_idx hch.out hd.out) ?_)
    | ((with_reducible change wpList _ _ _ ({ dst := some 28, op := _, type := _, pos := _, after := _, guard := _ } :: _) _ _); refine wpList_load_rowG (o := ⟨some 28, _, _, _, _, _⟩) rfl 28 (.tmp 6) rfl (g6) rfl 28 ((idxCells s f (entC cnt ch) d A2 l.length c2).toArray) (0, 0) _ hB6.out Try.underlying28 rfl (size_idx hch.out hd.out) ?_))
  refine (sameIdx_yes s f cnt ch hch.out d hd.out l l.length hl47.out A1 A2 c1 c2 w5 hl1.out hl2.out).mono ?_
  rintro e w6 ⟨rfl, hk1⟩
  replace hb := Lib.hid (hb.out.trans (hk1.mono hb.out.size))
  replace hG : Hid (RoomB w6 g q 165) := hG.out.below hk1 (Tab.lt hG.out)
  clear hk1
  go_wp2_with fail
  refine (hIn.out g w6 hG.out hb.out).mono ?_
  rintro e w7 ⟨rfl, m, rfl⟩
  go_wp2_with fail
  go_ret
  exact ⟨rfl, below_drawn hb.out m⟩
end Go.Proofs.Ytmdkfhfkdcbpgaa.Law17c

namespace Go.Proofs.Ytmdkfhfkdcbpgaa.ProofIndexeds
open Go Go.RowKit Go.Proofs.Ytmdkfhfkdcbpgaa Go.Proofs.Ytmdkfhfkdcbpgaa.Mem Go.Proofs.Ytmdkfhfkdcbpgaa.Sha Go.Proofs.Ytmdkfhfkdcbpgaa.Bytes Go.Proofs.Ytmdkfhfkdcbpgaa.QuietTail Go.Proofs.Ytmdkfhfkdcbpgaa.Grown Go.Proofs.Ytmdkfhfkdcbpgaa.TreeMem Go.Proofs.Ytmdkfhfkdcbpgaa.TreeRoot Go.Proofs.Ytmdkfhfkdcbpgaa.Held Go.Proofs.Ytmdkfhfkdcbpgaa.Guard Go.Proofs.Ytmdkfhfkdcbpgaa.Ref17 Go.Proofs.Ytmdkfhfkdcbpgaa.Book Go.Proofs.Ytmdkfhfkdcbpgaa.Book2 Go.Proofs.Ytmdkfhfkdcbpgaa.Book8 Go.Proofs.Ytmdkfhfkdcbpgaa.Law17a Go.Proofs.Ytmdkfhfkdcbpgaa.StructEq Go.Proofs.Ytmdkfhfkdcbpgaa.ProofIdx3 Go.Proofs.Ytmdkfhfkdcbpgaa.IdxAny Go.Proofs.Ytmdkfhfkdcbpgaa.IdxEnc Go.Proofs.Ytmdkfhfkdcbpgaa.IdxMem Go.Proofs.Ytmdkfhfkdcbpgaa.IdxDec Go.Proofs.Ytmdkfhfkdcbpgaa.DecIdx Go.Proofs.Ytmdkfhfkdcbpgaa.DecIdx2 Go.Proofs.Ytmdkfhfkdcbpgaa.ReadIdx Go.Proofs.Ytmdkfhfkdcbpgaa.Law17c

theorem want_pos {s : ByteArray} {f : Bool} {cnt : Int} {ch d : Text} {l : List Text} {b : Text} (h : idxWant s f cnt ch d l = some b) : 0 < b.length := by
  unfold idxWant at h
  split at h
  · rw [← Option.some.inj h]; simp [idxB]
  · cases h
theorem want_small {s : ByteArray} {f : Bool} {cnt : Int} {ch d : Text} {l : List Text} {b : Text} (_ : True) (hch : ch.length = 32) (hd : d.length = 32) (hl : Digs l) (hn : l.length ≤ 300) (h : idxWant s f cnt ch d l = some b) : b.length < 140737488355328 := by
  unfold idxWant at h
  split at h
  · rename_i hok
    have h64 := okIx_64 hok
    rw [← Option.some.inj h, idxB_len hch hd hl]
    split <;> omega
  · cases h
set_option maxRecDepth 100000 in
set_option maxHeartbeats 2000000 in
theorem proofIndexeds_any (s : ByteArray) (hs : s.size ≤ 140737488355328) (f : Bool) (cnt : Int) (ch : Text) (hch : ch.length = 32) (d : Text) (hd : d.length = 32) (es : List Text) (m : Nat) (A : Option Addr) (c : Nat) (hmc : m ≤ c) (q : Text) (k : Nat) (hk : q.length = k) (hk47 : k < 140737488355328) (A2 : Option Addr) (c2 : Nat) (hkc : k ≤ c2) (w : World) (hr0 : RdD w A m es) (hrq : Reads w 1 A2 k (cells8 q)) (hnil : A2 = none → k = 0 ∧ c2 = 0) :
    Calls Try.prog 3 #[.agg (idxCells s f (entC cnt ch) d A m c).toArray, .slice A2 k c2] w fun e w' => e = .returned (.bool true) ∧ Below w.heap.size w w' := by
  obtain ⟨n, hn⟩ : ∃ n, min m 300 = n := ⟨_, rfl⟩
  obtain ⟨ds, hds⟩ : ∃ ds, es.take n = ds := ⟨_, rfl⟩
  have hr : RdD w A n ds := by rw [← hds]; exact hr0.take_ n (by omega)
  have hn300 : n ≤ 300 := by omega
  have hF : Hid (∀ w', Calls Try.prog 5 #[.slice A m c, .int .i64 300] w' fun e w'' => e = .returned (.slice A n c) ∧ w' = w'') := fun w' => by
    have := few17_any A m c hmc w'
    rwa [hn] at this
  have hRo := Lib.hid (fun w' (hb : Below w.heap.size w w') => roomyD_any ds n (by omega) A c mk0 mk0_len w' (hr.below hb))
  have hIt := Lib.hid (fun w' g (hg : RowD w' g (ds ++ List.replicate 80 mk0)) (hb : Below w.heap.size w w') => intactD_any ds n (by omega) g A c mk0 mk0_len w' (hr.below hb) hg)
  have hG0 := Lib.hid (fun w' g (hg : RowD w' g (ds ++ List.replicate 80 mk0)) => (by
    have := (hg.rd (hr.2.1.append_ (Digs.rep 80 mk0_len))).take_ n (by simp [hr.1])
    rwa [List.take_append_of_le_length (by rw [hr.1]; exact Nat.le_refl _), List.take_of_length_le (by rw [hr.1]; exact Nat.le_refl _)] at this : RdD w' (some ⟨g, 0, none⟩) n ds))
  have hS := Lib.hid (fun (g : Nat) => run_headD (A := some ⟨g, 0, none⟩) (n := n + 80) (c := n + 80) (k := n) (by omega) (n : Int) rfl)
  have hEn : Hid (∀ w' g, RowD w' g (ds ++ List.replicate 80 mk0) → Calls Try.prog 8 #[.agg (idxCells s f (entC cnt ch) d (some ⟨g, 0, none⟩) n (n + 80)).toArray] w' fun e w'' => ∃ A4 c4 b err, e = .returned (.tuple #[.slice A4 b.length c4, .int .i64 err]) ∧ Reads w'' 1 A4 b.length (cells8 b) ∧ ((idxWant s f cnt ch d ds = some b ∧ err = 0) ∨ (idxWant s f cnt ch d ds = none ∧ b = [] ∧ err = 170)) ∧ Below w'.heap.size w' w'') := fun w' g hg => encIdx_any s hs f cnt ch hch d hd ds (some ⟨g, 0, none⟩) n (n + 80) w' (hG0.out w' g hg)
  have hWa : Hid (∀ w', Below w.heap.size w w' → Calls Try.prog 9 #[.agg (idxCells s f (entC cnt ch) d A n c).toArray] w' fun e w'' => ∃ A4 c4 b, e = .returned (.slice A4 b.length c4) ∧ Reads w'' 1 A4 b.length (cells8 b) ∧ (A4 = none → b.length = 0 ∧ c4 = 0) ∧ b.length ≤ c4 ∧ (idxWant s f cnt ch d ds = some b ∨ (idxWant s f cnt ch d ds = none ∧ A4 = none ∧ b = [])) ∧ Below w'.heap.size w' w'') := fun w' hb => refidx17_any s f cnt ch hch d hd ds A n c w' (hr.below hb)
  have hRq := Lib.hid (fun w' (hb : Below w.heap.size w w') => readsIdx_any q k hk hk47 A2 c2 hkc w' (hrq.below hb) hnil)
  have hMK : Hid (∀ w', Calls Try.prog 7 #[] w' fun e w'' => e = .returned (.agg (cells8 mk0).toArray) ∧ Below w'.heap.size w' w'') := stranger17_any
  have hlen : Hid (∀ b, idxWant s f cnt ch d ds = some b → b.length < 140737488355328) := fun b h => want_small trivial hch hd hr.2.1 (by rw [hr.1]; omega) h
  have hb0 : Hid (Below w.heap.size w (w.alloc (.cells (idxCells s f (entC cnt ch) d A m c).toArray 28))) := Below.heap_below w _
  have hP0 : Hid (Blk (w.alloc (.cells (idxCells s f (entC cnt ch) d A m c).toArray 28)) w.heap.size 28 (idxCells s f (entC cnt ch) d A m c).toArray) := Blk.new w _ _
  have c0 : (w.alloc (.cells (idxCells s f (entC cnt ch) d A m c).toArray 28)).cell? ⟨w.heap.size, 67, none⟩ = some (.slice A m c) := by rw [hP0.out.cell 67, List.getElem?_toArray]; exact idx_way (entC_len hch) hd
  have f0 := hP0.out.frozen 67
  replace hch := Lib.hid hch
  replace hd := Lib.hid hd
  replace hs := Lib.hid hs
  clear hr0 hr hds hn300 hn hmc hk hk47 hkc hrq hnil hG0
  go_enter Try.func3, Try.ntmps3
  go_wp2_with fail
  refine (hF.out _).mono ?_
  rintro e w0 ⟨rfl, rfl⟩
  generalize w.alloc (.cells (idxCells s f (entC cnt ch) d A m c).toArray 28) = w0 at *
  have hb : Hid (Below w.heap.size w (w0.setCell ⟨w.heap.size, 67, none⟩ (.slice A n c))) := hb0.out.setCell (Nat.le_refl _) _
  have hP : Hid (Blk (w0.setCell ⟨w.heap.size, 67, none⟩ (.slice A n c)) w.heap.size 28 (idxCells s f (entC cnt ch) d A n c).toArray) := by
    have := hP0.out.set_ 67 (.slice A n c)
    rw [set_way (entC_len hch.out) hd.out] at this
    exact this
  clear hb0 hP0
  go_wp2_with fail
  clear c0 f0
  generalize w0.setCell ⟨w.heap.size, 67, none⟩ (.slice A n c) = w1 at *
  have hc2 : Hid (∀ w', Below w1.heap.size w1 w' → w'.cell? ⟨w.heap.size, 67, none⟩ = some (.slice A n c)) := fun w' h => by rw [(Blk.onw hP.out h).cell 67, List.getElem?_toArray]; exact idx_way (entC_len hch.out) hd.out
  clear hF
  have s0 : Hid (Below w1.heap.size w1 w1.drew) := (Below.refl _ _).drew
  refine held_start (fun w' => Below w1.heap.size w1 w') 5 rfl (by kernel_rfl) ?_
  refine held_take (i := 0) (v := .pointer (some ⟨w.heap.size, 67, none⟩)) rfl (by kernel_rfl) (by kernel_rfl) (by kernel_rfl) (fun _ _ _ h => h) s0.out (by rfl) (fun w' hw' => by go_simp) ?_
  (intro K hK; go_simp; refine hK _ ?_; clear hK K)
  refine held_take (i := 1) (v := .slice A n c) rfl (by kernel_rfl) (by kernel_rfl) (by kernel_rfl) (fun _ _ _ h => h) s0.out (by rfl) (fun w' hw' => by have h := hc2.out w' hw'; go_simp) ?_
  (intro K hK; go_simp; refine hK _ ?_; clear hK K)
  refine held_only (i := 2) rfl (by kernel_rfl) (by rfl) (fun K hK => ?_)
  refine wp_fn (R := fun v w'' => v = .agg (cells8 mk0).toArray ∧ Below w1.heap.size w1 w'') (args := #[]) _ _ rfl rfl Try.func7 (by kernel_rfl) (by kernel_rfl) ((hMK.out _).mono fun e w'' ⟨he, hb⟩ => ⟨_, he, rfl, s0.out.trans hb⟩) ?_
  rintro qq w2 ⟨rfl, h2⟩
  replace h2 := Lib.hid h2
  go_simp
  refine hK _ _ h2.out ?_
  clear hK K
  refine held_only (i := 3) rfl (by kernel_rfl) (by rfl) (fun K hK => ?_)
  refine wp_fn (R := fun v w'' => ∃ g, v = .slice (some ⟨g, 0, none⟩) (n + 80) (n + 80) ∧ RowD w'' g (ds ++ List.replicate 80 mk0) ∧ Below w1.heap.size w1 w'') (args := #[.slice A n c, .agg (cells8 mk0).toArray]) _ _ rfl rfl Try.func6 (by kernel_rfl) (by kernel_rfl) ((hRo.out w2 (hb.out.trans (h2.out.mono hb.out.size))).mono fun e w'' ⟨g, he, _, hg, hk⟩ => ⟨_, he, g, rfl, hg, h2.out.trans (hk.mono h2.out.size)⟩) ?_
  rintro qq w3 ⟨g, rfl, hG, h3⟩
  replace hb := Lib.hid (hb.out.trans (h3.mono hb.out.size))
  replace hP := Lib.hid (Blk.onw hP.out h3)
  replace hG := Lib.hid hG
  replace h3 := Lib.hid h3
  go_simp
  refine hK _ _ h3.out ?_
  clear hK K
  refine held_take (i := 4) (v := .slice (some ⟨g, 0, none⟩) (n + 80) (n + 80)) rfl (by kernel_rfl) (by kernel_rfl) (by kernel_rfl) (fun _ _ _ h => h) h3.out (by rfl) (fun w' hw' => by first | go_simp | rfl) ?_
  (intro K hK; go_simp; refine hK _ ?_; clear hK K)
  refine held_end (by kernel_rfl) ?_
  have hSg := hS.out g
  go_wp2_with (first
    | ((with_reducible change wpList _ _ _ ({ dst := some 18, op := _, type := _, pos := _, after := _, guard := _ } :: _) _ _); refine wpList_load_row (o := ⟨some 18, _, _, _, _, _⟩) rfl 28 (.tmp 2) rfl (w.heap.size) rfl 28 ((idxCells s f (entC cnt ch) d A n c).toArray) (0, 0) _ hP.out Try.underlying28 rfl (size_idx hch.out hd.out) ?_)
    | ((with_reducible change wpList _ _ _ ({ dst := none, op := Op.store 28 (.tmp 6) _, type := _, pos := _, after := _, guard := _ } :: _) _ _); refine wpList_store_whole (o := ⟨none, _, _, _, _, _⟩) rfl 28 (.tmp 6) (.tmp 18) rfl (w3.heap.size) ((idxCells s f (entC cnt ch) d A n c).toArray) rfl rfl 28 (zI) (Blk.new w3 _ _) (size_idx hch.out hd.out) (eq_idx hch.out hd.out) one_idx ?_; intro w4 hB6 hkx; have hk1 := kept_fresh hkx; have hglt : g < w3.heap.size := Blk.lt hG.out; replace hb := Lib.hid (hb.out.trans (hk1.mono hb.out.size)); replace hG := Lib.hid (hG.out.below hk1); have hPlt := hP.out.lt; replace hP := Lib.hid (Blk.onw hP.out hk1); generalize hg6 : w3.heap.size = g6 at *; have hg6w : Hid (w.heap.size < g6) := hPlt; have hgg : Hid (g ≠ g6) := (by show _ ≠ _; omega); have c5p : w4.cell? ⟨w.heap.size, 67, none⟩ = some (.slice A n c) := (by rw [hP.out.cell 67, List.getElem?_toArray]; exact idx_way (entC_len hch.out) hd.out); have c6 : w4.cell? ⟨g6, 67, none⟩ = some (.slice A n c) := (by rw [Blk.cell hB6 67, List.getElem?_toArray]; exact idx_way (entC_len hch.out) hd.out); have f6 := Blk.frozen hB6 67; have hkq : Kept (· = g6) w4 (w4.setCell ⟨g6, 67, none⟩ (.slice (some ⟨g, 0, none⟩) n (n + 80))) := (Kept.refl (· = g6) w4).setCell (.inl rfl) _; have hQ : Hid (Blk (w4.setCell ⟨g6, 67, none⟩ (.slice (some ⟨g, 0, none⟩) n (n + 80))) g6 28 (idxCells s f (entC cnt ch) d (some ⟨g, 0, none⟩) n (n + 80)).toArray) := (by have := Blk.set_ hB6 67 (.slice (some ⟨g, 0, none⟩) n (n + 80)); rw [set_way (entC_len hch.out) hd.out] at this; exact this); replace hP : Hid (Blk (w4.setCell ⟨g6, 67, none⟩ (.slice (some ⟨g, 0, none⟩) n (n + 80))) w.heap.size 28 (idxCells s f (entC cnt ch) d A n c).toArray) := hP.out.kept hkq (by have := hg6w.out; omega); replace hG : Hid (RowD (w4.setCell ⟨g6, 67, none⟩ (.slice (some ⟨g, 0, none⟩) n (n + 80))) g (ds ++ List.replicate 80 mk0)) := Blk.kept hG.out hkq hgg.out; replace hb : Hid (Below w.heap.size w (w4.setCell ⟨g6, 67, none⟩ (.slice (some ⟨g, 0, none⟩) n (n + 80)))) := hb.out.trans (Kept.below_of hkq (Nat.le_of_lt hg6w.out) hb.out.size); clear hk1 hkx hB6 hkq hPlt hg6 hgg hg6w hglt)
    | ((with_reducible change wpList _ _ _ ({ dst := some 26, op := _, type := _, pos := _, after := _, guard := _ } :: _) _ _); refine wpList_load_row (o := ⟨some 26, _, _, _, _, _⟩) rfl 28 (.tmp 6) rfl (g6) rfl 28 ((idxCells s f (entC cnt ch) d (some ⟨g, 0, none⟩) n (n + 80)).toArray) (0, 0) _ hQ.out Try.underlying28 rfl (size_idx hch.out hd.out) ?_))
  generalize w4.setCell ⟨g6, 67, none⟩ (.slice (some ⟨g, 0, none⟩) n (n + 80)) = w5 at *
  clear c6 f6 c5p hSg hS
  refine (hEn.out w5 g hG.out).mono ?_
  rintro e w6 ⟨A4, c4, b, err, rfl, hrb, hbe, hk1⟩
  replace hb := Lib.hid (hb.out.trans (hk1.mono hb.out.size))
  replace hP := Lib.hid (Blk.onw hP.out hk1)
  replace hG := Lib.hid (hG.out.below hk1)
  replace hrb := Lib.hid hrb
  replace hbe := Lib.hid hbe
  clear hk1 hEn hQ
  go_wp2_with ((with_reducible change wpList _ _ _ ({ dst := some 30, op := _, type := _, pos := _, after := _, guard := _ } :: _) _ _); refine wpList_load_row (o := ⟨some 30, _, _, _, _, _⟩) rfl 28 (.tmp 2) rfl (w.heap.size) rfl 28 ((idxCells s f (entC cnt ch) d A n c).toArray) (0, 0) _ hP.out Try.underlying28 rfl (size_idx hch.out hd.out) ?_)
  refine (hWa.out w6 hb.out).mono ?_
  rintro e w7 ⟨A5, c5, b5, rfl, hr5, hn5, hc5, hb5, hk1⟩
  replace hb := Lib.hid (hb.out.trans (hk1.mono hb.out.size))
  replace hP := Lib.hid (Blk.onw hP.out hk1)
  replace hG := Lib.hid (hG.out.below hk1)
  replace hrb := Lib.hid (hrb.out.below hk1)
  have hl5 : b5.length < 140737488355328 := by
    rcases hb5 with h | ⟨-, -, h⟩
    · exact hlen.out b5 h
    · rw [h]; decide
  have hRight : Hid (∀ w', Below w7.heap.size w7 w' → Calls Try.prog 10 #[.slice A4 b.length c4, .int .i64 err, .slice A5 b5.length c5] w' fun e w'' => e = .returned (.bool true) ∧ Below w'.heap.size w' w'') := fun w' h => by
    rcases hbe.out with ⟨h1, rfl⟩ | ⟨h1, rfl, rfl⟩
    · rcases hb5 with h2 | ⟨h2, -, -⟩
      · rw [h1] at h2
        obtain rfl := Option.some.inj h2
        cases A5 with
        | none =>
          have := want_pos h1
          have := (hn5 rfl).1
          omega
        | some a => exact right_some b b.length rfl (by omega) A4 c4 a c5 w' (hrb.out.below h) (hr5.below h)
      · rw [h1] at h2; cases h2
    · rcases hb5 with h2 | ⟨-, rfl, rfl⟩
      · rw [h1] at h2; cases h2
      · obtain ⟨rfl⟩ : c5 = 0 := (hn5 rfl).2
        exact right_none A4 c4 w'
  have hRw := Lib.hid (fun w' (h : Below w7.heap.size w7 w') => readsIdx_any b5 b5.length rfl hl5 A5 c5 hc5 w' (hr5.below h) hn5)
  clear hk1 hWa hr5 hn5 hc5 hb5 hl5 hrb hbe
  have hc7 : Hid (∀ w', Below w7.heap.size w7 w' → w'.cell? ⟨w.heap.size, 67, none⟩ = some (.slice A n c)) := fun w' h => by rw [(Blk.onw hP.out h).cell 67, List.getElem?_toArray]; exact idx_way (entC_len hch.out) hd.out
  go_wp2_with fail
  have s0 : Hid (Below w7.heap.size w7 w7.drew) := (Below.refl _ _).drew
  refine held_start (fun w' => Below w7.heap.size w7 w') 13 rfl (by kernel_rfl) ?_
  refine held_take (i := 0) (v := .slice A4 b.length c4) rfl (by kernel_rfl) (by kernel_rfl) (by kernel_rfl) (fun _ _ _ h => h) s0.out (by rfl) (fun w' hw' => run_mv (.tmp 7) rfl w') ?_
  (intro K hK; go_simp; refine hK _ ?_; clear hK K)
  refine held_take (i := 1) (v := .int .i64 err) rfl (by kernel_rfl) (by kernel_rfl) (by kernel_rfl) (fun _ _ _ h => h) s0.out (by rfl) (fun w' hw' => run_mv (.tmp 8) rfl w') ?_
  (intro K hK; go_simp; refine hK _ ?_; clear hK K)
  refine held_take (i := 2) (v := .slice A5 b5.length c5) rfl (by kernel_rfl) (by kernel_rfl) (by kernel_rfl) (fun _ _ _ h => h) s0.out (by rfl) (fun w' hw' => run_mv (.tmp 9) rfl w') ?_
  (intro K hK; go_simp; refine hK _ ?_; clear hK K)
  refine held_only (i := 3) rfl (by kernel_rfl) (by rfl) (fun K hK => ?_)
  refine wp_fn (R := fun v w'' => v = .bool true ∧ Below w7.heap.size w7 w'') (args := #[.slice A4 b.length c4, .int .i64 err, .slice A5 b5.length c5]) _ _ rfl rfl Try.func10 (by kernel_rfl) (by kernel_rfl) ((hRight.out _ s0.out).mono fun e w'' ⟨he, hb⟩ => ⟨_, he, rfl, s0.out.trans hb⟩) ?_
  rintro qq w8 ⟨rfl, h8⟩
  replace h8 := Lib.hid h8
  go_simp
  refine hK _ _ h8.out ?_
  clear hK K
  refine held_take (i := 4) (v := .bool false) rfl (by kernel_rfl) (by kernel_rfl) (by kernel_rfl) (fun _ _ _ h => h) h8.out (by rfl) (fun w' hw' => by go_simp) ?_
  (intro K hK; go_simp; refine hK _ ?_; clear hK K)
  refine held_take (i := 5) (v := .bool false) rfl (by kernel_rfl) (by kernel_rfl) (by kernel_rfl) (fun _ _ _ h => h) h8.out (by rfl) (fun w' hw' => run_mv (.tmp 36) rfl w') ?_
  (intro K hK; go_simp; refine hK _ ?_; clear hK K)
  refine held_take (i := 6) (v := .slice (some ⟨g, 0, none⟩) (n + 80) (n + 80)) rfl (by kernel_rfl) (by kernel_rfl) (by kernel_rfl) (fun _ _ _ h => h) h8.out (by rfl) (fun w' hw' => run_mv (.tmp 5) rfl w') ?_
  (intro K hK; go_simp; refine hK _ ?_; clear hK K)
  refine held_take (i := 7) (v := .pointer (some ⟨w.heap.size, 67, none⟩)) rfl (by kernel_rfl) (by kernel_rfl) (by kernel_rfl) (fun _ _ _ h => h) h8.out (by rfl) (fun w' hw' => by go_simp) ?_
  (intro K hK; go_simp; refine hK _ ?_; clear hK K)
  refine held_take (i := 8) (v := .slice A n c) rfl (by kernel_rfl) (by kernel_rfl) (by kernel_rfl) (fun _ _ _ h => h) h8.out (by rfl) (fun w' hw' => by have h := hc7.out w' hw'; go_simp) ?_
  (intro K hK; go_simp; refine hK _ ?_; clear hK K)
  refine held_only (i := 9) rfl (by kernel_rfl) (by rfl) (fun K hK => ?_)
  refine wp_fn (R := fun v w'' => v = .agg (cells8 mk0).toArray ∧ Below w7.heap.size w7 w'') (args := #[]) _ _ rfl rfl Try.func7 (by kernel_rfl) (by kernel_rfl) ((hMK.out _).mono fun e w'' ⟨he, hb⟩ => ⟨_, he, rfl, h8.out.trans (hb.mono h8.out.size)⟩) ?_
  rintro qq w9 ⟨rfl, h8b⟩
  replace h8b := Lib.hid h8b
  go_simp
  refine hK _ _ h8b.out ?_
  clear hK K
  refine held_only (i := 10) rfl (by kernel_rfl) (by rfl) (fun K hK => ?_)
  refine wp_fn (R := fun v w'' => v = .bool true ∧ Below w7.heap.size w7 w'') (args := #[.slice (some ⟨g, 0, none⟩) (n + 80) (n + 80), .slice A n c, .agg (cells8 mk0).toArray]) _ _ rfl rfl Try.func11 (by kernel_rfl) (by kernel_rfl) ((hIt.out w9 g (hG.out.below h8b.out) (hb.out.trans (h8b.out.mono hb.out.size))).mono fun e w'' ⟨he, hb⟩ => ⟨_, he, rfl, h8b.out.trans (hb.mono h8b.out.size)⟩) ?_
  rintro qq w10 ⟨rfl, h9⟩
  replace h9 := Lib.hid h9
  go_simp
  refine hK _ _ h9.out ?_
  clear hK K
  refine held_take (i := 11) (v := .bool false) rfl (by kernel_rfl) (by kernel_rfl) (by kernel_rfl) (fun _ _ _ h => h) h9.out (by rfl) (fun w' hw' => by go_simp) ?_
  (intro K hK; go_simp; refine hK _ ?_; clear hK K)
  refine held_take (i := 12) (v := .bool false) rfl (by kernel_rfl) (by kernel_rfl) (by kernel_rfl) (fun _ _ _ h => h) h9.out (by rfl) (fun w' hw' => by go_simp) ?_
  (intro K hK; go_simp; refine hK _ ?_; clear hK K)
  refine held_end (by kernel_rfl) ?_
  go_wp2_with fail
  refine (hRq.out w10 (hb.out.trans (h9.out.mono hb.out.size))).mono ?_
  rintro e w11 ⟨rfl, hk1⟩
  have h11 : Hid (Below w7.heap.size w7 w11) := h9.out.trans (hk1.mono h9.out.size)
  clear hk1
  go_wp2_with fail
  refine (hRw.out w11 h11.out).mono ?_
  rintro e w12 ⟨rfl, hk1⟩
  have hfin : Hid (Below w.heap.size w w12) := hb.out.trans ((h11.out.trans (hk1.mono h11.out.size)).mono hb.out.size)
  go_wp2_with fail
  go_ret
  exact ⟨rfl, hfin.out⟩
end Go.Proofs.Ytmdkfhfkdcbpgaa.ProofIndexeds
