/-
  proof.EncodeIndexed of a name that is not found, walked.
-/
import Derived.Test.YtngieimjlkpkaaaProofIdx3
namespace Go.Proofs.Ytngieimjlkpkaaa.ProofIdx4
open Go Go.RowKit Go.Proofs.Ytngieimjlkpkaaa Go.Proofs.Ytngieimjlkpkaaa.Mem Go.Proofs.Ytngieimjlkpkaaa.Sha Go.Proofs.Ytngieimjlkpkaaa.Bytes Go.Proofs.Ytngieimjlkpkaaa.Append Go.Proofs.Ytngieimjlkpkaaa.Octet Go.Proofs.Ytngieimjlkpkaaa.Octet2 Go.Proofs.Ytngieimjlkpkaaa.HeadMem Go.Proofs.Ytngieimjlkpkaaa.ProofBeside Go.Proofs.Ytngieimjlkpkaaa.ProofEnc Go.Proofs.Ytngieimjlkpkaaa.ProofIdx Go.Proofs.Ytngieimjlkpkaaa.ProofIdx2 Go.Proofs.Ytngieimjlkpkaaa.ProofIdx3

/-- The bytes of what is said of a name that is not found. -/
def idxBytes (s : ByteArray) (d : Text) (ds : List Text) : Text := [50] ++ [kb s.size] ++ nm s ++ [0] ++ d ++ ds.flatten

set_option maxRecDepth 100000 in
set_option maxHeartbeats 1000000 in
theorem encodeIndexed_nf (s : ByteArray) (hs : s.size ≤ 64) (hnm : namedB s.data.toList = true) (d : Text) (hd : d.length = 32) (ds : List Text) (n : Nat) (hn : ds.length = n) (hds : ∀ d ∈ ds, d.length = 32) (hones : onesOf d = n) (A : Option Addr) (c : Nat) (w : World) (hr : Reads w 32 A n (ds.flatMap cells8)) :
    Calls Try.prog 10 #[.agg (idxCells s false z33 d A n c).toArray] w fun e w' => ∃ v, e = .returned (.tuple #[v, .int .i64 0]) ∧ Below w.heap.size w w' ∧ w'.ownsRow w.heap.size 5 1 v (35 + s.size + 32 * n) (cells8 (idxBytes s d ds)) := by
  have hT := Lib.hid (fun w' => indexed_nf s (by omega) d hd A n c true true hnm (by rw [hones]; simp) w')
  obtain ⟨cs, hcs⟩ : ∃ cs : Array Value, (idxCells s false z33 d A n c).toArray = cs := ⟨_, rfl⟩
  have i0 : Hid (cs[0]? = some (.string s)) := by show _ = _; rw [← hcs, List.getElem?_toArray]; exact idx_name
  have i1 : Hid (cs[1]? = some (.bool false)) := by show _ = _; rw [← hcs, List.getElem?_toArray]; exact idx_found
  have i3 : Hid (∀ j v, (cells8 d)[j]? = some v → cs[35 + j]? = some v) := fun j v hv => by rw [← hcs, List.getElem?_toArray]; exact idx_bitmap rfl j v hv
  have i4 : Hid (cs[67]? = some (.slice A n c)) := by show _ = _; rw [← hcs, List.getElem?_toArray]; exact idx_way rfl hd
  have sI : Hid ((Try.prog.info? 39).map (·.size) = some cs.size) := by show _ = _; rw [← hcs, List.size_toArray, idx_len rfl hd]; kernel_rfl
  rw [hcs] at hT ⊢
  clear hcs
  have hn256 : n ≤ 256 := by rw [← hones]; have := onesOf_le d; omega
  have hB0 : Hid (Blk (w.alloc (.cells cs 39)) w.heap.size 39 cs) := Blk.new w _ _
  have hb0 : Hid (Below w.heap.size w (w.alloc (.cells cs 39))) := Below.heap_below w _
  have hz0 : Hid ((w.alloc (.cells cs 39)).heap.size = w.heap.size + 1) := by show _ = _; simp
  have hR : Hid (∀ w', Below w.heap.size w w' → Reads w' 32 A n (ds.flatMap cells8)) := fun w' hb => hr.below hb
  have hA : Hid (∀ g, w.heap.size ≤ g → 0 < n → ∀ a, A = some a → a.block ≠ g ∧ some a.block ≠ none) := fun g hg h a e => by
    obtain ⟨b, o, e2, hb, _⟩ := hr.2 (by omega)
    rw [e] at e2
    injection e2 with e2
    subst e2
    exact ⟨by simp; omega, by simp⟩
  have sD : Hid ((Try.prog.info? 28).map (·.size) = some (cells8 d).length) := agg_hi size32 (by rw [cells8_len, hd])
  have q1 : Hid (∀ v ∈ [cells8 d], v.length = 32) := by intro v hv; simp only [List.mem_singleton] at hv; rw [hv, cells8_len, hd]
  have d1 : Hid (∀ x ∈ [d], x.length = 32) := by intro v hv; simp only [List.mem_singleton] at hv; rw [hv, hd]
  obtain ⟨X1, x1⟩ : ∃ X, Hid (X = ([cells8 d].flatten).toArray) := ⟨_, rfl⟩
  have hfin : Hid (([] : Text) ++ [50] ++ [kb s.size] ++ nm s ++ [if false = true then 1 else 0] ++ [d].flatten ++ ds.flatten = idxBytes s d ds) := by show _ = _; simp [idxBytes]
  have hlen : Hid ((idxBytes s d ds).length = 35 + s.size + 32 * n) := by show _ = _; simp only [idxBytes, List.length_append, List.length_cons, List.length_nil, nm_len, hd, flat32_len ds hds, hn]; omega
  have hnl := Lib.hid (nm_len s)
  replace hs := Lib.hid hs
  replace hn := Lib.hid hn
  replace hd := Lib.hid hd
  replace hds := Lib.hid hds
  replace hn256 := Lib.hid hn256
  clear hr hones hnm
  go_enter Try.func10, Try.ntmps10
  go_wp2_with (first
    | ((with_reducible change wpList _ _ _ ({ dst := some 5, op := _, type := _, pos := _, after := _, guard := _ } :: _) _ _); refine wpList_load_row (o := ⟨some 5, _, _, _, _, _⟩) rfl 39 (.tmp 1) rfl w.heap.size rfl 39 cs (0, 0) _ hB0.out Try.underlying39 rfl sI.out ?_)
    | (go_at_call 27; refine (hT.out _).mono ?_; rintro e w1 ⟨rfl, hb1⟩; rw [hz0.out] at hb1; have hB1 := (hb1.block w.heap.size (by omega)).trans hB0.out; have bb1 := hb0.out.trans (hb1.mono (by omega)); have hN := Lib.hid (WrAt.new w1).refl; have hR1 := Lib.hid ((hR.out w1 bb1).alloc (.cells #[.slice none 0 0] 83)); have hA1 := Lib.hid (hA.out w1.heap.size bb1.size); have hlt1 : w.heap.size < w1.heap.size := (by have := hb1.size; have := hz0.out; omega); have hBB : Hid (∀ w' l, Wrote (w1.alloc (.cells #[.slice none 0 0] 83)) w1.heap.size none l w' → ∀ j v, cs[j]? = some v → w'.cell? ⟨w.heap.size, j, none⟩ = some v) := (fun w' l h j v hv => ((h.blk (Blk.alloc hB1 _) (by omega) (by simp)).cell j).trans hv); have hbW : Hid (∀ w' l, Wrote (w1.alloc (.cells #[.slice none 0 0] 83)) w1.heap.size none l w' → Below w.heap.size w w') := (fun w' l h => (bb1.alloc bb1.size _).trans (h.below (fun _ e => by cases e) (B := w.heap.size) (by omega) (by simp; omega))); clear hb1 hB1 bb1 hlt1 hB0 hb0)
    | (go_at_call 23; refine (new_any _).mono ?_; rintro e w1 ⟨rfl, rfl⟩)
    | (go_at_call 24; refine (put1_from 50 50 rfl (by simp) hN.out).mono ?_; rintro e w2 ⟨rfl, hW2⟩; have e2 := hBB.out w2 _ hW2 0 _ i0.out; replace hW2 := Lib.hid hW2; clear hN)
    | (go_at_call 28; refine (name_from s hs.out (by have := hs.out; simp; omega) hW2.out).mono ?_; rintro e w3 ⟨rfl, hW3⟩; have e3 := hBB.out w3 _ hW3 1 _ i1.out; replace hW3 := Lib.hid hW3; clear hW2 e2)
    | (go_at_call 29; refine (flag_from false (by have := hs.out; have := hnl.out; simp; omega) hW3.out).mono ?_; rintro e w4 ⟨rfl, hW4⟩; have e4 := hBB.out w4 _ hW4 1 _ i1.out; have f4 : Hid (∀ j v, (cells8 d)[j]? = some v → w4.cell? ⟨w.heap.size, 35 + j, none⟩ = some v) := (fun j v hv => hBB.out w4 _ hW4 (35 + j) v (i3.out j v hv)); replace hW4 := Lib.hid hW4; clear hW3 e3)
    | ((with_reducible change wpList _ _ _ ({ dst := some 32, op := _, type := _, pos := _, after := _, guard := _ } :: _) _ _); refine wpList_load_part (o := ⟨some 32, _, _, _, _, _⟩) rfl 28 (.tmp 31) rfl w.heap.size 35 rfl (cells8 d) _ f4.out Try.underlying28 rfl sD.out ?_)
    | ((with_reducible change wpList _ _ _ ({ dst := some 33, op := _, type := _, pos := _, after := _, guard := _ } :: _) _ _); refine wpList_buildAggs (o := ⟨some 33, _, _, _, _, _⟩) rfl 32 28 1 _ rfl 32 (by decide) [cells8 d] Try.underlying32 size32 zero32 rfl (by decide) (by decide) q1.out rfl ?_; rw [← x1.out])
    | (go_at_call 30; have tok := hW4; rw [show X1 = (([d].map cells8).flatten).toArray from x1.out]; refine (digests_new [d] 1 rfl d1.out (by have := hs.out; have := hnl.out; simp; omega) hW4.out).mono ?_; rintro e w5 ⟨rfl, hW5⟩; have e5 := hBB.out w5 _ hW5 67 _ i4.out; replace hW5 := Lib.hid hW5; clear tok hW4 e4 f4)
    | (go_at_call 30; refine (digests_old ds n hn.out hds.out A c (by have := hs.out; have := hnl.out; have := hn256.out; have := hd.out; simp; omega) hR1.out hA1.out hW5.out).mono ?_; rintro e w6 ⟨rfl, hW6⟩; rw [hfin.out] at hW6; have b6 := Lib.hid (hbW.out w6 _ hW6); obtain ⟨r6, hA6, -, -⟩ := hW6; replace hA6 := Lib.hid hA6; clear hW5 e5 hR1 hA1 hBB hbW)
    | (go_at_call 26; refine (all_any w1.heap.size r6 (idxBytes s d ds) w6 (by rw [hlen.out]; have := hs.out; have := hn256.out; omega) hA6.out).mono ?_; rintro e w7 ⟨v, rfl, hb7, ho7⟩; rw [hlen.out] at ho7; obtain ⟨Av, cv, rfl, -⟩ := Own.reads ho7; have bb7 : Hid (Below w.heap.size w w7) := b6.out.trans (hb7.mono b6.out.size); replace ho7 := Lib.hid ho7; clear hb7))
  go_ret2
  exact ⟨_, rfl, bb7.out, ownsRow_base ho7.out b6.out.size⟩
end Go.Proofs.Ytngieimjlkpkaaa.ProofIdx4
