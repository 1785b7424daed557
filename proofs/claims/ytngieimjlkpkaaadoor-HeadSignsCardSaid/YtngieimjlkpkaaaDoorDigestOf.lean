/-
  The program's digests, walked: Of and what is made of it.
-/
import Derived.Test.YtngieimjlkpkaaaDoorDigest
namespace Go.Proofs.YtngieimjlkpkaaaDoor.DigestOf
open Go Go.RowKit Go.Proofs.YtngieimjlkpkaaaDoor Go.Proofs.YtngieimjlkpkaaaDoor.Mem Go.Proofs.YtngieimjlkpkaaaDoor.Sha Go.Proofs.YtngieimjlkpkaaaDoor.ShaWalk Go.Proofs.YtngieimjlkpkaaaDoor.Bytes Go.Proofs.YtngieimjlkpkaaaDoor.HashMem Go.Proofs.YtngieimjlkpkaaaDoor.Hash Go.Proofs.YtngieimjlkpkaaaDoor.HashSum Go.Proofs.YtngieimjlkpkaaaDoor.DigestMem Go.Proofs.YtngieimjlkpkaaaDoor.Digest

theorem Hh.alloc {w : World} {g : Nat} {l : Text} (h : Hh w g l) (o : Obj) : Hh (w.alloc o) g l := by
  obtain ⟨cs, h⟩ := h
  exact ⟨cs, h.alloc o⟩
set_option maxRecDepth 100000 in
set_option maxHeartbeats 600000 in
theorem of_any (ps : List Text) (n : Nat) (hn : ps.length = n) (A : Option Addr) (c : Nat) (size kind : Int) (w : World) (hB : Base w) (hlen : ps.flatten.length < 72057594037927936) (hn2 : n < 72057594037927936) (hp : Pieces w A ps) :
    Calls Tryd.prog 45 #[.int .i64 size, .int .i64 kind, .slice A n c] w fun e w' =>
      e = .returned (.agg (cells8 (cutTo (sum (kb kind :: ps.flatten)) (clampN size))).toArray) ∧ Below w.heap.size w w' := by
  have k1 := kb_b8 kind
  have k2 := kb_wrap kind
  generalize kb kind = kk at *
  obtain ⟨x, hx⟩ : ∃ x, Hid (x = cutTo (sum (kk :: ps.flatten)) (clampN size)) := ⟨_, rfl⟩
  have hxl : x.length = 32 := by rw [hx.out]; exact cutTo_len _ _ (sum_len _) (clampN_ok size).2
  rw [← hx.out]
  have hz := Lib.hid (dig_size x hxl)
  have hz32 : Hid ((Z32 : Array Value).size = (cells8 x).toArray.size) := by show _ = _; simp [cells8_len, hxl, Z32]
  have ho := Lib.hid (dig_one x)
  replace hn := Lib.hid hn
  replace hB := Lib.hid hB
  replace hp := Lib.hid hp
  replace hlen := Lib.hid hlen
  replace hn2 := Lib.hid hn2
  clear hxl
  have hR := Lib.hid (heap_alloc_new w (Obj.cells Z32 31))
  go_enter Tryd.func45, Tryd.ntmps45
  go_wp2_with (first
    | (go_at_call 71; refine (new_any _).mono ?_; rintro e w2 ⟨g, rfl, hg, hH, hb⟩; replace hH := Lib.hid hH; replace hb := Lib.hid hb; replace hg : Hid (w.heap.size + 1 ≤ g) := (show w.heap.size + 1 ≤ g by simpa using hg); have hb0 : Hid (Below w.heap.size w w2) := ((Below.refl _ w).alloc (Nat.le_refl _) _).trans (hb.out.mono (by simp)); have hR2 : Hid (Blk w2 w.heap.size 31 Z32) := (hb.out.block w.heap.size (by simp)).trans hR.out; clear hb)
    | (go_at_call 72; refine (write_k [] [kk] 1 rfl g (some ⟨w2.heap.size, 0, none⟩) 1 (w2.alloc (.cells #[.int .u8 (b8 kk)] 5)) ((hB.out.below hb0.out hB.out.1).below (Below.heap_below w2 _) (by have := hb0.out.size; have := hB.out.1; omega)) (by have := hB.out.1; have := hg.out; omega) (Hh.alloc hH.out _) (by simp) ((Blk.new w2 5 #[.int .u8 (b8 kk)]).reads 0 (cells8 [kk]) rfl (fun j u hu => by rw [Nat.zero_add]; exact one_at kk j u hu)) (fun _ a ha => by obtain rfl := Option.some.inj ha; have := hH.out.lt; show w2.heap.size ≠ g; omega) (Nat.le_refl _)).mono ?_; rintro e w4 ⟨rfl, hH4, hk4⟩; replace hH4 : Hid (Hh w4 g [kk]) := hH4; have hb4 : Hid (Below w.heap.size w w4) := hb0.out.trans (((Below.refl _ w2).alloc hb0.out.size _).trans (Kept.below_of hk4 (by have := hg.out; omega) (by have := hb0.out.size; simp; omega))); have hR4 : Hid (Blk w4 w.heap.size 31 Z32) := (Blk.alloc hR2.out _).kept hk4 (by have := hg.out; omega); clear hk4))
  clear hH hR2 hb0 k1 k2 hR
  obtain ⟨w5, rfl⟩ : ∃ w5 : World, w5 = w4 := ⟨_, rfl⟩
  go_loopw [18] (fun v wr => ∃ i : Nat, v = .int .i64 (i : Int) ∧ i ≤ n ∧ Hid (Hh wr g (kk :: (ps.take i).flatten)) ∧ Hid (Below w.heap.size w wr) ∧ Hid (Blk wr w.heap.size 31 Z32)) (fun v _ => n - (intOf v).toNat)
  case atStart => exact ⟨0, rfl, by omega, hH4.out, hb4.out, hR4.out⟩
  case round =>
    clear hH4 hb4 hR4
    obtain ⟨i, rfl, hi, hH, hb, hRr⟩ := hrel
    by_cases hlt : i < n
    · have hz : (i : Int) < (n : Int) := by omega
      obtain ⟨q, hq⟩ : ∃ q, Hid (ps[i]? = some q) := ⟨ps[i]'(by rw [hn.out]; exact hlt), List.getElem?_eq_getElem _⟩
      obtain ⟨b, o, hA, hbl, hcs⟩ := hp.out (by rw [hn.out]; omega)
      obtain ⟨Ai, ci, c0, hci, hri, _⟩ := hcs i q hq.out
      have hAi : Hid (0 < q.length → Off Ai g) := Reads.off hri (by have := hg.out; omega)
      replace hri : Hid (Reads wr 1 Ai q.length (cells8 q)) := hri.below hb.out
      replace c0 := (hb.out.cell (p := ⟨b, o + i, none⟩) hbl).trans c0
      have hsum := pieces_sum ps i q hq.out
      replace hsum := Lib.hid hsum
      subst hA
      clear hbl hcs
      have hil : (i : Int) < 9223372036854775807 := by have := hn2.out; omega
      obtain ⟨w5, rfl⟩ : ∃ w5 : World, w5 = wr := ⟨_, rfl⟩
      go_wp2_with (go_at_call 72; refine (write_k (kk :: (ps.take i).flatten) q q.length rfl g Ai ci w5 (hB.out.below hb.out hB.out.1) (by have := hB.out.1; have := hg.out; omega) hH.out (by have := hlen.out; have := hsum.out.2; simp only [List.length_cons]; omega) hri.out (fun h => hAi.out h) hci).mono ?_; rintro e w6 ⟨rfl, hH6, hk6⟩; replace hH6 := Lib.hid hH6; replace hk6 := Lib.hid hk6)
      go_roundw
      case rel =>
        refine ⟨i + 1, by go_num, by omega, ?_, hb.out.trans (Kept.below_of hk6.out (by have := hg.out; omega) hb.out.size), hRr.out.kept hk6.out (by have := hg.out; omega)⟩
        show Hh _ _ _
        rw [hsum.out.1]
        exact hH6.out
      case measure => simp [intOf]; omega
    · have hin : i = n := by omega
      subst hin
      have ha : (ps.take i).flatten = ps.flatten := by rw [List.take_of_length_le (by rw [hn.out]; exact Nat.le_refl _)]
      rw [ha] at hH
      obtain ⟨w5, rfl⟩ : ∃ w5 : World, w5 = wr := ⟨_, rfl⟩
      clear ha
      go_wp2_with (first
        | (go_at_call 74; refine (sum_any (kk :: ps.flatten) g w5 (hB.out.below hb.out hB.out.1) hH.out (by have := hlen.out; simp only [List.length_cons]; omega)).mono ?_; rintro e w7 ⟨rfl, hb7⟩; replace hb7 := Lib.hid hb7)
        | (go_at_call 73; refine (cut_any (sum (kk :: ps.flatten)) (sum_len _) size w7).mono ?_; rw [← hx.out]; rintro e w8 ⟨rfl, hb8⟩; replace hb8 := Lib.hid hb8; have hR8 : Hid (Blk w8 w.heap.size 31 Z32) := (hb8.out.block w.heap.size (by have := hb7.out.size; have := hRr.out.lt; omega)).trans ((hb7.out.block w.heap.size hRr.out.lt).trans hRr.out); have hbb : Hid (Below w.heap.size w w8) := hb.out.trans ((hb7.out.mono (by have := hb.out.size; omega)).trans (hb8.out.mono (by have := hb7.out.size; have := hb.out.size; omega))))
        | ((with_reducible change wpList _ _ _ ({ dst := none, op := Op.store 31 _ _, type := _, pos := _, after := _, guard := _ } :: _) _ _); refine wpList_store_row (o := ⟨none, _, _, _, _, _⟩) rfl 31 (.tmp 6) (.tmp 29) rfl w.heap.size (cells8 x).toArray rfl rfl 31 Z32 hR8.out hz.out hz32.out ho.out ?_))
      refine bodyPost_ret (results_cell_row rfl _ _ w.heap.size 31 (cells8 x).toArray (0, 0) _ rfl (setRow_heap _ _ _ _ _ _ hR8.out) Tryd.underlying31 rfl hz.out) rfl ?_
      exact ⟨rfl, below_setRow hbb.out (Nat.le_refl _) _⟩
end Go.Proofs.YtngieimjlkpkaaaDoor.DigestOf
