/-
  Texts of the claim, put into one file: EncCons.
-/
import Derived.Test.YtgldkfaiofkhbaaDoorZ13
import Derived.Test.YtgldkfaiofkhbaaDoorZ25

namespace Go.Proofs.YtgldkfaiofkhbaaDoor.EncCons
open Go Go.RowKit Go.Proofs.YtgldkfaiofkhbaaDoor Go.Proofs.YtgldkfaiofkhbaaDoor.Mem Go.Proofs.YtgldkfaiofkhbaaDoor.Sha Go.Proofs.YtgldkfaiofkhbaaDoor.Bytes Go.Proofs.YtgldkfaiofkhbaaDoor.Append Go.Proofs.YtgldkfaiofkhbaaDoor.Octet Go.Proofs.YtgldkfaiofkhbaaDoor.Octet2 Go.Proofs.YtgldkfaiofkhbaaDoor.HeadMem Go.Proofs.YtgldkfaiofkhbaaDoor.ProofEnc Go.Proofs.YtgldkfaiofkhbaaDoor.Subs Go.Proofs.YtgldkfaiofkhbaaDoor.Betw

/-- An inclusion proof's bytes. -/
def consBytes (size i : Nat) (ds : List Text) : Text := [49] ++ be8 size ++ be8 i ++ ds.flatten
theorem consBytes_len (size i : Nat) (ds : List Text) (h : ∀ d ∈ ds, d.length = 32) : (consBytes size i ds).length = 17 + 32 * ds.length := by
  simp only [consBytes, List.length_append, be8_len, flat32_len ds h, List.length_cons, List.length_nil]
set_option maxRecDepth 100000 in
set_option maxHeartbeats 1000000 in
theorem encodeConsistency_yes (size i : Nat) (hs : i ≤ 1099511627776) (hi : size ≤ i) (ds : List Text) (n : Nat) (hn : ds.length = n) (hd : ∀ d ∈ ds, d.length = 32) (A : Option Addr) (c : Nat) (w : World) (hr : Reads w 32 A n (ds.flatMap cells8)) (hlt : ∀ a, 0 < n → A = some a → a.block < w.heap.size) (hcnt : betw size i = n) :
    Calls Tryd.prog 22 #[.agg #[.int .i64 size, .int .i64 i, .slice A n c]] w fun e w' => ∃ v, e = .returned (.tuple #[v, .int .i64 0]) ∧ Below w.heap.size w w' ∧ w'.ownsRow w.heap.size 5 1 v (17 + 32 * n) (cells8 (consBytes size i ds)) := by
  obtain ⟨cs, hcs⟩ : ∃ cs : Array Value, cs = #[.int .i64 size, .int .i64 i, .slice A n c] := ⟨_, rfl⟩
  have c0 : cs[0]? = some (.int .i64 size) := by rw [hcs]; rfl
  have c1 : cs[1]? = some (.int .i64 i) := by rw [hcs]; rfl
  have c2 : cs[2]? = some (.slice A n c) := by rw [hcs]; rfl
  have hn40 : n ≤ 41 := by rw [← hcnt]; exact betw_le hi hs
  have hB0 : Hid (Blk ((w.alloc (.cells cs 44)).alloc (.cells #[.slice none 0 0] 171)) w.heap.size 44 cs) := (Blk.new w _ _).alloc _
  have hN := Lib.hid (WrAt.new (w.alloc (.cells cs 44)))
  have hz : Hid ((w.alloc (.cells cs 44)).heap.size = w.heap.size + 1) := by show _ = _; simp
  rw [hz.out] at hN
  have hW0 := Lib.hid hN.out.refl
  have hb0 : Hid (Below w.heap.size w ((w.alloc (.cells cs 44)).alloc (.cells #[.slice none 0 0] 171))) := (below_alloc1 w _).alloc (by rw [hz.out]; omega) _
  have hR0 : Hid (Reads ((w.alloc (.cells cs 44)).alloc (.cells #[.slice none 0 0] 171)) 32 A n (ds.flatMap cells8)) := (hr.alloc _).alloc _
  have hA : Hid (0 < n → ∀ a, A = some a → a.block ≠ w.heap.size + 1 ∧ some a.block ≠ none) := fun h a e => ⟨by have := hlt a h e; omega, by simp⟩
  have hNil : Hid (Reads ((w.alloc (.cells cs 44)).alloc (.cells #[.slice none 0 0] 171)) 32 none 0 (([] : List Text).flatMap cells8)) := Reads.nil_ _ _ _
  have e0 := (Blk.new w 44 cs).cell 0
  have e1 := (Blk.new w 44 cs).cell 1
  have e2 := (Blk.new w 44 cs).cell 2
  rw [c0] at e0
  rw [c1] at e1
  rw [c2] at e2
  replace c0 := Lib.hid c0
  replace c1 := Lib.hid c1
  replace c2 := Lib.hid c2
  have z : ((n : Int) == (n : Int)) = true := by simp
  have hst : Hid (∀ w', Wrote ((w.alloc (.cells cs 44)).alloc (.cells #[.slice none 0 0] 171)) (w.heap.size + 1) none [49] w' → w'.cell? ⟨w.heap.size, 0, none⟩ = some (.int .i64 size)) := fun w' h => ((h.blk hB0.out (by omega) (by simp)).cell 0).trans c0.out
  have hst2 : Hid (∀ w' l, Wrote ((w.alloc (.cells cs 44)).alloc (.cells #[.slice none 0 0] 171)) (w.heap.size + 1) none l w' → w'.cell? ⟨w.heap.size, 1, none⟩ = some (.int .i64 i) ∧ w'.cell? ⟨w.heap.size, 2, none⟩ = some (.slice A n c)) := fun w' l h => ⟨((h.blk hB0.out (by omega) (by simp)).cell 1).trans c1.out, ((h.blk hB0.out (by omega) (by simp)).cell 2).trans c2.out⟩
  have hlen : Hid ((consBytes size i ds).length = 17 + 32 * n) := by show _ = _; rw [consBytes_len _ _ _ hd, hn]
  have hfin : Hid (([] : Text) ++ [49] ++ be8 size ++ ([] : List Text).flatten ++ be8 i ++ ds.flatten = consBytes size i ds) := by show _ = _; simp [consBytes]
  have hs' := Lib.hid hs
  have hi' := Lib.hid hi
  replace hcnt := Lib.hid hcnt
  replace hn := Lib.hid hn
  replace hd := Lib.hid hd
  replace hn40 := Lib.hid hn40
  have hB9 := hB0
  clear hs hi hr hlt hB0 hN
  rw [← hcs]
  clear hcs
  go_enter Tryd.func22, Tryd.ntmps22
  go_wp2_with (first
    | (go_at_call 69; refine (between_yes size i hs'.out hi'.out _).mono ?_; rw [hcnt.out]; rintro e w1 ⟨rfl, rfl⟩)
    | (go_at_call 57; refine (new_any _).mono ?_; rintro e w1 ⟨rfl, rfl⟩)
    | (go_at_call 58; refine (put1_from 49 49 rfl (by simp) hW0.out).mono ?_; rintro e w1 ⟨rfl, hW1⟩; have g0 := hst.out w1 hW1; replace hW1 := Lib.hid hW1; clear hW0)
    | (go_at_call 59; refine (number_from size (by have := hs'.out; have := hi'.out; omega) [] 0 rfl (by simp) none 0 (by simp) hNil.out (fun h => absurd h (by simp)) hW1.out).mono ?_; rintro e w2 ⟨rfl, hW2⟩; obtain ⟨g1, g2⟩ := hst2.out w2 _ hW2; replace hW2 := Lib.hid hW2; clear hW1 g0)
    | (go_at_call 59; refine (number_from i (by have := hs'.out; have := hi'.out; omega) ds n hn.out hd.out A c (by have := hn40.out; simp [be8_len]; omega) hR0.out hA.out hW2.out).mono ?_; rintro e w3 ⟨rfl, hW3⟩; rw [hfin.out] at hW3; have hb3 : Hid (Below w.heap.size w w3) := hb0.out.trans (hW3.below (fun _ e => by cases e) (B := w.heap.size) (by omega) hb0.out.size); obtain ⟨r3, hA3, -, -⟩ := hW3; replace hA3 := Lib.hid hA3; clear hW2 g1 g2)
    | (go_at_call 60; refine (all_any (w.heap.size + 1) r3 (consBytes size i ds) w3 (by rw [hlen.out]; have := hn40.out; omega) hA3.out).mono ?_; rintro e w4 ⟨v, rfl, hb4, ho4⟩; rw [hlen.out] at ho4; obtain ⟨Av, cv, rfl, -⟩ := Own.reads ho4; have hb5 : Hid (Below w.heap.size w w4) := hb3.out.trans (hb4.mono hb3.out.size); replace ho4 := Lib.hid ho4; clear hb4))
  go_ret2
  exact ⟨_, rfl, hb5.out, ownsRow_base ho4.out hb3.out.size⟩

set_option maxRecDepth 100000 in
set_option maxHeartbeats 1000000 in
theorem encodeConsistency_out (size i : Int) (A : Option Addr) (n c : Nat) (w : World) (hin : joinsB size i = false) :
    Calls Tryd.prog 22 #[.agg #[.int .i64 size, .int .i64 i, .slice A n c]] w fun e w' => e = .returned (.tuple #[.slice none 0 0, .int .i64 170]) ∧ Below w.heap.size w w' := by
  have hb0 : Hid (Below w.heap.size w (w.alloc (.cells #[.int .i64 size, .int .i64 i, .slice A n c] 44))) := below_alloc1 w _
  replace hin := Lib.hid hin
  go_enter Tryd.func22, Tryd.ntmps22
  go_wp2_with (go_at_call 69; refine (between_no size i hin.out _).mono ?_; rintro e w1 ⟨rfl, rfl⟩)
  go_ret2
  exact ⟨rfl, hb0.out⟩

set_option maxRecDepth 100000 in
set_option maxHeartbeats 1000000 in
theorem encodeConsistency_no (size i : Nat) (hs : i ≤ 1099511627776) (hi : size ≤ i) (A : Option Addr) (n c : Nat) (w : World) (hcnt : betw size i ≠ n) :
    Calls Tryd.prog 22 #[.agg #[.int .i64 size, .int .i64 i, .slice A n c]] w fun e w' => e = .returned (.tuple #[.slice none 0 0, .int .i64 170]) ∧ Below w.heap.size w w' := by
  have hb0 : Hid (Below w.heap.size w (w.alloc (.cells #[.int .i64 size, .int .i64 i, .slice A n c] 44))) := below_alloc1 w _
  have hs' := Lib.hid hs
  have hi' := Lib.hid hi
  clear hs hi
  obtain ⟨m, hm⟩ : ∃ m, Hid (betw size i = m) := ⟨_, Lib.hid rfl⟩
  rw [hm.out] at hcnt
  have z1 : ((m : Int) == (n : Int)) = false := by simp; omega
  have z2 : ((m : Int) != (n : Int)) = true := by simp; omega
  clear hcnt
  go_enter Tryd.func22, Tryd.ntmps22
  go_wp2_with (go_at_call 69; refine (between_yes size i hs'.out hi'.out _).mono ?_; rw [hm.out]; rintro e w1 ⟨rfl, rfl⟩)
  go_ret2
  exact ⟨rfl, hb0.out⟩
end Go.Proofs.YtgldkfaiofkhbaaDoor.EncCons
