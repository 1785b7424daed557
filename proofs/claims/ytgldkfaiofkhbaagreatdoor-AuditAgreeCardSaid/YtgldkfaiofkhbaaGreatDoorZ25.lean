/-
  Texts of the claim, put into one file: Reader, Reader2, Reader3, HeadTake, HeadTake2, NoteP, Decode, High, ReadHead, HeadEq, HeadCmp.
-/
import Derived.Test.YtgldkfaiofkhbaaGreatDoorZ24
import Derived.Test.YtgldkfaiofkhbaaGreatDoorZ10
import Derived.Test.YtgldkfaiofkhbaaGreatDoorZ1
import Derived.Laws.StructEq
import Derived.ChangeKeysEq
import Derived.Test.YtgldkfaiofkhbaaGreatDoorZ3

namespace Go.Proofs.YtgldkfaiofkhbaaGreatDoor.Reader
open Go Go.RowKit Go.Proofs.YtgldkfaiofkhbaaGreatDoor Mem Sha Bytes Go.Proofs.YtgldkfaiofkhbaaGreatDoor.Append Octet QuietTail Grown

def num (l : Text) : Nat := l.foldl (fun a c => a * 256 + c.toNat) 0
def Rd (w : World) (g : Nat) (q : Text) (A : Option Addr) (c need : Nat) : Prop :=
 ∃ at_ why, Blk w g 344 #[.slice A q.length c, .int .i64 ((at_ : Nat) : Int), .int .i64 why] ∧ Reads w 1 A q.length (cells8 q) ∧ (A = none → q.length = 0 ∧ c = 0) ∧ (0 < q.length → ∀ a, A = some a → a.block ≠ g) ∧ q.length ≤ c ∧
  at_ ≤ q.length ∧ (need ≤ q.length → at_ = need ∧ why = 0) ∧ (q.length < need → why = 8)

section
variable {w w' : World} {g need c : Nat} {q : Text} {A : Option Addr}
theorem Rd.lt (h : Rd w g q A c need) : g < w.heap.size := by obtain ⟨_, _, hb, _⟩ := h; exact hb.lt
theorem Rd.kept {S : Nat → Prop} (h : Rd w g q A c need) (hk : Kept S w w') (hS : ∀ b, b < w.heap.size → ¬ S b) : Rd w' g q A c need := by
 obtain ⟨at_, why, hb, hr, h1⟩ := h
 refine ⟨at_, why, hb.kept hk (hS g hb.lt), hr.kept0 hk (fun hp b o e => ?_), h1⟩
 obtain ⟨b', o', e', hlt, _⟩ := hr.2 hp
 rw [e] at e'
 injection e' with e'
 injection e' with e1
 subst e1
 exact hS b hlt
theorem Rd.below (h : Rd w g q A c need) (hb : Below w.heap.size w w') : Rd w' g q A c need := h.kept (S := fun _ => False) (Kept.of_below hb) (fun _ _ x => x)
theorem Rd.alloc (h : Rd w g q A c need) (o : Obj) : Rd (w.alloc o) g q A c need := h.below (Below.heap_below w o)
theorem Rd.drewN (h : Rd w g q A c need) (n : Nat) : Rd (w.drewN n) g q A c need := h.below (below_drawn (Below.refl _ _) n)
end

theorem run_mid {P : Program} {t : TypeId} {A : Option Addr} {n c l h : Nat} (ht : P.underlying t = some (.slice (P.elem t))) (hs : ∀ w, (sizeOf (P.elem t)).run P w = .ok 1 w) (h1 : l ≤ h) (h2 : h ≤ c) (x y : Int) (hx : x = l) (hy : y = h) (w : World) :
  (Instr.sliceAt t (.slice A n c) (some (.int .i64 x)) (some (.int .i64 y)) none).run P w = .ok (.slice (cutA A l c) (h - l) (c - l)) w := by
 subst hx hy
 rw [run_sliceAt_slice w t _ _ _ _ ht, run_slice_lh w t A n c ht .i64 .i64 (l : Int) (h : Int) (by omega) (by omega) (by omega), hs]
 simp [Result.andThen, sliced, cutA]

theorem Rd.at_ {w : World} {need : Nat} {q : Text} {A : Option Addr} (hr : Reads w 1 A q.length (cells8 q)) {k : Nat} (h0 : 0 < k) (hk : need + k ≤ q.length) : ∃ b o, A = some ⟨b, o, none⟩ ∧ b < w.heap.size ∧ ∀ j, j < k → w.cell? ⟨b, o + need + j, none⟩ = some (.int .u8 (b8 (q.getD (need + j) 0))) := by
 obtain ⟨b, o, e, hb, hc⟩ := hr.2 (by omega)
 refine ⟨b, o, e, hb, fun j hj => ?_⟩
 rw [Nat.add_assoc]
 exact hc _ _ (cells8_at q _ (by omega))

end Go.Proofs.YtgldkfaiofkhbaaGreatDoor.Reader

namespace Go.Proofs.YtgldkfaiofkhbaaGreatDoor.Reader2
open Go Go.RowKit Go.Proofs.YtgldkfaiofkhbaaGreatDoor Mem Sha Bytes Go.Proofs.YtgldkfaiofkhbaaGreatDoor.Append Octet QuietTail Grown Reader

section
variable {w : World} {g c at_ : Nat} {q : Text} {A : Option Addr}
theorem Rd.reads_set (hr : Reads w 1 A q.length (cells8 q)) (hA : 0 < q.length → ∀ a, A = some a → a.block ≠ g) (i : Nat) (u : Value) : Reads (w.setCell ⟨g, i, none⟩ u) 1 A q.length (cells8 q) :=
 hr.kept0 ((Kept.refl (· = g) w).setCell (.inl rfl) u) (fun hp b o e h => hA (by omega) _ e h)
theorem Rd.adv {k : Nat} (hb : Blk w g 344 #[.slice A q.length c, .int .i64 (at_ : Int), .int .i64 0]) (hr : Reads w 1 A q.length (cells8 q)) (hnil : A = none → q.length = 0 ∧ c = 0) (hA : 0 < q.length → ∀ a, A = some a → a.block ≠ g) (hc : q.length ≤ c) (h8 : at_ + k ≤ q.length) :
  Rd (w.setCell ⟨g, 1, none⟩ (.int .i64 ((at_ : Int) + (k : Int)))) g q A c (at_ + k) ∧ Kept (· = g) w (w.setCell ⟨g, 1, none⟩ (.int .i64 ((at_ : Int) + (k : Int)))) :=
 ⟨⟨at_ + k, 0, by have := hb.set_ 1 (.int .i64 ((at_ : Int) + (k : Int))); simpa using this, Rd.reads_set hr hA _ _, hnil, hA, hc, h8, fun _ => ⟨rfl, rfl⟩, fun h => absurd h (by omega)⟩, (Kept.refl (· = g) w).setCell (p := ⟨g, 1, none⟩) (.inl rfl) _⟩
theorem Rd.fail {need : Nat} (hb : Blk w g 344 #[.slice A q.length c, .int .i64 (at_ : Int), .int .i64 0]) (hr : Reads w 1 A q.length (cells8 q)) (hnil : A = none → q.length = 0 ∧ c = 0) (hA : 0 < q.length → ∀ a, A = some a → a.block ≠ g) (hc : q.length ≤ c) (hat : at_ ≤ q.length) (hn : q.length < need) :
  Rd (w.setCell ⟨g, 2, none⟩ (.int .i64 8)) g q A c need ∧ Kept (· = g) w (w.setCell ⟨g, 2, none⟩ (.int .i64 8)) :=
 ⟨⟨at_, 8, by have := hb.set_ 2 (.int .i64 8); simpa using this, Rd.reads_set hr hA _ _, hnil, hA, hc, hat, fun h => absurd h (by omega), fun _ => rfl⟩, (Kept.refl (· = g) w).setCell (p := ⟨g, 2, none⟩) (.inl rfl) _⟩
theorem Rd.stay {need : Nat} (hb : Blk w g 344 #[.slice A q.length c, .int .i64 (at_ : Int), .int .i64 8]) (hr : Reads w 1 A q.length (cells8 q)) (hnil : A = none → q.length = 0 ∧ c = 0) (hA : 0 < q.length → ∀ a, A = some a → a.block ≠ g) (hc : q.length ≤ c) (hat : at_ ≤ q.length) (hn : q.length < need) : Rd w g q A c need :=
 ⟨at_, 8, hb, hr, hnil, hA, hc, hat, fun h => absurd h (by omega), fun _ => rfl⟩
end
set_option maxRecDepth 100000 in
theorem refuse_first (g : Nat) (s : Value) (at_ : Int) (w : World) (hb : Blk w g 344 #[s, .int .i64 at_, .int .i64 0]) :
  Calls Tryz.prog 240 #[.pointer (some ⟨g, 0, none⟩), .int .i64 8] w fun e w' => e = .returned (.tuple #[]) ∧ w.setCell ⟨g, 2, none⟩ (.int .i64 8) = w' := by
 have g2 : w.cell? ⟨g, 2, none⟩ = some (.int .i64 0) := by rw [hb.cell 2]; rfl
 have gf := hb.frozen 2
 clear hb
 go_enter Tryz.func240, Tryz.ntmps240
 go_wp2_with fail
 go_end0
 exact ⟨rfl, rfl⟩

set_option maxRecDepth 100000 in
theorem left_any (q : Text) (hq : q.length < 140737488355328) (g : Nat) (A : Option Addr) (c at_ : Nat) (why : Int) (w : World) (hb : Blk w g 344 #[.slice A q.length c, .int .i64 (at_ : Int), .int .i64 why]) (hat : at_ ≤ q.length) :
  Calls Tryz.prog 241 #[.pointer (some ⟨g, 0, none⟩)] w fun e w' => e = .returned (.int .i64 ((q.length : Int) - (at_ : Int))) ∧ ∃ n, w' = w.drewN n := by
 have g0 : w.cell? ⟨g, 0, none⟩ = some (.slice A q.length c) := by rw [hb.cell 0]; rfl
 have g1 : w.cell? ⟨g, 1, none⟩ = some (.int .i64 (at_ : Int)) := by rw [hb.cell 1]; rfl
 have x1 : IntKind.i64.wrap ((q.length : Int) - (at_ : Int)) = (q.length : Int) - (at_ : Int) := IntWalk.i64_in _ (by omega)
 generalize q.length = n at *
 clear hb hq hat
 go_enter Tryz.func241, Tryz.ntmps241
 go_wp2_with fail
 go_quiet (fail)
 go_wp2_with fail
 go_ret
 exact ⟨rfl, _, rfl⟩

end Go.Proofs.YtgldkfaiofkhbaaGreatDoor.Reader2

namespace Go.Proofs.YtgldkfaiofkhbaaGreatDoor.Reader3
open Go Go.RowKit Go.Proofs.YtgldkfaiofkhbaaGreatDoor Mem Sha Bytes Go.Proofs.YtgldkfaiofkhbaaGreatDoor.Append Octet QuietTail Grown Reader Reader2

def Out (w w' : World) (A : Option Addr) (c : Nat) (p : Text) : Prop :=
 Reads w' 1 A p.length (cells8 p) ∧ (A = none → p.length = 0 ∧ c = 0) ∧ p.length ≤ c ∧ ∀ a, A = some a → w.heap.size ≤ a.block

theorem Reads.mid {w : World} {A : Option Addr} {c at_ n : Nat} {q : Text} (h : Reads w 1 A q.length (cells8 q)) (hn : at_ + n ≤ q.length) (hc : q.length ≤ c) : Reads w 1 (cutA A at_ c) n (cells8 ((q.drop at_).take n)) := by
 have h1 := Reads.cut h at_ (by omega) hc
 have e : (cells8 q).drop at_ = cells8 (q.drop at_) := by simp [cells8]
 rw [e] at h1
 have h2 : Reads w 1 (cutA A at_ c) (q.drop at_).length (cells8 (q.drop at_)) := by rw [List.length_drop]; exact h1
 exact Reads.front h2 n (by rw [List.length_drop]; omega)
theorem cutA_none {A : Option Addr} {at_ c : Nat} (h : cutA A at_ c = none) : A = none := by
 unfold cutA at h
 split at h
 ·exact h
 ·cases A with
  | none => rfl
  | some a => simp at h

set_option maxRecDepth 100000 in
set_option maxHeartbeats 1000000 in
theorem raw_any (q : Text) (hq : q.length < 140737488355328) (g need n : Nat) (hn63 : n < 140737488355328) (A : Option Addr) (c : Nat) (w : World) (h : Rd w g q A c need) :
  Calls Tryz.prog 174 #[.pointer (some ⟨g, 0, none⟩), .int .i64 (n : Int)] w fun e w' => ∃ A' c' p, e = .returned (.slice A' p.length c') ∧ (need + n ≤ q.length → p = (q.drop need).take n) ∧ (q.length < need + n → p = []) ∧ Out w w' A' c' p ∧ Rd w' g q A c (need + n) ∧ Kept (· = g) w w' := by
 obtain ⟨i0, hi, hz0, hz1, hz2⟩ := info_parts8 info8
 obtain ⟨at_, why, hb, hr, hnil, hA, hc, hat, hyes, hno⟩ := h
 have g0 : w.cell? ⟨g, 0, none⟩ = some (.slice A q.length c) := by rw [hb.cell 0]; rfl
 have g1 : w.cell? ⟨g, 1, none⟩ = some (.int .i64 (at_ : Int)) := by rw [hb.cell 1]; rfl
 have g2 : w.cell? ⟨g, 2, none⟩ = some (.int .i64 why) := by rw [hb.cell 2]; rfl
 have gf := hb.frozen 1
 have x0 : (0 : Int) ≤ (n : Int) := by omega
 have x1 : decide ((n : Int) < 0) = false := by simp
 have x2 : IntKind.i64.wrap ((q.length : Int) - (at_ : Int)) = (q.length : Int) - (at_ : Int) := IntWalk.i64_in _ (by omega)
 by_cases hn : need ≤ q.length
 ·obtain ⟨rfl, rfl⟩ := hyes hn
  by_cases h8 : at_ + n ≤ q.length
  ·have x3 : decide ((q.length : Int) - (at_ : Int) < (n : Int)) = false := by simp; omega
   have x5 : (at_ : Int) + (n : Int) ≤ 140737488355328 := by omega
   have x6 : IntKind.i64.wrap ((at_ : Int) + (n : Int) - (n : Int)) = (at_ : Int) := by rw [show (at_ : Int) + (n : Int) - (n : Int) = (at_ : Int) by omega]; exact IntWalk.i64_in _ (by omega)
   have x7 : (0 : Int) ≤ (at_ : Int) := by omega
   have x8 : IntKind.i64.wrap (at_ : Int) = (at_ : Int) := IntWalk.i64_in _ (by omega)
   replace x5 := Lib.hid x5
   have y5 : IntKind.i64.wrap ((at_ : Int) + (n : Int)) = (at_ : Int) + (n : Int) := IntWalk.i64_in _ (by omega)
   have X : ∀ w', (Instr.sliceAt 27 (.slice A q.length c) (some (.int .i64 (at_ : Int))) (some (.int .i64 ((at_ : Int) + (n : Int)))) none).run Tryz.prog w' = .ok (.slice (cutA A at_ c) n (c - at_)) w' := fun w' => by
    rw [run_mid (l := at_) (h := at_ + n) Tryz.underlying27 (fun _ => rfl) (by omega) (by omega) _ _ rfl (by omega) w']
    congr 2
    omega
   have hpl : Hid (((q.drop at_).take n).length = n) := by show _ = _; rw [List.length_take, List.length_drop]; omega
   have hcn : Hid (cutA A at_ c = none → n = 0 ∧ c - at_ = 0) := fun e => by have := hnil (cutA_none e); omega
   have hc1 : Hid (0 + n ≤ maxLen) := by show _ ≤ _; unfold maxLen; omega
   have hc2 : Hid ((0 + n) * 1 ≤ 140737488355328) := by show _ ≤ _; omega
   have hk := fun (w' : World) (hb : Blk w' g 344 #[.slice A q.length c, .int .i64 (at_ : Int), .int .i64 0]) (hr : Reads w' 1 A q.length (cells8 q)) => Rd.adv hb hr hnil hA hc h8
   have hm := fun (w' : World) (hr : Reads w' 1 A q.length (cells8 q)) => Reads.mid (Rd.reads_set hr hA 1 (.int .i64 ((at_ : Int) + (n : Int)))) h8 hc
   replace hk := Lib.hid hk
   replace hm := Lib.hid hm
   replace hb := Lib.hid hb
   replace hr := Lib.hid hr
   clear hyes hno
   go_enter Tryz.func174, Tryz.ntmps174
   go_wp2_with fail
   go_quiet (fail)
   have hK0 : Hid (Kept (· = g) w (w.drewN nq)) := (Kept.refl _ w).drewN nq
   have hb' : Hid (Blk (w.drewN nq) g 344 #[.slice A q.length c, .int .i64 (at_ : Int), .int .i64 0]) := hb.out
   have hr' : Hid (Reads (w.drewN nq) 1 A q.length (cells8 q)) := hr.out
   generalize w.drewN nq = w2 at *
   clear g0 g1 g2 gf
   have g1 : w2.cell? ⟨g, 1, none⟩ = some (.int .i64 (at_ : Int)) := by rw [Blk.cell hb'.out 1]; rfl
   have gf := Blk.frozen hb'.out 1
   have hF := Lib.hid (hk.out w2 hb'.out hr'.out)
   have hR : Hid (Reads (w2.setCell ⟨g, 1, none⟩ (.int .i64 ((at_ : Int) + (n : Int)))) 1 (cutA A at_ c) n (cells8 ((q.drop at_).take n))) := hm.out w2 hr'.out
   have hB2 : Hid (Blk (w2.setCell ⟨g, 1, none⟩ (.int .i64 ((at_ : Int) + (n : Int)))) g 344 #[.slice A q.length c, .int .i64 ((at_ : Int) + (n : Int)), .int .i64 0]) := by show Blk _ _ _ _; have := Blk.set_ hb'.out 1 (.int .i64 ((at_ : Int) + (n : Int))); simpa using this
   go_wp2_with fail
   clear g1 gf
   generalize w2.setCell ⟨g, 1, none⟩ (.int .i64 ((at_ : Int) + (n : Int))) = w3 at *
   have k0 : w3.cell? ⟨g, 0, none⟩ = some (.slice A q.length c) := by rw [Blk.cell hB2.out 0]; rfl
   have k1 : w3.cell? ⟨g, 1, none⟩ = some (.int .i64 ((at_ : Int) + (n : Int))) := by rw [Blk.cell hB2.out 1]; rfl
   refine wp_region_quiet_tail 15 (by kernel_rfl) (by kernel_rfl) ?_
   repeat (quiet_step (fail))
   refine wpQuiet_nil ?_
   intro _ hw'
   obtain ⟨nr, hw''⟩ := hw'
   subst hw''
   simp only [List.drop]
   have hs3 : Hid (w.heap.size ≤ (w3.drewN nr).heap.size) := Nat.le_trans hK0.out.size hF.out.2.size
   go_wp2_with (at_builtin; refine wpList_append_src (w3.drewN nr) rfl (.const (.slice none 0 0)) (.tmp 50) 27 rfl w.heap.size 5 i0 (.int .u8 0) 1 1 Tryz.underlying27 hi hz0 hz1 hz2 rfl (by decide) (.slice none 0 0) 0 [] rfl (World.ownsRow_nil _ _ _ _) (cutA A at_ c) n (c - at_) (cells8 ((q.drop at_).take n)) rfl (hR.out.drewN nr) hcn.out (cells8_one _) hc1.out hc2.out hs3.out ?_; intro v1 W hG; have hO := hG.own; rw [Nat.zero_add, List.nil_append] at hO; obtain ⟨A1, c1, rfl, hn1, _, hnil1, hr1, hat1⟩ := Own.reads hO; have hbW : Hid (Below w3.heap.size w3 W) := (below_drawn (Below.refl _ w3) nr).grown hG.grow (Nat.le_refl _) (fun k e => by cases e); clear hG hO; replace hr1 := Lib.hid hr1; replace hnil1 := Lib.hid hnil1; replace hn1 := Lib.hid hn1; replace hat1 := Lib.hid hat1)
   go_ret
   refine ⟨A1, c1, (q.drop at_).take n, by rw [hpl.out]; rfl, fun _ => rfl, fun h => absurd h (by omega), ⟨by rw [hpl.out]; exact hr1.out, by rw [hpl.out]; exact hnil1.out, by rw [hpl.out]; exact hn1.out, fun a e => (hat1.out a e).1⟩, hF.out.1.below hbW.out, ?_⟩
   exact (hK0.out.trans hF.out.2 (fun _ _ h => h)).trans (Kept.of_below (S := (· = g)) hbW.out) (fun _ _ h => h)
  ·have x3 : decide ((q.length : Int) - (at_ : Int) < (n : Int)) = true := by simp; omega
   have hk := fun (w' : World) (hb : Blk w' g 344 #[.slice A q.length c, .int .i64 (at_ : Int), .int .i64 0]) (hr : Reads w' 1 A q.length (cells8 q)) => Rd.fail hb hr hnil hA hc hat (show q.length < at_ + n by omega)
   replace hk := Lib.hid hk
   replace hb := Lib.hid hb
   replace hr := Lib.hid hr
   clear hyes hno
   go_enter Tryz.func174, Tryz.ntmps174
   go_wp2_with fail
   go_quiet (fail)
   have hK0 : Hid (Kept (· = g) w (w.drewN nq)) := (Kept.refl _ w).drewN nq
   have hb' : Hid (Blk (w.drewN nq) g 344 #[.slice A q.length c, .int .i64 (at_ : Int), .int .i64 0]) := hb.out
   have hr' : Hid (Reads (w.drewN nq) 1 A q.length (cells8 q)) := hr.out
   generalize w.drewN nq = w2 at *
   have R := Lib.hid (refuse_first g _ _ w2 hb'.out)
   have hF := Lib.hid (hk.out w2 hb'.out hr'.out)
   clear g0 g1 g2 gf
   go_wp2_with (go_at_call 240; refine Calls.mono R.out ?_; rintro e w' ⟨rfl, rfl⟩)
   go_ret
   exact ⟨none, 0, [], rfl, fun h => absurd h (by omega), fun _ => rfl, ⟨Reads.nil_ _ _ _, fun _ => ⟨rfl, rfl⟩, Nat.le_refl _, fun _ e => by cases e⟩, hF.out.1, hK0.out.trans hF.out.2 (fun _ _ h => h)⟩
 ·obtain rfl := hno (by omega)
  have hF := Lib.hid (Rd.stay hb hr hnil hA hc hat (show q.length < need + n by omega))
  clear hb hyes hno
  go_enter Tryz.func174, Tryz.ntmps174
  go_wp2_with fail
  go_ret
  exact ⟨none, 0, [], rfl, fun h => absurd h (by omega), fun _ => rfl, ⟨Reads.nil_ _ _ _, fun _ => ⟨rfl, rfl⟩, Nat.le_refl _, fun _ e => by cases e⟩, hF.out, Kept.refl _ w⟩

theorem _root_.Go.Proofs.YtgldkfaiofkhbaaGreatDoor.Reader.Rd.keptOff {S : Nat → Prop} {w w' : World} {g need c : Nat} {q : Text} {A : Option Addr} (h : Rd w g q A c need) (hk : Kept S w w') (hg : ¬ S g) (hS : 0 < q.length → ∀ a, A = some a → ¬ S a.block) : Rd w' g q A c need := by
 obtain ⟨at_, why, hb, hr, h1⟩ := h
 exact ⟨at_, why, hb.kept hk hg, hr.kept0 hk (fun hp b o e => hS (by omega) _ e), h1⟩
theorem _root_.Go.Proofs.YtgldkfaiofkhbaaGreatDoor.Reader.Rd.old {w : World} {g need c : Nat} {q : Text} {A : Option Addr} (h : Rd w g q A c need) : 0 < q.length → ∀ a, A = some a → a.block < w.heap.size := by
 obtain ⟨_, _, _, hr, _⟩ := h
 intro hp a e
 obtain ⟨b, o, e', hlt, _⟩ := hr.2 (by omega)
 rw [e] at e'
 injection e' with e'
 subst e'
 exact hlt
theorem dig_size (x : Text) (hx : x.length = 32) : (Tryz.prog.info? 23).map (·.size) = some (cells8 x).toArray.size := size31.trans (congrArg some (by simp [cells8_len, hx]))
theorem dig_one (x : Text) : (cells8 x).toArray.all (fun v => v.oneCell') = true := by rw [List.all_toArray]; exact List.all_eq_true.2 (cells8_one x)
end Go.Proofs.YtgldkfaiofkhbaaGreatDoor.Reader3

namespace Go.Proofs.YtgldkfaiofkhbaaGreatDoor.HeadTake
open Go Go.RowKit Go.Proofs.YtgldkfaiofkhbaaGreatDoor Mem Sha Bytes Go.Proofs.YtgldkfaiofkhbaaGreatDoor.Append Octet QuietTail Grown Reader Reader2 Reader3 HeadMem

def Z98 : Array Value := #[Value.int IntKind.u8 0, Value.int IntKind.u8 0, Value.int IntKind.u8 0, Value.int IntKind.u8 0, Value.int IntKind.u8 0, Value.int IntKind.u8 0, Value.int IntKind.u8 0, Value.int IntKind.u8 0, Value.int IntKind.u8 0, Value.int IntKind.u8 0, Value.int IntKind.u8 0, Value.int IntKind.u8 0, Value.int IntKind.u8 0, Value.int IntKind.u8 0, Value.int IntKind.u8 0, Value.int IntKind.u8 0, Value.int IntKind.u8 0, Value.int IntKind.u8 0, Value.int IntKind.u8 0, Value.int IntKind.u8 0, Value.int IntKind.u8 0, Value.int IntKind.u8 0, Value.int IntKind.u8 0, Value.int IntKind.u8 0, Value.int IntKind.u8 0, Value.int IntKind.u8 0, Value.int IntKind.u8 0, Value.int IntKind.u8 0, Value.int IntKind.u8 0, Value.int IntKind.u8 0, Value.int IntKind.u8 0, Value.int IntKind.u8 0, Value.int IntKind.i64 0, Value.int IntKind.u8 0, Value.int IntKind.u8 0, Value.int IntKind.u8 0, Value.int IntKind.u8 0, Value.int IntKind.u8 0, Value.int IntKind.u8 0, Value.int IntKind.u8 0, Value.int IntKind.u8 0, Value.int IntKind.u8 0, Value.int IntKind.u8 0, Value.int IntKind.u8 0, Value.int IntKind.u8 0, Value.int IntKind.u8 0, Value.int IntKind.u8 0, Value.int IntKind.u8 0, Value.int IntKind.u8 0, Value.int IntKind.u8 0, Value.int IntKind.u8 0, Value.int IntKind.u8 0, Value.int IntKind.u8 0, Value.int IntKind.u8 0, Value.int IntKind.u8 0, Value.int IntKind.u8 0, Value.int IntKind.u8 0, Value.int IntKind.u8 0, Value.int IntKind.u8 0, Value.int IntKind.u8 0, Value.int IntKind.u8 0, Value.int IntKind.u8 0, Value.int IntKind.u8 0, Value.int IntKind.u8 0, Value.int IntKind.u8 0, Value.int IntKind.u8 0, Value.int IntKind.u8 0, Value.int IntKind.u8 0, Value.int IntKind.u8 0, Value.int IntKind.u8 0, Value.int IntKind.u8 0, Value.int IntKind.u8 0, Value.int IntKind.u8 0, Value.int IntKind.u8 0, Value.int IntKind.u8 0, Value.int IntKind.u8 0, Value.int IntKind.u8 0, Value.int IntKind.u8 0, Value.int IntKind.u8 0, Value.int IntKind.u8 0, Value.int IntKind.u8 0, Value.int IntKind.u8 0, Value.int IntKind.u8 0, Value.int IntKind.u8 0, Value.int IntKind.u8 0, Value.int IntKind.u8 0, Value.int IntKind.u8 0, Value.int IntKind.u8 0, Value.int IntKind.u8 0, Value.int IntKind.u8 0, Value.int IntKind.u8 0, Value.int IntKind.u8 0, Value.int IntKind.u8 0, Value.int IntKind.u8 0, Value.int IntKind.u8 0, Value.int IntKind.u8 0, Value.int IntKind.u8 0, Value.int IntKind.i64 0]
theorem z98_size : Z98.size = 98 := by kernel_rfl
def filled (l r i : Text) : Array Value := (splice (splice (splice Z98.toList 0 (cells8 l)) 33 (cells8 r)) 65 (cells8 i)).toArray
def okH (q : Text) : Bool := decide (q.getD 0 0 = 32) && decide (num ((q.drop 33).take 8) ≤ 1099511627776) && decide (num ((q.drop 105).take 8) ≤ 4611686018427387904)
structure TkSt (w0 w : World) (g n m : Nat) (q : Text) (A : Option Addr) (c need : Nat) (cs : Array Value) : Prop where
 rd : Rd w g q A c need
 res : Blk w n 36 Z98
 head : Blk w m 36 cs
 kept : Kept (· = g) w0 w
 hn : w0.heap.size ≤ n
 hm : w0.heap.size ≤ m
 ne : n ≠ m
 hg : g < w0.heap.size
 old : 0 < q.length → ∀ a, A = some a → a.block < w0.heap.size
section
variable {w0 w w' : World} {g n m c need need' : Nat} {q : Text} {A : Option Addr} {cs cs' : Array Value}
theorem TkSt.call (h : TkSt w0 w g n m q A c need cs) (hr : Rd w' g q A c need') (hk : Kept (· = g) w w') : TkSt w0 w' g n m q A c need' cs :=
 ⟨hr, h.res.kept hk (by have := h.hn; have := h.hg; omega), h.head.kept hk (by have := h.hm; have := h.hg; omega), h.kept.trans hk (fun _ _ x => x), h.hn, h.hm, h.ne, h.hg, h.old⟩
theorem TkSt.store (h : TkSt w0 w g n m q A c need cs) (hb : Blk w' m 36 cs') (hk : Kept (· = m) w w') : TkSt w0 w' g n m q A c need cs' :=
 ⟨h.rd.keptOff hk (by have := h.hm; have := h.hg; omega) (fun h0 a ea e => by have := h.old h0 a ea; have := h.hm; omega), h.res.kept hk h.ne, hb, h.kept.trans hk (fun i h1 h2 => by have := h.hm; omega), h.hn, h.hm, h.ne, h.hg, h.old⟩
theorem TkSt.set_ (h : TkSt w0 w g n m q A c need cs) (i : Nat) (u : Value) : TkSt w0 (w.setCell ⟨m, i, none⟩ u) g n m q A c need (cs.setIfInBounds i u) :=
 h.store (h.head.set_ i u) ((Kept.refl (· = m) w).setCell (p := ⟨m, i, none⟩) (.inl rfl) u)
theorem TkSt.begin (hR : Rd w g q A c need) (hg : g < w0.heap.size) (ho : 0 < q.length → ∀ a, A = some a → a.block < w0.heap.size) (hk : Kept (· = g) w0 w) (hn : w0.heap.size ≤ n) (hr : Blk w n 36 Z98) : TkSt w0 (w.alloc (.cells Z98 36)) g n w.heap.size q A c need Z98 :=
 ⟨hR.alloc _, hr.alloc _, Blk.new _ _ _, hk.alloc _, hn, hk.size, by have := hr.lt; omega, hg, ho⟩
end
end Go.Proofs.YtgldkfaiofkhbaaGreatDoor.HeadTake

namespace Go.Proofs.YtgldkfaiofkhbaaGreatDoor.HeadTake2
open Go Go.RowKit Go.Proofs.YtgldkfaiofkhbaaGreatDoor Mem Sha Bytes Go.Proofs.YtgldkfaiofkhbaaGreatDoor.Append Octet QuietTail Grown Reader Reader2 Reader3 HeadMem HeadTake

theorem results_cell_row2 {P : Program} {fn : Func} {p u : Tmp} {ty : TypeId} (h : fn.results = #[.cell p ty, .tmp u]) (tmps : Array Value) (w : World) (g : Nat) (t : TypeId) (cs : Array Value) (fr : Nat × Nat) (d : TypeDesc)
  (hp : tmps.getD p undef = .pointer (some ⟨g, 0, none⟩)) (hg : w.heap[g]? = some (.cells cs t fr))
  (hu : P.underlying ty = some d) (hd : (match d with | .struct _ | .array _ _ => true | _ => false) = true) (hi : (P.info? ty).map (·.size) = some cs.size) :
  (results fn tmps).run P w = .ok (.tuple #[.agg cs, tmps.getD u undef]) w := by
 have hp' : tmps[p]?.getD undef = .pointer (some ⟨g, 0, none⟩) := by simpa using hp
 simp [results, h, hp', asAddr, run_loadVar_row w g t ty cs fr d hg hu hd hi, Result.andThen]

end Go.Proofs.YtgldkfaiofkhbaaGreatDoor.HeadTake2

namespace Go.Proofs.YtgldkfaiofkhbaaGreatDoor.NoteP
open Go Go.RowKit Go.Proofs.YtgldkfaiofkhbaaGreatDoor Mem Sha Bytes HeadMem HeadTake HeadTake2 SortP

def kyS (t : Text) : Text := t.take 32
def noteB (h : HeadD) (r : List Text) : Text := 33 :: (headBytes h ++ (BitVec.ofNat 8 r.length :: r.flatten))
def noteAns (h : HeadD) (ss : List Text) : Option Text × Int :=
 if rightB h = false then (none, 1) else if ss.length = 0 ∨ 16 < ss.length then (none, 7) else match rising kyS ss with
  | none => (none, 92)
  | some r => (some (noteB h r), 0)
theorem flatten_len : ∀ {r : List Text}, (∀ t ∈ r, t.length = 64) → r.flatten.length = 64 * r.length
 | [], _ => rfl
 | t :: r, h => by
  rw [List.flatten_cons, List.length_append, h t (by simp), flatten_len (fun t ht => h t (by simp [ht])), List.length_cons]
  omega
theorem noteB_len {h : HeadD} (ok : h.Ok) {r : List Text} (hr : ∀ t ∈ r, t.length = 64) : (noteB h r).length = 115 + 64 * r.length := by
 unfold noteB
 rw [List.length_cons, List.length_append, headBytes_len ok, List.length_cons, flatten_len hr]
 omega
theorem rise_drop {l : List Text} {i : Nat} {a b : Text} (ha : l[i]? = some a) (hb : l[i + 1]? = some b) : riseB (ky := kyS) (l.drop i) = (lex (kyS a) (kyS b) && riseB (ky := kyS) (l.drop (i + 1))) := by
 obtain ⟨h1, rfl⟩ := List.getElem?_eq_some_iff.1 ha
 obtain ⟨h2, rfl⟩ := List.getElem?_eq_some_iff.1 hb
 rw [List.drop_eq_getElem_cons h1, List.drop_eq_getElem_cons h2]
 rfl
theorem rise_last {l : List Text} {i : Nat} (h : l.length ≤ i + 1) : riseB (ky := kyS) (l.drop i) = true := by
 have hl : (l.drop i).length ≤ 1 := by rw [List.length_drop]; omega
 match hd : l.drop i, hl with
 | [], _ => rfl
 | [a], _ => rfl
 | a :: b :: r, hl => simp at hl
end Go.Proofs.YtgldkfaiofkhbaaGreatDoor.NoteP

namespace Go.Proofs.YtgldkfaiofkhbaaGreatDoor.Decode
open Go Go.RowKit Go.Proofs.YtgldkfaiofkhbaaGreatDoor Mem Sha Bytes Go.Proofs.YtgldkfaiofkhbaaGreatDoor.Append Octet QuietTail Grown Reader Reader2 Reader3 HeadMem HeadTake HeadTake2

theorem wpList_store_all {P : Program} {ops : Array Oper} {rest : List Oper} {o : Oper} {a : Act} {w : World} {Q : Exit → Act → World → Prop} (hgd : o.guard = none) (ty : TypeId) (x y : Operand) (ho : o.op = .store ty x y)
  (g : Nat) (cells : Array Value) (hx : a.eval x = .pointer (some ⟨g, 0, none⟩)) (hy : a.eval y = .agg cells)
  (t : TypeId) (old : Array Value) (hg : Blk w g t old) (hi : (P.info? ty).map (·.size) = some cells.size)
  (hold : old.size = cells.size) (h1 : cells.all (·.oneCell') = true)
  (h : ∀ w', Hid (Blk w' g t cells) → Kept (· = g) w w' → wpList P ops Q rest (a.put o.dst undef) w') : wpList P ops Q (o :: rest) a w :=
 wpList_store_row hgd ty x y ho g cells hx hy t old hg hi hold h1 (h _ (setRow_heap _ _ _ _ _ _ hg) (Bytes.Kept.setRow (S := (· = g)) (Kept.refl _ w) rfl _))

structure Dec (w0 w : World) (g : Nat) (q : Text) (A : Option Addr) (c need : Nat) : Prop where
 rd : Rd w g q A c need
 res : Blk w w0.heap.size 36 Z98
 below : Below w0.heap.size w0 w
 hg : w0.heap.size < g
section
variable {w0 w w' : World} {g c need need' : Nat} {q : Text} {A : Option Addr}
theorem Dec.call (h : Dec w0 w g q A c need) (hr : Rd w' g q A c need') (hk : Kept (· = g) w w') : Dec w0 w' g q A c need' :=
 ⟨hr, h.res.kept hk (by have := h.hg; omega), h.below.trans (Kept.below_of hk (by have := h.hg; omega) h.below.size), h.hg⟩
theorem Dec.far (h : Dec w0 w g q A c need) (hk : Below w.heap.size w w') : Dec w0 w' g q A c need :=
 ⟨h.rd.below hk, h.res.kept (S := fun _ => False) (Kept.of_below hk) (fun x => x), h.below.trans (hk.mono h.below.size), h.hg⟩
end
theorem below_new {w w' : World} {o : Obj} (hk : Kept (· = w.heap.size) (w.alloc o) w') : Below w.heap.size w w' :=
 (Below.heap_below w o).trans (Kept.below_of hk (Nat.le_refl _) (by simp))

end Go.Proofs.YtgldkfaiofkhbaaGreatDoor.Decode

namespace Go.Proofs.YtgldkfaiofkhbaaGreatDoor.High
open Go Go.RowKit Go.Proofs.YtgldkfaiofkhbaaGreatDoor Mem Sha Bytes Go.Proofs.YtgldkfaiofkhbaaGreatDoor.Append Octet QuietTail Grown Reader Reader2 Reader3 HeadMem HeadTake HeadTake2 Decode

end Go.Proofs.YtgldkfaiofkhbaaGreatDoor.High

namespace Go.Proofs.YtgldkfaiofkhbaaGreatDoor.ReadHead
open Go Go.RowKit Go.Proofs.YtgldkfaiofkhbaaGreatDoor Mem Sha Bytes Go.Proofs.YtgldkfaiofkhbaaGreatDoor.Append Octet QuietTail Grown Reader Reader2 Reader3 HeadMem HeadTake HeadTake2 Decode High

structure Rs (w0 w : World) (cs : Array Value) : Prop where
 res : Blk w w0.heap.size 36 Z98
 head : Blk w (w0.heap.size + 1) 36 cs
 below : Below w0.heap.size w0 w
section
variable {w0 w w' : World} {cs cs' : Array Value}
theorem Rs.store (h : Rs w0 w cs) (hb : Blk w' (w0.heap.size + 1) 36 cs') (hk : Kept (· = w0.heap.size + 1) w w') : Rs w0 w' cs' :=
 ⟨h.res.kept hk (by omega), hb, h.below.trans (Kept.below_of hk (Nat.le_succ _) h.below.size)⟩
theorem Rs.drewN (h : Rs w0 w cs) (n : Nat) : Rs w0 (w.drewN n) cs := ⟨h.res, h.head, below_drawn h.below n⟩
theorem Rs.set_ (h : Rs w0 w cs) (i : Nat) (u : Value) : Rs w0 (w.setCell ⟨w0.heap.size + 1, i, none⟩ u) (cs.setIfInBounds i u) :=
 h.store (h.head.set_ i u) ((Kept.refl (· = w0.heap.size + 1) w).setCell (p := ⟨w0.heap.size + 1, i, none⟩) (.inl rfl) u)
theorem Rs.new (w : World) : Rs w ((w.alloc (.cells Z98 36)).alloc (.cells Z98 36)) Z98 := by
 have e : (w.alloc (.cells Z98 36)).heap.size = w.heap.size + 1 := by simp
 have hN := Blk.new (w.alloc (.cells Z98 36)) 36 Z98
 rw [e] at hN
 exact ⟨(Blk.new w _ _).alloc _, hN, (Below.heap_below w _).alloc (by rw [e]; omega) _⟩
end

end Go.Proofs.YtgldkfaiofkhbaaGreatDoor.ReadHead

namespace Go.Proofs.YtgldkfaiofkhbaaGreatDoor.HeadEq
open Go Go.RowKit Go.Proofs.YtgldkfaiofkhbaaGreatDoor Mem Sha Bytes HeadMem HeadTake

theorem part8 (cs : Array Value) (i : Nat) (v : Value) (hv : cs[i]? = some v) (w : World) : (part 5 cs i).run Tryz.prog w = .ok v w := by
 have hg := run_isAgg_int (P := Tryz.prog) Tryz.underlying5 w
 simp [part, hg, hv, Result.andThen]
theorem part64 (cs : Array Value) (i : Nat) (v : Value) (hv : cs[i]? = some v) (w : World) : (part 3 cs i).run Tryz.prog w = .ok v w := by
 have hg := run_isAgg_int (P := Tryz.prog) Tryz.underlying3 w
 simp [part, hg, hv, Result.andThen]
theorem part_dig (cs : List Value) (off : Nat) (x : Text) (hx : x.length = 32) (hc : ∀ j v, (cells8 x)[j]? = some v → cs[off + j]? = some v) (w : World) : (part 23 cs.toArray off).run Tryz.prog w = .ok (.agg (cells8 x).toArray) w := by
 have hagg : (isAgg 23).run Tryz.prog w = .ok true w := by
  unfold isAgg
  rw [Sem.run_bind, run_underlying Tryz.underlying23 w]
  rfl
 have hs : (sizeOf 23).run Tryz.prog w = .ok 32 w := by
  have h31 := size31
  cases hq : Tryz.prog.info? 23 with
  | none => simp [hq] at h31
  | some i =>
   have hi : i.size = 32 := by simpa [hq] using h31
   simp [sizeOf, typeInfo, hq, hi]
 have he : cs.toArray.extract off (off + 32) = (cells8 x).toArray := by
  apply Array.ext_getElem?
  intro j
  rw [Array.getElem?_extract, List.getElem?_toArray]
  by_cases hj : j < 32
  ·have h1 : (cells8 x)[j]? = some _ := List.getElem?_eq_getElem (by rw [cells8_len]; omega)
   have h2 := hc j _ h1
   have h3 := (List.getElem?_eq_some_iff.1 h2).1
   rw [List.getElem?_toArray, h1, h2, if_pos (by simp; omega)]
  ·rw [if_neg (by simp; omega), List.getElem?_toArray, List.getElem?_eq_none (by rw [cells8_len]; omega)]
 simp only [part, Sem.run_bind, hagg, Result.andThen_ok, if_true, hs, Sem.run_pure, he]
end Go.Proofs.YtgldkfaiofkhbaaGreatDoor.HeadEq

namespace Go.Proofs.YtgldkfaiofkhbaaGreatDoor.HeadCmp
open Go Go.RowKit Go.Proofs.YtgldkfaiofkhbaaGreatDoor Mem Sha Bytes HeadMem DigEq

def headB (a b : HeadD) : Bool := decide (a.log = b.log) && ((a.size == b.size) && (decide (a.root = b.root) && (decide (a.index = b.index) && ((a.clock == b.clock) && true))))
theorem headB_yes {a b : HeadD} (h : headB a b = true) : a = b := by
 obtain ⟨l, s, r, i, c⟩ := a
 obtain ⟨l', s', r', i', c'⟩ := b
 simpa [headB] using h
theorem headB_refl (a : HeadD) : headB a a = true := by simp [headB]
theorem step_gen {P : Program} {w : World} (dd : Nat) (cs cs' : Array Value) (f : Field) (rest : List Field) (a b : Value) (r r2 : Bool) (hn : f.name ≠ "_") (hp : (part f.type cs f.offset).run P w = .ok a w) (hp' : (part f.type cs' f.offset).run P w = .ok b w) (he : (Op.equalIn dd f.type a b).run P w = .ok r w)
  (hr : (Op.eqFields dd cs cs' rest).run P w = .ok r2 w) : (Op.eqFields dd cs cs' (f :: rest)).run P w = .ok (r && r2) w := by
 simp only [Op.eqFields, hn, ne_eq, not_false_eq_true, if_true, Sem.run_bind, hp, hp', he, Result.andThen_ok]
 cases r
 ·simp
 ·simpa using hr
theorem fields_head (d : Nat) (a b : HeadD) (oka : a.Ok) (okb : b.Ok) (w : World) : (Op.eqFields (d + 2) (headCells a).toArray (headCells b).toArray (Tryz.prog.fieldsOf 36).toList).run Tryz.prog w = .ok (headB a b) w := by
 have a2 := HeadEq.part64 (headCells a).toArray 32 _ (by rw [List.getElem?_toArray]; exact headCells_size oka) w
 have a5 := HeadEq.part64 (headCells a).toArray 97 _ (by rw [List.getElem?_toArray]; exact headCells_clock oka) w
 have a1 := HeadEq.part_dig (headCells a) 0 a.log oka.log (fun j v hv => headCells_log j v hv) w
 have a3 := HeadEq.part_dig (headCells a) 33 a.root oka.root (fun j v hv => headCells_root oka j v hv) w
 have a4 := HeadEq.part_dig (headCells a) 65 a.index oka.index (fun j v hv => headCells_index oka j v hv) w
 have b2 := HeadEq.part64 (headCells b).toArray 32 _ (by rw [List.getElem?_toArray]; exact headCells_size okb) w
 have b5 := HeadEq.part64 (headCells b).toArray 97 _ (by rw [List.getElem?_toArray]; exact headCells_clock okb) w
 have b1 := HeadEq.part_dig (headCells b) 0 b.log okb.log (fun j v hv => headCells_log j v hv) w
 have b3 := HeadEq.part_dig (headCells b) 33 b.root okb.root (fun j v hv => headCells_root okb j v hv) w
 have b4 := HeadEq.part_dig (headCells b) 65 b.index okb.index (fun j v hv => headCells_index okb j v hv) w
 have d1 := SignEq.equal_d d a.log b.log oka.log okb.log w
 have d3 := SignEq.equal_d d a.root b.root oka.root okb.root w
 have d4 := SignEq.equal_d d a.index b.index oka.index okb.index w
 have i2 : (Op.equalIn (d + 2) 3 (.int .i64 a.size) (.int .i64 b.size)).run Tryz.prog w = .ok (a.size == b.size) w := run_equalIn_int w (d + 1) _ .i64 .i64 _ _ Tryz.underlying3
 have i5 : (Op.equalIn (d + 2) 3 (.int .i64 a.clock) (.int .i64 b.clock)).run Tryz.prog w = .ok (a.clock == b.clock) w := run_equalIn_int w (d + 1) _ .i64 .i64 _ _ Tryz.underlying3
 unfold headB
 generalize headCells a = cs at *
 generalize headCells b = ds at *
 unfold Program.fieldsOf
 rw [Tryz.underlying36]
 change (Op.eqFields (d + 2) cs.toArray ds.toArray (_ :: _ :: _ :: _ :: _ :: [])).run Tryz.prog w = _
 refine step_gen _ _ _ _ _ _ _ _ _ (by decide) a1 b1 d1 ?_
 refine step_gen _ _ _ _ _ _ _ _ _ (by decide) a2 b2 i2 ?_
 refine step_gen _ _ _ _ _ _ _ _ _ (by decide) a3 b3 d3 ?_
 refine step_gen _ _ _ _ _ _ _ _ _ (by decide) a4 b4 d4 ?_
 exact step_gen _ _ _ _ _ _ _ _ _ (by decide) a5 b5 i5 rfl
theorem equal_head2 (d : Nat) (a b : HeadD) (oka : a.Ok) (okb : b.Ok) (w : World) : (Op.equalIn (d + 2 + 1) 36 (.agg (headCells a).toArray) (.agg (headCells b).toArray)).run Tryz.prog w = .ok (headB a b) w := by
 have hu : Tryz.prog.underlying 36 = some (.struct (Tryz.prog.fieldsOf 36)) := by unfold Program.fieldsOf; rw [Tryz.underlying36]
 have hp : Tryz.prog.stoodInHeld 36 = false := by kernel_rfl
 rw [run_equalIn_agg w (d + 2) _ _ _ hu hp]
 exact fields_head d a b oka okb w
theorem eql_head2 (a b : HeadD) (oka : a.Ok) (okb : b.Ok) (w : World) : (binOp .eql 36 (.agg (headCells a).toArray) (.agg (headCells b).toArray)).run Tryz.prog w = .ok (.bool (headB a b)) w := by
 have e := equal_head2 9997 a b oka okb w
 rw [run_eql_struct w, e]
 rfl
theorem neq_head2 (a b : HeadD) (oka : a.Ok) (okb : b.Ok) (w : World) : (binOp .neq 36 (.agg (headCells a).toArray) (.agg (headCells b).toArray)).run Tryz.prog w = .ok (.bool (!headB a b)) w := by
 have e := equal_head2 9997 a b oka okb w
 rw [run_neq_struct w, e]
 rfl
end Go.Proofs.YtgldkfaiofkhbaaGreatDoor.HeadCmp
