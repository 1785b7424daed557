/-
  octet's Reader, walked: Raw, Digest.
-/
import Derived.Test.YtngieimjlkpkaaaReader2
namespace Go.Proofs.Ytngieimjlkpkaaa.Reader3
open Go Go.RowKit Go.Proofs.Ytngieimjlkpkaaa Go.Proofs.Ytngieimjlkpkaaa.Mem Go.Proofs.Ytngieimjlkpkaaa.Sha Go.Proofs.Ytngieimjlkpkaaa.Bytes Go.Proofs.Ytngieimjlkpkaaa.Append Go.Proofs.Ytngieimjlkpkaaa.Octet Go.Proofs.Ytngieimjlkpkaaa.QuietTail Go.Proofs.Ytngieimjlkpkaaa.Grown Go.Proofs.Ytngieimjlkpkaaa.Reader Go.Proofs.Ytngieimjlkpkaaa.Reader2

/-- What Raw hands out: bytes in memory of their own. -/
def Out (w w' : World) (A : Option Addr) (c : Nat) (p : Text) : Prop :=
  Reads w' 1 A p.length (cells8 p) ∧ (A = none → p.length = 0 ∧ c = 0) ∧ p.length ≤ c ∧ ∀ a, A = some a → w.heap.size ≤ a.block

theorem Reads.mid {w : World} {A : Option Addr} {c at_ n : Nat} {q : Text} (h : Reads w 1 A q.length (cells8 q)) (hn : at_ + n ≤ q.length) (hc : q.length ≤ c) : Reads w 1 (cutA A at_ c) n (cells8 ((q.drop at_).take n)) := by
  have h1 := Reads.cut h at_ (by omega) hc
  have e : (cells8 q).drop at_ = cells8 (q.drop at_) := by simp [cells8]
  rw [e] at h1
  have h2 : Reads w 1 (cutA A at_ c) (q.drop at_).length (cells8 (q.drop at_)) := by rw [List.length_drop]; exact h1
  exact Reads.front h2 n (by rw [List.length_drop]; omega)
theorem cutA_some {A : Option Addr} {at_ c : Nat} {m : Nat} (h : cutA A at_ c = none → False ∨ A = none) (hA : A = none → m = 0 ∧ c = 0) : cutA A at_ c = none → m = 0 ∧ c = 0 := fun e => by
  rcases h e with h | h
  · exact h.elim
  · exact hA h
theorem cutA_none {A : Option Addr} {at_ c : Nat} (h : cutA A at_ c = none) : A = none := by
  unfold cutA at h
  split at h
  · exact h
  · cases A with
    | none => rfl
    | some a => simp at h

set_option maxRecDepth 100000 in
set_option maxHeartbeats 1000000 in
theorem raw_any (q : Text) (hq : q.length < 140737488355328) (g need n : Nat) (hn63 : n < 140737488355328) (A : Option Addr) (c : Nat) (w : World) (h : Rd w g q A c need) :
    Calls Try.prog 76 #[.pointer (some ⟨g, 0, none⟩), .int .i64 (n : Int)] w fun e w' => ∃ A' c' p, e = .returned (.slice A' p.length c') ∧ (need + n ≤ q.length → p = (q.drop need).take n) ∧ (q.length < need + n → p = []) ∧ Out w w' A' c' p ∧ Rd w' g q A c (need + n) ∧ Kept (· = g) w w' := by
  obtain ⟨i0, hi, hz0, hz1, hz2⟩ := info_parts8 info8
  obtain ⟨at_, why, hb, hr, hnil, hA, hc, hat, hyes, hno⟩ := h
  have g0 : w.cell? ⟨g, 0, none⟩ = some (.slice A q.length c) := by rw [hb.cell 0]; rfl
  have g1 : w.cell? ⟨g, 1, none⟩ = some (.int .i64 (at_ : Int)) := by rw [hb.cell 1]; rfl
  have g2 : w.cell? ⟨g, 2, none⟩ = some (.int .i64 why) := by rw [hb.cell 2]; rfl
  have gf := hb.frozen 1
  have x0 : (0 : Int) ≤ (n : Int) := by omega
  have x1 : decide ((n : Int) < 0) = false := by simp
  have x2 : IntKind.i64.wrap ((q.length : Int) - (at_ : Int)) = (q.length : Int) - (at_ : Int) := IntWalk.i64_in _ (by omega)
  by_cases hn : need ≤ q.length
  · obtain ⟨rfl, rfl⟩ := hyes hn
    by_cases h8 : at_ + n ≤ q.length
    · have x3 : decide ((q.length : Int) - (at_ : Int) < (n : Int)) = false := by simp; omega
      have x5 : (at_ : Int) + (n : Int) ≤ 140737488355328 := by omega
      have x6 : IntKind.i64.wrap ((at_ : Int) + (n : Int) - (n : Int)) = (at_ : Int) := by rw [show (at_ : Int) + (n : Int) - (n : Int) = (at_ : Int) by omega]; exact IntWalk.i64_in _ (by omega)
      have x7 : (0 : Int) ≤ (at_ : Int) := by omega
      have x8 : IntKind.i64.wrap (at_ : Int) = (at_ : Int) := IntWalk.i64_in _ (by omega)
      replace x5 := Lib.hid x5
      have y5 : IntKind.i64.wrap ((at_ : Int) + (n : Int)) = (at_ : Int) + (n : Int) := IntWalk.i64_in _ (by omega)
      have X : ∀ w', (Instr.sliceAt 23 (.slice A q.length c) (some (.int .i64 (at_ : Int))) (some (.int .i64 ((at_ : Int) + (n : Int)))) none).run Try.prog w' = .ok (.slice (cutA A at_ c) n (c - at_)) w' := fun w' => by
        rw [run_mid (l := at_) (h := at_ + n) Try.underlying23 (fun _ => rfl) (by omega) (by omega) _ _ rfl (by omega) w']
        congr 2
        omega
      have hpl : Hid (((q.drop at_).take n).length = n) := by show _ = _; rw [List.length_take, List.length_drop]; omega
      have hcn : Hid (cutA A at_ c = none → n = 0 ∧ c - at_ = 0) := fun e => by have := hnil (cutA_none e); omega
      have hc1 : Hid (0 + n ≤ maxLen) := by show _ ≤ _; unfold maxLen; omega
      have hc2 : Hid ((0 + n) * 1 ≤ 140737488355328) := by show _ ≤ _; omega
      have hk := fun (w' : World) (hb : Blk w' g 108 #[.slice A q.length c, .int .i64 (at_ : Int), .int .i64 0]) (hr : Reads w' 1 A q.length (cells8 q)) => Rd.adv hb hr hnil hA hc h8
      have hm := fun (w' : World) (hr : Reads w' 1 A q.length (cells8 q)) => Reads.mid (Rd.reads_set hr hA 1 (.int .i64 ((at_ : Int) + (n : Int)))) h8 hc
      replace hk := Lib.hid hk
      replace hm := Lib.hid hm
      replace hb := Lib.hid hb
      replace hr := Lib.hid hr
      clear hyes hno
      go_enter Try.func76, Try.ntmps76
      go_wp2_with fail
      go_quiet (fail)
      have hK0 : Hid (Kept (· = g) w (w.drewN nq)) := (Kept.refl _ w).drewN nq
      have hb' : Hid (Blk (w.drewN nq) g 108 #[.slice A q.length c, .int .i64 (at_ : Int), .int .i64 0]) := hb.out
      have hr' : Hid (Reads (w.drewN nq) 1 A q.length (cells8 q)) := hr.out
      generalize w.drewN nq = w2 at *
      clear g0 g1 g2 gf
      have g1 : w2.cell? ⟨g, 1, none⟩ = some (.int .i64 (at_ : Int)) := by rw [Blk.cell hb'.out 1]; rfl
      have gf := Blk.frozen hb'.out 1
      have hF := Lib.hid (hk.out w2 hb'.out hr'.out)
      have hR : Hid (Reads (w2.setCell ⟨g, 1, none⟩ (.int .i64 ((at_ : Int) + (n : Int)))) 1 (cutA A at_ c) n (cells8 ((q.drop at_).take n))) := hm.out w2 hr'.out
      have hB2 : Hid (Blk (w2.setCell ⟨g, 1, none⟩ (.int .i64 ((at_ : Int) + (n : Int)))) g 108 #[.slice A q.length c, .int .i64 ((at_ : Int) + (n : Int)), .int .i64 0]) := by show Blk _ _ _ _; have := Blk.set_ hb'.out 1 (.int .i64 ((at_ : Int) + (n : Int))); simpa using this
      go_wp2_with fail
      clear g1 gf
      generalize w2.setCell ⟨g, 1, none⟩ (.int .i64 ((at_ : Int) + (n : Int))) = w3 at *
      have k0 : w3.cell? ⟨g, 0, none⟩ = some (.slice A q.length c) := by rw [Blk.cell hB2.out 0]; rfl
      have k1 : w3.cell? ⟨g, 1, none⟩ = some (.int .i64 ((at_ : Int) + (n : Int))) := by rw [Blk.cell hB2.out 1]; rfl
      refine wp_region_quiet_tail 15 (by kernel_rfl) (by kernel_rfl) ?_
      repeat (quiet_step (fail))
      refine wpQuiet_nil ?_
      intro _ hw'
      obtain ⟨nr, hw''⟩ := hw'
      subst hw''
      simp only [List.drop]
      have hs3 : Hid (w.heap.size ≤ (w3.drewN nr).heap.size) := Nat.le_trans hK0.out.size hF.out.2.size
      go_wp2_with (at_builtin; refine wpList_append_src (w3.drewN nr) rfl (.const (.slice none 0 0)) (.tmp 50) 23 rfl w.heap.size 5 i0 (.int .u8 0) 1 1 Try.underlying23 hi hz0 hz1 hz2 rfl (by decide) (.slice none 0 0) 0 [] rfl (World.ownsRow_nil _ _ _ _) (cutA A at_ c) n (c - at_) (cells8 ((q.drop at_).take n)) rfl (hR.out.drewN nr) hcn.out (cells8_one _) hc1.out hc2.out hs3.out ?_; intro v1 W hG; have hO := hG.own; rw [Nat.zero_add, List.nil_append] at hO; obtain ⟨A1, c1, rfl, hn1, _, hnil1, hr1, hat1⟩ := Own.reads hO; have hbW : Hid (Below w3.heap.size w3 W) := (below_drawn (Below.refl _ w3) nr).grown hG.grow (Nat.le_refl _) (fun k e => by cases e); clear hG hO; replace hr1 := Lib.hid hr1; replace hnil1 := Lib.hid hnil1; replace hn1 := Lib.hid hn1; replace hat1 := Lib.hid hat1)
      go_ret
      refine ⟨A1, c1, (q.drop at_).take n, by rw [hpl.out]; rfl, fun _ => rfl, fun h => absurd h (by omega), ⟨by rw [hpl.out]; exact hr1.out, by rw [hpl.out]; exact hnil1.out, by rw [hpl.out]; exact hn1.out, fun a e => (hat1.out a e).1⟩, hF.out.1.below hbW.out, ?_⟩
      exact (hK0.out.trans hF.out.2 (fun _ _ h => h)).trans (Kept.of_below (S := (· = g)) hbW.out) (fun _ _ h => h)
    · have x3 : decide ((q.length : Int) - (at_ : Int) < (n : Int)) = true := by simp; omega
      have hk := fun (w' : World) (hb : Blk w' g 108 #[.slice A q.length c, .int .i64 (at_ : Int), .int .i64 0]) (hr : Reads w' 1 A q.length (cells8 q)) => Rd.fail hb hr hnil hA hc hat (show q.length < at_ + n by omega)
      replace hk := Lib.hid hk
      replace hb := Lib.hid hb
      replace hr := Lib.hid hr
      clear hyes hno
      go_enter Try.func76, Try.ntmps76
      go_wp2_with fail
      go_quiet (fail)
      have hK0 : Hid (Kept (· = g) w (w.drewN nq)) := (Kept.refl _ w).drewN nq
      have hb' : Hid (Blk (w.drewN nq) g 108 #[.slice A q.length c, .int .i64 (at_ : Int), .int .i64 0]) := hb.out
      have hr' : Hid (Reads (w.drewN nq) 1 A q.length (cells8 q)) := hr.out
      generalize w.drewN nq = w2 at *
      have R := Lib.hid (refuse_first g _ _ w2 hb'.out)
      have hF := Lib.hid (hk.out w2 hb'.out hr'.out)
      clear g0 g1 g2 gf
      go_wp2_with (go_at_call 73; refine Calls.mono R.out ?_; rintro e w' ⟨rfl, rfl⟩)
      go_ret
      exact ⟨none, 0, [], rfl, fun h => absurd h (by omega), fun _ => rfl, ⟨Reads.nil_ _ _ _, fun _ => ⟨rfl, rfl⟩, Nat.le_refl _, fun _ e => by cases e⟩, hF.out.1, hK0.out.trans hF.out.2 (fun _ _ h => h)⟩
  · obtain rfl := hno (by omega)
    have hF := Lib.hid (Rd.stay hb hr hnil hA hc hat (show q.length < need + n by omega))
    clear hb hyes hno
    go_enter Try.func76, Try.ntmps76
    go_wp2_with fail
    go_ret
    exact ⟨none, 0, [], rfl, fun h => absurd h (by omega), fun _ => rfl, ⟨Reads.nil_ _ _ _, fun _ => ⟨rfl, rfl⟩, Nat.le_refl _, fun _ e => by cases e⟩, hF.out, Kept.refl _ w⟩

theorem _root_.Go.Proofs.Ytngieimjlkpkaaa.Reader.Rd.keptOff {S : Nat → Prop} {w w' : World} {g need c : Nat} {q : Text} {A : Option Addr} (h : Rd w g q A c need) (hk : Kept S w w') (hg : ¬ S g) (hS : 0 < q.length → ∀ a, A = some a → ¬ S a.block) : Rd w' g q A c need := by
  obtain ⟨at_, why, hb, hr, h1⟩ := h
  exact ⟨at_, why, hb.kept hk hg, hr.kept0 hk (fun hp b o e => hS (by omega) _ e), h1⟩
theorem _root_.Go.Proofs.Ytngieimjlkpkaaa.Reader.Rd.old {w : World} {g need c : Nat} {q : Text} {A : Option Addr} (h : Rd w g q A c need) : 0 < q.length → ∀ a, A = some a → a.block < w.heap.size := by
  obtain ⟨_, _, _, hr, _⟩ := h
  intro hp a e
  obtain ⟨b, o, e', hlt, _⟩ := hr.2 (by omega)
  rw [e] at e'
  injection e' with e'
  subst e'
  exact hlt
/-- A digest out of what Raw handed out. -/
def digP (p : Text) : Text := p ++ List.replicate (32 - p.length) 0
theorem digP_len (p : Text) (h : p.length ≤ 32) : (digP p).length = 32 := by simp [digP]; omega
theorem digP_cells (p : Text) (h : p.length ≤ 32) : (splice Z32.toList 0 (cells8 p)).toArray = (cells8 (digP p)).toArray := by
  congr 1
  apply List.ext_getElem?
  intro i
  rw [splice_get _ _ _ (by rw [cells8_len]; simp [Z32]; omega), if_neg (by omega), cells8_len]
  by_cases h1 : i < 0 + p.length
  · rw [if_pos h1, Nat.sub_zero]
    simp only [cells8, digP, List.map_append]
    rw [List.getElem?_append_left (by simp; omega)]
  · rw [if_neg h1]
    simp only [cells8, digP, List.map_append, List.map_replicate]
    rw [List.getElem?_append_right (by simp; omega), List.length_map, List.getElem?_replicate]
    by_cases h2 : i < 32
    · rw [if_pos (by omega)]
      have e : Z32.toList = List.replicate 32 (Value.int IntKind.u8 0) := by rfl
      rw [e, List.getElem?_replicate, if_pos h2]
      rfl
    · rw [if_neg (by omega), List.getElem?_eq_none (by simp [Z32]; omega)]
theorem digP_take (q : Text) (need : Nat) (h : need + 32 ≤ q.length) : digP ((q.drop need).take 32) = (q.drop need).take 32 := by
  have hl : ((q.drop need).take 32).length = 32 := by rw [List.length_take, List.length_drop]; omega
  simp [digP, hl]

theorem dig_size (x : Text) (hx : x.length = 32) : (Try.prog.info? 28).map (·.size) = some (cells8 x).toArray.size := size31.trans (congrArg some (by simp [cells8_len, hx]))
theorem dig_one (x : Text) : (cells8 x).toArray.all (fun v => v.oneCell') = true := by rw [List.all_toArray]; exact List.all_eq_true.2 (cells8_one x)
set_option maxRecDepth 100000 in
set_option maxHeartbeats 1000000 in
theorem digest_any (q : Text) (hq : q.length < 140737488355328) (g need : Nat) (A : Option Addr) (c : Nat) (w : World) (h : Rd w g q A c need) :
    Calls Try.prog 70 #[.pointer (some ⟨g, 0, none⟩)] w fun e w' => ∃ d : Text, e = .returned (.agg (cells8 d).toArray) ∧ d.length = 32 ∧ (need + 32 ≤ q.length → d = (q.drop need).take 32) ∧ Rd w' g q A c (need + 32) ∧ Kept (· = g) w w' := by
  obtain ⟨w0, hw0⟩ : ∃ w0, Hid (w0 = (w.alloc (.cells Z32 28)).alloc (.cells Z32 28)) := ⟨_, rfl⟩
  have hD : Hid (Blk w0 w.heap.size 28 Z32) := by show Blk _ _ _ _; rw [hw0.out]; exact (Blk.new w _ _).alloc _
  have hE : Hid (Blk w0 (w.heap.size + 1) 28 Z32) := by
    have := Blk.new (w.alloc (.cells Z32 28)) 28 Z32
    have e : (w.alloc (.cells Z32 28)).heap.size = w.heap.size + 1 := by simp
    rw [e] at this
    show Blk _ _ _ _; rw [hw0.out]
    exact this
  have hR : Hid (Rd w0 g q A c need) := by show Rd _ _ _ _ _ _; rw [hw0.out]; exact (h.alloc _).alloc _
  have hlt := Lib.hid h.lt
  have hold := Lib.hid h.old
  have hK0 : Hid (Kept (· = g) w w0) := by show Kept _ _ _; rw [hw0.out]; exact ((Kept.refl _ w).alloc _).alloc _
  replace hq := Lib.hid hq
  clear h
  go_enter Try.func70, Try.ntmps70
  go_wp2_with fail
  have hp32 : ∀ p : Text, (need + 32 ≤ q.length → p = (q.drop need).take 32) → (q.length < need + 32 → p = []) → p.length ≤ 32 := fun p h1 h2 => by
    by_cases hh : need + 32 ≤ q.length
    · rw [h1 hh, List.length_take]; omega
    · rw [h2 (by omega)]; simp
  replace hp32 := Lib.hid hp32
  have hsz : Hid (w0.heap.size = w.heap.size + 2) := by show _ = _; rw [hw0.out]; simp
  have hww : (w.alloc (.cells Z32 28)).alloc (.cells Z32 28) = w0 := hw0.out.symm
  unfold Z32 at hww
  rw [hww]
  clear hww hw0
  have hraw : Hid (∀ w', Rd w' g q A c need → Calls Try.prog 76 #[.pointer (some ⟨g, 0, none⟩), .int .i64 32] w' fun e w'' => ∃ A' c' p, e = .returned (.slice A' p.length c') ∧ (need + 32 ≤ q.length → p = (q.drop need).take 32) ∧ (q.length < need + 32 → p = []) ∧ Out w' w'' A' c' p ∧ Rd w'' g q A c (need + 32) ∧ Kept (· = g) w' w'') := fun w' h => raw_any q hq.out g need 32 (by omega) A c w' h
  have hid2 : Hid (g ≠ w.heap.size + 1) := by have := hlt.out; show _ ≠ _; omega
  have hid1 : Hid (g ≠ w.heap.size) := by have := hlt.out; show _ ≠ _; omega
  go_region_law (first
    | (go_simp; go_at_call 76; go_loud (refine (hraw.out w0.drew (hR.out.drewN 1)).mono ?_; rintro e w3 ⟨Ap, cp, p, rfl, hp1, hp2, hO3, hR3, hk3⟩; have hp := Lib.hid (hp32.out p hp1 hp2); have hcl : Hid ((cells8 p).length = Nat.min p.length 32) := (by show _ = min _ _; rw [cells8_len]; have := hp.out; omega); have hfit : Hid (0 + (cells8 p).length ≤ Z32.size) := (by show _ ≤ _; rw [cells8_len]; simp [Z32]; exact hp.out); have hpos : Hid (0 < (cells8 p).length → some (⟨w.heap.size + 1, 0, none⟩ : Addr) = some ⟨w.heap.size + 1, 0, none⟩ ∧ ∃ ad, Ap = some ad ∧ ∀ j v, (cells8 p)[j]? = some v → w3.cell? (ad.add j) = some v) := (fun h0 => ⟨rfl, by obtain ⟨b, o, e, _, hc⟩ := hO3.1.2 (by rw [cells8_len] at h0; omega); exact ⟨_, e, fun j v hv => by rw [add_at]; exact hc j v hv⟩⟩); have hE3 := Lib.hid ((Blk.drewN hE.out 1).kept hk3 (fun e => hid2.out e.symm)); have hD3 := Lib.hid ((Blk.drewN hD.out 1).kept hk3 (fun e => hid1.out e.symm)); have hK3 := Lib.hid ((hK0.out.drewN 1).trans hk3 (fun _ _ h => h)); replace hR3 := Lib.hid hR3; replace hp1 := Lib.hid hp1; clear hp2 hO3 hk3))
    | (refine step_copy_into (P := Try.prog) (w := w3) (o := ⟨some 7, _, _, _, _, _⟩) rfl (.tmp 4) (.tmp 6) 23 23 rfl 5 Try.underlying23 size8 (some ⟨w.heap.size + 1, 0, none⟩) Ap 32 32 p.length cp ?hd ?hs (w.heap.size + 1) 0 Z32 28 hE3.out (cells8 p) hcl.out hpos.out hfit.out (cells8_one p) w3 (Kept.refl _ w3) p.length (cells8_len p) ?_; (case hd => go_simp); (case hs => go_simp); intro w5 hb5 hk5; replace hb5 := hb5.out; rw [digP_cells p hp.out] at hb5; have hD5 := Lib.hid (hD3.out.kept hk5 (by omega)); have hR5 := Lib.hid (hR3.out.keptOff hk5 hid2.out (fun h0 a ea e => by have := hold.out h0 a ea; omega)); replace hb5 := Lib.hid hb5; replace hk5 := Lib.hid hk5))
  have hz := Lib.hid (dig_size (digP p) (digP_len p hp.out))
  have hz32 : Hid ((Z32 : Array Value).size = (cells8 (digP p)).toArray.size) := by show _ = _; simp [cells8_len, digP_len p hp.out, Z32]
  have ho := Lib.hid (dig_one (digP p))
  have hKK : Hid (Kept (· = g) w w5) := by
    show Kept _ _ _
    exact hK3.out.trans hk5.out (fun i h1 h2 => by omega)
  go_wp2_with (first
    | ((with_reducible change wpList _ _ _ ({ dst := some 8, op := _, type := _, pos := _, after := _, guard := _ } :: _) _ _); refine wpList_load_row (o := ⟨some 8, _, _, _, _, _⟩) rfl 28 (.tmp 3) rfl (w.heap.size + 1) rfl 28 (cells8 (digP p)).toArray (0, 0) _ hb5.out Try.underlying28 rfl hz.out ?_)
    | ((with_reducible change wpList _ _ _ ({ dst := none, op := Op.store 28 _ _, type := _, pos := _, after := _, guard := _ } :: _) _ _); refine wpList_store_row (o := ⟨none, _, _, _, _, _⟩) rfl 28 (.tmp 2) (.tmp 8) rfl w.heap.size (cells8 (digP p)).toArray rfl rfl 28 Z32 hD5.out hz.out hz32.out ho.out ?_))
  refine bodyPost_ret (results_cell_row rfl _ _ w.heap.size 28 (cells8 (digP p)).toArray (0, 0) _ rfl (setRow_heap _ _ _ _ _ _ hD5.out) Try.underlying28 rfl hz.out) rfl ?_
  have hS : Kept (· = w.heap.size) w5 (w5.setRow w.heap.size (cells8 (digP p)).toArray) := Bytes.Kept.setRow (S := (· = w.heap.size)) (Kept.refl _ w5) rfl _
  exact ⟨digP p, rfl, digP_len p hp.out, fun h => by rw [hp1.out h]; exact digP_take q need h, hR5.out.keptOff hS hid1.out (fun h0 a ea e => by have := hold.out h0 a ea; omega), hKK.out.trans hS (fun i h1 h2 => by omega)⟩
end Go.Proofs.Ytngieimjlkpkaaa.Reader3
