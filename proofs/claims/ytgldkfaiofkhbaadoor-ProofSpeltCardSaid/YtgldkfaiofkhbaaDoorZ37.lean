/-
  Texts of the claim, put into one file: Told, Spelt, Ask, AskW, ProveW.
-/
import Derived.Test.YtgldkfaiofkhbaaDoorZ36
import Derived.Test.YtgldkfaiofkhbaaDoorZ15
import Derived.Test.YtgldkfaiofkhbaaDoorZ30
import Derived.Test.YtgldkfaiofkhbaaDoorZ7
import Derived.Test.YtgldkfaiofkhbaaDoorZ31
import Derived.Test.YtgldkfaiofkhbaaDoorZ6
import Derived.Test.YtgldkfaiofkhbaaDoorZ34

namespace Go.Proofs.YtgldkfaiofkhbaaDoor.Told
open Go Go.RowKit Go.Proofs.YtgldkfaiofkhbaaDoor Go.Proofs.YtgldkfaiofkhbaaDoor.Digest Go.Proofs.YtgldkfaiofkhbaaDoor.Mem Go.Proofs.YtgldkfaiofkhbaaDoor.Sha Go.Proofs.YtgldkfaiofkhbaaDoor.ShaWalk Go.Proofs.YtgldkfaiofkhbaaDoor.Bytes Go.Proofs.YtgldkfaiofkhbaaDoor.HashMem Go.Proofs.YtgldkfaiofkhbaaDoor.DigestMem Go.Proofs.YtgldkfaiofkhbaaDoor.DigestTop Go.Proofs.YtgldkfaiofkhbaaDoor.RefTop Go.Proofs.YtgldkfaiofkhbaaDoor.QuietTail Go.Proofs.YtgldkfaiofkhbaaDoor.Grown Go.Proofs.YtgldkfaiofkhbaaDoor.Chain Go.Proofs.YtgldkfaiofkhbaaDoor.TreeMath Go.Proofs.YtgldkfaiofkhbaaDoor.TreeMem Go.Proofs.YtgldkfaiofkhbaaDoor.TreeRoot Go.Proofs.YtgldkfaiofkhbaaDoor.Append Go.Proofs.YtgldkfaiofkhbaaDoor.Book Go.Proofs.YtgldkfaiofkhbaaDoor.Held Go.Proofs.YtgldkfaiofkhbaaDoor.RefOf Go.Proofs.YtgldkfaiofkhbaaDoor.Want Go.Proofs.YtgldkfaiofkhbaaDoor.WayP Go.Proofs.YtgldkfaiofkhbaaDoor.AskP Go.Proofs.YtgldkfaiofkhbaaDoor.Octet Go.Proofs.YtgldkfaiofkhbaaDoor.Octet2 Go.Proofs.YtgldkfaiofkhbaaDoor.Own Go.Proofs.YtgldkfaiofkhbaaDoor.Ref17 Go.Proofs.YtgldkfaiofkhbaaDoor.Eight

/-- A function value that tells of the spots of a size. -/
def AtF (dg : Nat × Nat → Text) (size : Nat) (w : World) (v : Value) : Prop :=
  ∃ (F : FuncId) (fn : Func) (first cap : Array Value), v = .func (.func F) first cap ∧ Tryd.prog.funcs[F]? = some fn ∧ (fn.name == "runtime.NumGoroutine") = false ∧ fn.body.isNone = false ∧
    ∀ w', Below w.heap.size w w' → ∀ p : Nat × Nat, p.1 ≤ 40 → (p.2 + 1) * 2 ^ p.1 ≤ size → Calls Tryd.prog F (first ++ #[.agg (pcells p).toArray] ++ cap) w' fun e w'' => e = .returned (.agg (cells8 (dg p)).toArray) ∧ Below w'.heap.size w' w''
theorem AtF.below {dg : Nat × Nat → Text} {size : Nat} {w w' : World} {v : Value} (h : AtF dg size w v) (hb : Below w.heap.size w w') : AtF dg size w' v := by
  obtain ⟨F, fn, first, cap, h1, h2, h3, h4, h5⟩ := h
  exact ⟨F, fn, first, cap, h1, h2, h3, h4, fun w2 hb2 => h5 w2 (hb.trans (hb2.mono hb.size))⟩

end Go.Proofs.YtgldkfaiofkhbaaDoor.Told

namespace Go.Proofs.YtgldkfaiofkhbaaDoor.Spelt
open Go Go.RowKit Go.Proofs.YtgldkfaiofkhbaaDoor Go.Proofs.YtgldkfaiofkhbaaDoor.Mem Go.Proofs.YtgldkfaiofkhbaaDoor.Sha Go.Proofs.YtgldkfaiofkhbaaDoor.Bytes Go.Proofs.YtgldkfaiofkhbaaDoor.Append Go.Proofs.YtgldkfaiofkhbaaDoor.Grown Go.Proofs.YtgldkfaiofkhbaaDoor.Held Go.Proofs.YtgldkfaiofkhbaaDoor.Own Go.Proofs.YtgldkfaiofkhbaaDoor.Book Go.Proofs.YtgldkfaiofkhbaaDoor.Same8 Go.Proofs.YtgldkfaiofkhbaaDoor.Octet

/-- A function that reads such bytes as what they were laid down of, and nothing near them. -/
def ReadFn (b : Text) (w : World) (v : Value) : Prop :=
  ∃ (F : FuncId) (fn : Func) (first cap : Array Value), v = .func (.func F) first cap ∧ Tryd.prog.funcs[F]? = some fn ∧ (fn.name == "runtime.NumGoroutine") = false ∧ fn.body.isNone = false ∧
    (∀ w', Below w.heap.size w w' → ∀ A c, Reads w' 1 A b.length (cells8 b) → (A = none → b.length = 0 ∧ c = 0) → Calls Tryd.prog F (first ++ #[.slice A b.length c] ++ cap) w' fun e w'' => ∃ A2 c2, e = .returned (.tuple #[.slice A2 b.length c2, .int .i64 0, .bool true]) ∧ Reads w'' 1 A2 b.length (cells8 b) ∧ Below w'.heap.size w' w'') ∧
    (∀ w', Below w.heap.size w w' → ∀ (r : Text) (n : Nat), r.length = n → ((∃ i, i < b.length ∧ r = b.take i) ∨ r = b ++ [0]) → ∀ A c, Reads w' 1 A n (cells8 r) → (A = none → n = 0 ∧ c = 0) → Calls Tryd.prog F (first ++ #[.slice A n c] ++ cap) w' fun e w'' => ∃ v1 v3, e = .returned (.tuple #[v1, .int .i64 8, .bool v3]) ∧ Below w'.heap.size w' w'')
theorem infoU8 : (Tryd.prog.info? 5).map (fun i => (i.zero, i.size, i.bytes)) = some (some (.int .u8 0), 1, 1) := by kernel_rfl
theorem zero_reads (w : World) : Reads (w.alloc (.cells #[.int .u8 0] 5)) 1 (some ⟨w.heap.size, 0, none⟩) 1 (cells8 [0]) := by
  have e : cells8 [0] = [Value.int .u8 0] := rfl
  rw [e]
  exact Blk.reads (Blk.new w 5 #[.int .u8 0]) 0 _ rfl (fun j u hu => by rw [Nat.zero_add]; simpa using hu)
theorem run_fnB {F : FuncId} {fn : Func} (hf : Tryd.prog.funcs[F]? = some fn) (hn : (fn.name == "runtime.NumGoroutine") = false) (hb : fn.body.isNone = false) : ∀ (args : Array Value) (w : World), (callFunc F args).run Tryd.prog w = .ok (.enter F args) w := fun args w => run_fn hf hn hb args w
theorem same_yes (q : Text) (k : Nat) (hk : q.length = k) (h47 : k < 140737488355328) (A B : Option Addr) (c d : Nat) (w : World) (ha : Reads w 1 A k (cells8 q)) (hb : Reads w 1 B k (cells8 q)) : Calls Tryd.prog 36 #[.slice A k c, .slice B k d] w fun e w' => e = .returned (.bool true) ∧ Below w.heap.size w w' :=
  (same8_any q q k k hk hk (by omega) A B c d w ha hb).mono fun e w' ⟨he, n, hw⟩ => ⟨by rw [he]; simp, by rw [hw]; exact below_drawn (Below.refl _ _) n⟩

set_option maxRecDepth 100000 in
set_option maxHeartbeats 2000000 in
theorem spelt_any (b : Text) (k : Nat) (hk : b.length = k) (h0 : 0 < k) (h9 : k < 9000) (A : Option Addr) (c : Nat) (hc : k ≤ c) (w : World) (hr : Reads w 1 A k (cells8 b)) (fv : Value) (hf : ReadFn b w fv) :
    Calls Tryd.prog 18 #[.slice A k c, fv] w fun e w' => e = .returned (.bool true) ∧ Below w.heap.size w w' := by
  obtain ⟨i0, ii, iz0, iz1, iz2⟩ := info_partsN infoU8
  obtain ⟨Fi, fn, first, cap, rfl, hf1, hf2, hf3, hgood, hbad⟩ := hf
  have hcf := Lib.hid (run_fnB hf1 hf2 hf3)
  obtain ⟨bA, o, rfl, hbA, hcs⟩ := hr.at_ (by omega)
  have hG := hgood w (Below.refl _ _) (some ⟨bA, o, none⟩) c (by rw [hk]; exact hr) (fun e => by cases e)
  rw [hk] at hG
  replace hG := Lib.hid hG
  replace hbad := Lib.hid hbad
  replace hk := Lib.hid hk
  replace h9 := Lib.hid h9
  replace hc := Lib.hid hc
  replace hr := Lib.hid hr
  clear hgood hf1 hf2 hf3 hcs hbA h0
  go_enter Tryd.func18, Tryd.ntmps18
  go_wp2_with fail
  rw [hcf.out]
  refine Calls.mono hG.out ?_
  rintro e w1 ⟨A2, c2, rfl, r2, b1⟩
  replace r2 := Lib.hid r2
  replace b1 := Lib.hid b1
  have hr1 := Lib.hid (hr.out.below b1.out)
  have hS := Lib.hid (same_yes b k hk.out (by have := h9.out; omega) (some ⟨bA, o, none⟩) A2 c c2 w1 hr1.out r2.out)
  clear hG r2 hr1
  go_wp2_with (go_at_call 36; refine hS.out.mono ?_; rintro e w2 ⟨rfl, b2⟩; replace b2 : Hid (Below w.heap.size w w2) := b1.out.trans (b2.mono b1.out.size))
  clear hS b1
  go_loopw [8] (fun v wr => ∃ i : Nat, v = .int .i64 (i : Int) ∧ Hid (i ≤ k) ∧ Hid (Below w.heap.size w wr)) (fun v _ => k - (intOf v).toNat)
  case atStart => exact ⟨0, rfl, Nat.zero_le _, b2.out⟩
  case round =>
    clear b2
    obtain ⟨i, rfl, hi, hb⟩ := hrel
    by_cases hlt : i < k
    · have y1 : (i : Int) < (k : Int) := by omega
      have y2 : (0 : Int) ≤ (i : Int) := by omega
      have y3 : IntKind.i64.wrap ((i : Int) + 1) = (i : Int) + 1 := IntWalk.i64_in _ (by have := h9.out; omega)
      have X : ∀ w', (Instr.sliceAt 31 (.slice (some ⟨bA, o, none⟩) k c) none (some (.int .i64 (i : Int))) none).run Tryd.prog w' = .ok (.slice (some ⟨bA, o, none⟩) i c) w' := run_headOf (m := i) Tryd.underlying31 (fun _ => rfl) (by have := hc.out; omega) _ rfl
      have hri : Reads wr 1 (some ⟨bA, o, none⟩) i (cells8 (b.take i)) := by
        have := hr.out.below hb.out
        rw [← hk.out] at this
        exact Bytes.Reads.front this i (by rw [hk.out]; omega)
      have hB := Lib.hid (hbad.out wr hb.out (b.take i) i (by rw [List.length_take, hk.out]; omega) (.inl ⟨i, by rw [hk.out]; exact hlt, rfl⟩) (some ⟨bA, o, none⟩) c hri (fun e => by cases e))
      have hik : Hid (i + 1 ≤ k) := by show _ ≤ _; omega
      clear hlt hri
      go_wp2_with fail
      rw [hcf.out]
      refine Calls.mono hB.out ?_
      rintro e w3 ⟨v1, v3, rfl, b3⟩
      replace b3 : Hid (Below w.heap.size w w3) := hb.out.trans (b3.mono hb.out.size)
      clear hB hb
      go_wp2_with fail
      go_roundw
      case rel => exact ⟨i + 1, by go_num, hik.out, b3.out⟩
      case measure => (have := hik.out; simp [intOf]; omega)
    · obtain rfl : i = k := by have := hi.out; omega
      clear hlt hi
      have hrr : Hid (Reads (wr.alloc (.cells #[] 5)) 1 (some ⟨bA, o, none⟩) i (cells8 b)) := (hr.out.below hb.out).alloc _
      have hO0 : Hid ((wr.alloc (.cells #[] 5)).ownsRow wr.heap.size 5 1 (.slice (some ⟨wr.heap.size, 0, none⟩) 0 0) 0 (cells8 [])) := own_new wr wr.heap.size (Nat.le_refl _) 5 #[] 0 rfl (by decide)
      have hs3 : Hid (wr.heap.size ≤ (wr.alloc (.cells #[] 5)).heap.size) := by show _ ≤ _; simp
      have hbr : Hid (Below wr.heap.size wr (wr.alloc (.cells #[] 5))) := Below.heap_below _ _
      go_wp2_with (first
        | ((with_reducible change wpList _ _ _ ({ dst := some 52, op := _, type := _, pos := _, after := _, guard := _ } :: _) _ _); refine wpList_append_src _ (o := ⟨some 52, _, _, _, _, _⟩) rfl (.tmp 50) (.tmp 51) 31 rfl wr.heap.size 5 i0 (.int .u8 0) 1 1 Tryd.underlying31 ii iz0 iz1 iz2 rfl (by decide) (.slice (some ⟨wr.heap.size, 0, none⟩) 0 0) 0 (cells8 []) rfl hO0.out (some ⟨bA, o, none⟩) i c (cells8 b) rfl hrr.out (fun e => by cases e) (cells8_one _) (by have := h9.out; unfold maxLen; omega) (by have := h9.out; omega) hs3.out ?_; intro v4 w4 hG4; obtain ⟨A4, c4, rfl, hO4, hb4⟩ := grew_text hG4 hbr.out hs3.out hO0.out b rfl i (by omega); clear hG4)
        | ((with_reducible change wpList _ _ _ ({ dst := some 54, op := _, type := _, pos := _, after := _, guard := _ } :: _) _ _); have hO5 := Lib.hid (own_below hO4.out (Below.heap_below w4 (.cells #[.int .u8 0] 5))); have hb5 : Hid (Below wr.heap.size wr (w4.alloc (.cells #[.int .u8 0] 5))) := hb4.out.alloc hb4.out.size _; refine wpList_append_src _ (o := ⟨some 54, _, _, _, _, _⟩) rfl (.tmp 52) (.tmp 53) 31 rfl wr.heap.size 5 i0 (.int .u8 0) 1 1 Tryd.underlying31 ii iz0 iz1 iz2 rfl (by decide) (.slice A4 i c4) i (cells8 b) rfl hO5.out (some ⟨w4.heap.size, 0, none⟩) 1 1 (cells8 [0]) rfl (zero_reads w4) (fun e => by cases e) (cells8_one _) (by have := h9.out; unfold maxLen; omega) (by have := h9.out; omega) hb5.out.size ?_; intro v6 w6 hG6; obtain ⟨A6, c6, rfl, hO6, hb6⟩ := grew_text hG6 hb5.out hb5.out.size hO5.out (b ++ [0]) rfl (i + 1) rfl; clear hG6))
      have hbw : Hid (Below w.heap.size w w6) := hb.out.trans (hb6.out.mono hb.out.size)
      obtain ⟨A7, c7, e7, -, hn7, r7, -⟩ := own_reads hO6.out
      injection e7 with e7 _ e8
      subst e7 e8
      have hB := Lib.hid (hbad.out w6 hbw.out (b ++ [0]) (i + 1) (by rw [List.length_append, hk.out]; rfl) (.inr rfl) _ _ r7 hn7)
      clear hn7 r7
      rw [hcf.out]
      refine Calls.mono hB.out ?_
      rintro e w8 ⟨v1, v3, rfl, b8⟩
      have b8' : Hid (Below w.heap.size w w8) := hbw.out.trans (b8.mono hbw.out.size)
      clear b8 hB
      go_wp2_with fail
      go_ret
      exact ⟨rfl, b8'.out⟩
end Go.Proofs.YtgldkfaiofkhbaaDoor.Spelt

namespace Go.Proofs.YtgldkfaiofkhbaaDoor.Ask
open Go Go.RowKit Go.Proofs.YtgldkfaiofkhbaaDoor Go.Proofs.YtgldkfaiofkhbaaDoor.Digest Go.Proofs.YtgldkfaiofkhbaaDoor.Mem Go.Proofs.YtgldkfaiofkhbaaDoor.Sha Go.Proofs.YtgldkfaiofkhbaaDoor.ShaWalk Go.Proofs.YtgldkfaiofkhbaaDoor.Bytes Go.Proofs.YtgldkfaiofkhbaaDoor.HashMem Go.Proofs.YtgldkfaiofkhbaaDoor.DigestMem Go.Proofs.YtgldkfaiofkhbaaDoor.DigestTop Go.Proofs.YtgldkfaiofkhbaaDoor.RefTop Go.Proofs.YtgldkfaiofkhbaaDoor.QuietTail Go.Proofs.YtgldkfaiofkhbaaDoor.Grown Go.Proofs.YtgldkfaiofkhbaaDoor.Chain Go.Proofs.YtgldkfaiofkhbaaDoor.TreeMath Go.Proofs.YtgldkfaiofkhbaaDoor.TreeMem Go.Proofs.YtgldkfaiofkhbaaDoor.TreeRoot Go.Proofs.YtgldkfaiofkhbaaDoor.Append Go.Proofs.YtgldkfaiofkhbaaDoor.Book Go.Proofs.YtgldkfaiofkhbaaDoor.Held Go.Proofs.YtgldkfaiofkhbaaDoor.RefOf Go.Proofs.YtgldkfaiofkhbaaDoor.Want Go.Proofs.YtgldkfaiofkhbaaDoor.WayP Go.Proofs.YtgldkfaiofkhbaaDoor.AskP Go.Proofs.YtgldkfaiofkhbaaDoor.Octet Go.Proofs.YtgldkfaiofkhbaaDoor.Octet2 Go.Proofs.YtgldkfaiofkhbaaDoor.Own Go.Proofs.YtgldkfaiofkhbaaDoor.Ref17 Go.Proofs.YtgldkfaiofkhbaaDoor.Eight Go.Proofs.YtgldkfaiofkhbaaDoor.Told

end Go.Proofs.YtgldkfaiofkhbaaDoor.Ask

namespace Go.Proofs.YtgldkfaiofkhbaaDoor.AskW
open Go Go.RowKit Go.Proofs.YtgldkfaiofkhbaaDoor Go.Proofs.YtgldkfaiofkhbaaDoor.Digest Go.Proofs.YtgldkfaiofkhbaaDoor.Mem Go.Proofs.YtgldkfaiofkhbaaDoor.Sha Go.Proofs.YtgldkfaiofkhbaaDoor.ShaWalk Go.Proofs.YtgldkfaiofkhbaaDoor.Bytes Go.Proofs.YtgldkfaiofkhbaaDoor.HashMem Go.Proofs.YtgldkfaiofkhbaaDoor.DigestMem Go.Proofs.YtgldkfaiofkhbaaDoor.DigestTop Go.Proofs.YtgldkfaiofkhbaaDoor.RefTop Go.Proofs.YtgldkfaiofkhbaaDoor.QuietTail Go.Proofs.YtgldkfaiofkhbaaDoor.Grown Go.Proofs.YtgldkfaiofkhbaaDoor.Chain Go.Proofs.YtgldkfaiofkhbaaDoor.TreeMath Go.Proofs.YtgldkfaiofkhbaaDoor.TreeMem Go.Proofs.YtgldkfaiofkhbaaDoor.TreeRoot Go.Proofs.YtgldkfaiofkhbaaDoor.TreeFold Go.Proofs.YtgldkfaiofkhbaaDoor.Append Go.Proofs.YtgldkfaiofkhbaaDoor.Book Go.Proofs.YtgldkfaiofkhbaaDoor.TreeRefRoot Go.Proofs.YtgldkfaiofkhbaaDoor.Held Go.Proofs.YtgldkfaiofkhbaaDoor.Want Go.Proofs.YtgldkfaiofkhbaaDoor.WayP Go.Proofs.YtgldkfaiofkhbaaDoor.SpotsMath Go.Proofs.YtgldkfaiofkhbaaDoor.SpotsWalk Go.Proofs.YtgldkfaiofkhbaaDoor.AskP Go.Proofs.YtgldkfaiofkhbaaDoor.Told Go.Proofs.YtgldkfaiofkhbaaDoor.WayRows

theorem run_fnA {F : FuncId} {fn : Func} (hf : Tryd.prog.funcs[F]? = some fn) (hn : (fn.name == "runtime.NumGoroutine") = false) (hb : fn.body.isNone = false) : ∀ (args : Array Value) (w : World), (callFunc F args).run Tryd.prog w = .ok (.enter F args) w := fun args w => run_fn hf hn hb args w
theorem flat_cells {S : List (Nat × Nat)} {k : Nat} {p : Nat × Nat} {w : World} {A : Option Addr} {n : Nat} (hr : Reads w 2 A n (flat S)) (hn : S.length = n) (h : S[k]? = some p) : ∃ b o, A = some ⟨b, o, none⟩ ∧ b < w.heap.size ∧ ∀ w', Below w.heap.size w w' → ∀ j v, (pcells p)[j]? = some v → w'.cell? ⟨b, o + k * 2 + j, none⟩ = some v := by
  have hk : k < S.length := (List.getElem?_eq_some_iff.1 h).1
  obtain ⟨b, o, hA, hb, hc⟩ := hr.at_ (by omega)
  obtain ⟨h0, h1⟩ := flat_get S k p h
  refine ⟨b, o, hA, hb, fun w' hw j v hv => ?_⟩
  match j with
  | 0 =>
    obtain rfl := Option.some.inj hv
    have := (hw.cell (p := ⟨b, o + k * 2, none⟩) hb).trans (hc _ _ h0)
    exact this
  | 1 =>
    obtain rfl := Option.some.inj hv
    have := (hw.cell (p := ⟨b, o + k * 2 + 1, none⟩) hb).trans (hc _ _ h1)
    exact this
  | j + 2 => simp [pcells] at hv
theorem onB {w w' : World} {g : Nat} {t : TypeId} {cs : Array Value} (h : Blk w g t cs) (hb : Below w.heap.size w w') : Blk w' g t cs := (hb.block g h.lt).trans h
theorem base_on {w w' : World} (h : Base w) (hb : Below w.heap.size w w') : Base w' := h.below hb h.1
theorem sizeSp : (Tryd.prog.info? 129).map (·.size) = some 2 := by kernel_rfl
theorem own_low {w : World} {B B' : Nat} {e : TypeId} {size n : Nat} {v : Value} {xs : List Value} (h : w.ownsRow B e size v n xs) (hB : B' ≤ B) : w.ownsRow B' e size v n xs := ⟨h.1, h.2.imp id fun ⟨g, cap, cur, h1, h2, h3⟩ => ⟨g, cap, cur, h1, Nat.le_trans hB h2, h3⟩⟩
set_option maxRecDepth 100000 in
set_option maxHeartbeats 2000000 in
theorem digestOf_any (s : Int) (dg : Nat × Nat → Text) (hdg : ∀ p, (dg p).length = 32) (size : Nat) (hs : size ≤ 1099511627776) (p : Nat × Nat) (hps : p.2 ≤ size) (hpl : p.1 ≤ p.2) (fv : Value) (ga gs : Nat) (w : World) (hB : Base w) (hT : TabAt 3 Lib.deBruijn64tab w) (hg : 3 < w.heap.size)
    (hga : Blk w ga 61 #[fv]) (hgs : Blk w gs 3 #[.int .i64 s]) (hfv : AtF dg size w fv) :
    Calls Tryd.prog 108 #[.agg #[.int .i64 (p.1 : Int), .int .i64 (p.2 : Int)], .pointer (some ⟨ga, 0, none⟩), .pointer (some ⟨gs, 0, none⟩)] w fun e w' => e = .returned (.agg (cells8 (partD s dg p)).toArray) ∧ Below w.heap.size w w' := by
  obtain ⟨i0, ii, iz0, iz1, iz2⟩ := info_partsN info32
  obtain ⟨x, hx⟩ : ∃ x, Hid (partD s dg p = x) := ⟨_, Lib.hid rfl⟩
  obtain ⟨S, hS⟩ : ∃ S, Hid (spots (p.2 - p.1) p.1 p.2 = S) := ⟨_, Lib.hid rfl⟩
  have hxl : x.length = 32 := by rw [← hx.out]; exact foldOf_len s _ (digs_map hdg _)
  have F := Lib.hid (fit (x := x) hxl)
  have hxS : Hid (foldOf s (S.map dg) = x) := by rw [← hx.out, ← hS.out]; rfl
  rw [hx.out]
  have hin : Hid (∀ q ∈ S, q.1 ≤ 40 ∧ (q.2 + 1) * 2 ^ q.1 ≤ size) := fun q hq => by
    have := spots_inside (p.2 - p.1) p.1 p.2 q (by rw [hS.out]; exact hq)
    exact ⟨this.1, by omega⟩
  have hSp : Hid (∀ w', TabAt 3 Lib.deBruijn64tab w' → 3 < w'.heap.size → Calls Tryd.prog 109 #[.int .i64 (p.1 : Int), .int .i64 (p.2 : Int)] w' fun e w'' => ∃ v, e = .returned v ∧ w''.ownsRow w'.heap.size 129 2 v S.length (flat S) ∧ Below w'.heap.size w' w'') := fun w' h1 h2 => by
    have := tree_spots (p.1 : Int) (p.2 : Int) (by omega) (by omega) (by omega) (by omega) w' h1 h2
    rw [spotsZ_in (by omega), hS.out] at this
    exact this
  obtain ⟨m, hm⟩ : ∃ m, Hid (S.length = m) := ⟨_, Lib.hid rfl⟩
  rw [hm.out] at hSp
  have hm40 : Hid (m ≤ 1099511627776) := by
    have := spots_len (p.2 - p.1) p.1 p.2
    rw [hS.out, hm.out] at this
    show _ ≤ _
    omega
  have hb0 : Hid (Below w.heap.size w ((w.alloc (.cells #[.int .i64 (p.1 : Int), .int .i64 (p.2 : Int)] 176)).alloc (.cells Z32 23))) := ((Below.refl _ w).alloc (Nat.le_refl _) _).alloc (by simp) _
  have hz0 : Hid (((w.alloc (.cells #[.int .i64 (p.1 : Int), .int .i64 (p.2 : Int)] 176)).alloc (.cells Z32 23)).heap.size = w.heap.size + 2) := by show _ = _; simp
  have hR0 : Hid (Blk ((w.alloc (.cells #[.int .i64 (p.1 : Int), .int .i64 (p.2 : Int)] 176)).alloc (.cells Z32 23)) (w.heap.size + 1) 23 Z32) := by
    have := Blk.new (w.alloc (.cells #[.int .i64 (p.1 : Int), .int .i64 (p.2 : Int)] 176)) 23 Z32
    rwa [show (w.alloc (.cells #[.int .i64 (p.1 : Int), .int .i64 (p.2 : Int)] 176)).heap.size = w.heap.size + 1 by simp] at this
  have hS0 := Lib.hid (hSp.out ((w.alloc (.cells #[.int .i64 (p.1 : Int), .int .i64 (p.2 : Int)] 176)).alloc (.cells Z32 23)) (tab_below hT hg hb0.out) (by rw [hz0.out]; omega))
  have hB0 := Lib.hid (base_on hB hb0.out)
  have hA0 := Lib.hid (onB hga hb0.out)
  have hG0 := Lib.hid (onB hgs hb0.out)
  have hF0 := Lib.hid (hfv.below hb0.out)
  replace hdg := Lib.hid hdg
  clear hSp hT hg hga hgs hfv hxl hs hps hpl hB hS hx
  go_enter Tryd.func108, Tryd.ntmps108
  go_wp2_with fail
  refine hS0.out.mono ?_
  rintro e w1 ⟨v1, rfl, o1, b1⟩
  obtain ⟨A1, c1, rfl, -, -, -, r1, -⟩ := Own.reads o1
  replace r1 := Lib.hid r1
  replace b1 := Lib.hid b1
  clear o1
  go_wp2_with fail
  have hF1 := Lib.hid (hF0.out.below b1.out)
  have hA1 := Lib.hid (onB hA0.out b1.out)
  have hG1 := Lib.hid (onB hG0.out b1.out)
  have hB1 := Lib.hid (base_on hB0.out b1.out)
  have hR1 := Lib.hid (onB hR0.out b1.out)
  have hb1 : Hid (Below w.heap.size w w1) := hb0.out.trans (b1.out.mono (by rw [hz0.out]; omega))
  obtain ⟨Fi, fn, first, cap, rfl, hf1, hf2, hf3, hf4⟩ := hF1.out
  have hcf := Lib.hid (run_fnA hf1 hf2 hf3)
  replace hf4 := Lib.hid hf4
  clear hF0 hF1 hA0 hG0 hB0 hR0 hS0 hf1 hf2 hf3 hb0 hz0 b1
  go_loopw [5, 14] (fun u v wr => ∃ (j : Nat) (uu : Value), u = uu ∧ v = .int .i64 (j : Int) ∧ Hid (j ≤ m) ∧ Hid (wr.ownsRow w1.heap.size 23 32 uu j (((S.take j).map dg).flatMap cells8)) ∧ Hid (Below w1.heap.size w1 wr)) (fun _ v _ => m - (intOf v).toNat)
  case atStart => exact ⟨0, _, rfl, rfl, Nat.zero_le _, World.ownsRow_nil _ _ _ _, Below.refl _ _⟩
  case round =>
    obtain ⟨j, uu, huu, rfl, hj, hO, hb⟩ := hrel
    rw [huu]
    clear huu
    have hwz : Hid (w1.heap.size ≤ wr.heap.size) := hb.out.size
    have hA2 := Lib.hid (onB hA1.out hb.out)
    by_cases hlt : j < m
    · have y1 : (j : Int) < (m : Int) := by omega
      have y2 : (0 : Int) ≤ (j : Int) := by omega
      have y3 : IntKind.i64.wrap ((j : Int) + 1) = (j : Int) + 1 := IntWalk.i64_in _ (by have := hm40.out; omega)
      obtain ⟨q, hq⟩ : ∃ q, Hid (S[j]? = some q) := ⟨_, List.getElem?_eq_getElem (by rw [hm.out]; exact hlt)⟩
      have hqi := Lib.hid (hin.out q (List.mem_of_getElem? hq.out))
      obtain ⟨b, o, rfl, hbl, hc⟩ := flat_cells r1.out hm.out hq.out
      replace hc := Lib.hid (hc wr hb.out)
      have hcA : wr.cell? ⟨ga, 0, none⟩ = some (.func (.func Fi) first cap) := by rw [hA2.out.cell 0]; rfl
      have hql : Hid ((pcells q).length = 2) := rfl
      have hq1 : Hid ((pcells q).toArray.all (fun v => v.oneCell') = true) := by show _ = _; rw [List.all_toArray]; exact List.all_eq_true.2 (pcells_one q)
      obtain ⟨d, hd⟩ : ∃ d, Hid (dg q = d) := ⟨_, Lib.hid rfl⟩
      have hdl : Hid (d.length = 32) := by show _ = _; rw [← hd.out]; exact hdg.out q
      have hCall := Lib.hid (fun w' (hb' : Below w1.heap.size w1 w') => hf4.out w' hb' q hqi.out.1 hqi.out.2)
      rw [hd.out] at hCall
      have hup : Hid (((S.take (j + 1)).map dg).flatMap cells8 = ((S.take j).map dg).flatMap cells8 ++ cells8 d) := by
        show _ = _
        rw [map_snoc dg S j q hq.out, List.flatMap_append, List.flatMap_singleton, hd.out]
      have hjm : Hid (j + 1 ≤ m) := by show _ ≤ _; omega
      clear hlt hqi hq hd
      go_wp2_with (first
        | ((with_reducible change wpList _ _ _ ({ dst := some 17, op := _, type := _, pos := _, after := _, guard := _ } :: _) _ _); refine wpList_load_part (o := ⟨some 17, _, _, _, _, _⟩) rfl 129 (.tmp 16) rfl (b) ((o + j * 2)) rfl (pcells q) _ hc.out Tryd.underlying129 rfl rfl ?_)
        | ((with_reducible change wpList _ _ _ ({ dst := none, op := Op.store 129 _ _, type := _, pos := _, after := _, guard := _ } :: _) _ _); refine wpList_store_whole (o := ⟨none, _, _, _, _, _⟩) rfl 129 (.tmp 7) (.tmp 17) rfl (wr.heap.size) ((pcells q).toArray) rfl rfl 129 _ (Blk.new wr _ _) sizeSp rfl hq1.out ?_; intro w2 B2 k2; have b2 : Hid (Below wr.heap.size wr w2) := kept_fresh k2; replace B2 := Lib.hid B2; have hcA2 : w2.cell? ⟨ga, 0, none⟩ = some (.func (.func Fi) first cap) := (b2.out.cell (p := ⟨ga, 0, none⟩) hA2.out.lt).trans hcA; clear k2)
        | ((with_reducible change wpList _ _ _ ({ dst := some 20, op := _, type := _, pos := _, after := _, guard := _ } :: _) _ _); refine wpList_load_row (o := ⟨some 20, _, _, _, _, _⟩) rfl 129 (.tmp 7) rfl (wr.heap.size) rfl 129 ((pcells q).toArray) (0, 0) _ B2.out Tryd.underlying129 rfl sizeSp ?_))
      rw [hcf.out]
      refine Calls.mono (hCall.out w2 (hb.out.trans (b2.out.mono hwz.out))) ?_
      rintro e w3 ⟨rfl, b3⟩
      have b3' : Hid (Below wr.heap.size wr w3) := b2.out.trans (b3.mono b2.out.size)
      have hO3 := Lib.hid (own_below hO.out b3'.out)
      have hb3 : Hid (Below w1.heap.size w1 w3) := hb.out.trans (b3'.out.mono hwz.out)
      have q1 : Hid (∀ v ∈ [cells8 d], v.length = 32) := by intro v hv; simp only [List.mem_singleton] at hv; rw [hv, cells8_len, hdl.out]
      have x1 : Hid ([cells8 d].flatten.toArray = (cells8 d).toArray) := by show _ = _; simp
      have hnew : Hid (Reads (w3.alloc (.cells (cells8 d).toArray 23)) 32 (some ⟨w3.heap.size, 0, none⟩) 1 (cells8 d)) := Blk.reads (Blk.new w3 23 (cells8 d).toArray) 0 _ (by rw [cells8_len, hdl.out]) (fun k u hu => by rw [Nat.zero_add, List.getElem?_toArray]; exact hu)
      have hO4 : Hid ((w3.alloc (.cells (cells8 d).toArray 23)).ownsRow w1.heap.size 23 32 uu j (((S.take j).map dg).flatMap cells8)) := own_below hO3.out (Below.heap_below _ _)
      have hb4 : Hid (Below w1.heap.size w1 (w3.alloc (.cells (cells8 d).toArray 23))) := hb3.out.alloc hb3.out.size _
      have hs4 : Hid (w1.heap.size ≤ (w3.alloc (.cells (cells8 d).toArray 23)).heap.size) := hb4.out.size
      have hc1 : Hid (j + 1 ≤ maxLen) := by have := hm40.out; have := hjm.out; show _ ≤ _; unfold maxLen; omega
      have hc3 : Hid ((j + 1) * 32 ≤ 140737488355328) := by have := hm40.out; have := hjm.out; show _ ≤ _; omega
      clear b3 B2 b2 hcA2 hcA hCall hA2 hO hO3 hb hb3 b3' hc
      go_wp2_with (first
        | ((with_reducible change wpList _ _ _ ({ dst := some 22, op := _, type := _, pos := _, after := _, guard := _ } :: _) _ _); refine wpList_buildAggs (o := ⟨some 22, _, _, _, _, _⟩) rfl 42 23 1 _ rfl 32 (by decide) [cells8 d] Tryd.underlying42 size31 zero31 rfl (by decide) (by decide) q1.out rfl ?_; rw [x1.out])
        | ((with_reducible change wpList _ _ _ ({ dst := some 23, op := _, type := _, pos := _, after := _, guard := _ } :: _) _ _); refine wpList_append_src _ (o := ⟨some 23, _, _, _, _, _⟩) rfl (.tmp 18) (.tmp 22) 42 rfl w1.heap.size 23 i0 (.agg Z32) 32 32 Tryd.underlying42 ii iz0 iz1 iz2 rfl (by decide) uu j (((S.take j).map dg).flatMap cells8) rfl hO4.out (some ⟨w3.heap.size, 0, none⟩) 1 1 (cells8 d) rfl hnew.out (fun e => by cases e) (cells8_one d) hc1.out hc3.out hs4.out ?_; intro v5 w5 hG; have hO5 : Hid (w5.ownsRow w1.heap.size 23 32 v5 (j + 1) (((S.take (j + 1)).map dg).flatMap cells8)) := (by show World.ownsRow _ _ _ _ _ _ _; rw [hup.out]; exact hG.own); have hb5 : Hid (Below w1.heap.size w1 w5) := hG.below hb4.out hs4.out (fun k e => (hO4.out.lt k e).1); clear hG))
      go_roundw
      case rel => exact ⟨j + 1, v5, rfl, by go_num, hjm.out, hO5.out, hb5.out⟩
      case measure => (have := hjm.out; simp [intOf]; omega)
    · have z1 : decide ((j : Int) < (m : Int)) = false := decide_eq_false (by omega)
      obtain rfl : j = m := by have := hj.out; omega
      rw [show S.take j = S from List.take_of_length_le (by rw [hm.out]; exact Nat.le_refl _)] at hO
      obtain ⟨A5, c5, rfl, -, -, -, r5, -⟩ := Own.reads hO.out
      have hrd := Lib.hid (own_rd hO.out (digs_map hdg.out S) (by rw [List.length_map, hm.out]) A5 c5 rfl)
      have hfold := Lib.hid (fold_any s (S.map dg) j (by have := hm40.out; omega) A5 c5 wr (base_on hB1.out hb.out) hrd.out)
      rw [hxS.out] at hfold
      have hRr := Lib.hid (onB hR1.out hb.out)
      have hcS : wr.cell? ⟨gs, 0, none⟩ = some (.int .i64 s) := by rw [(onB hG1.out hb.out).cell 0]; rfl
      have hbw : Hid (Below w.heap.size w wr) := hb1.out.trans (hb.out.mono hb1.out.size)
      clear hlt hj hO r5 hrd hA2 hb hb1 hA1 hG1 hB1 hR1 hf4
      go_wp2_with (first
        | (go_at_call 110; refine hfold.out.mono ?_; rintro e w6 ⟨rfl, b6⟩; have hR6 := Lib.hid (onB hRr.out b6); have hb6 : Hid (Below w.heap.size w w6) := hbw.out.trans (b6.mono hbw.out.size); clear b6)
        | ((with_reducible change wpList _ _ _ ({ dst := none, op := Op.store 23 _ _, type := _, pos := _, after := _, guard := _ } :: _) _ _); refine wpList_store_row (o := ⟨none, _, _, _, _, _⟩) rfl 23 (.tmp 4) (.tmp 27) rfl ((w.heap.size + 1)) ((cells8 x).toArray) rfl rfl 23 (Z32) hR6.out F.out.size F.out.zero F.out.one ?_))
      refine bodyPost_ret (results_cell_row rfl _ _ (w.heap.size + 1) 23 (cells8 x).toArray (0, 0) _ rfl (setRow_heap _ _ _ _ _ _ hR6.out) Tryd.underlying23 rfl F.out.size) rfl ?_
      exact ⟨rfl, below_setRow hb6.out (by omega) _⟩
theorem flatP_cells {ps : List (Nat × Nat)} {k : Nat} {p : Nat × Nat} {w : World} {A : Option Addr} {n : Nat} (hr : Reads w 2 A n (flatP ps)) (hn : ps.length = n) (h : ps[k]? = some p) : ∃ b o, A = some ⟨b, o, none⟩ ∧ b < w.heap.size ∧ ∀ w', Below w.heap.size w w' → ∀ j v, (pcells p)[j]? = some v → w'.cell? ⟨b, o + k * 2 + j, none⟩ = some v := flat_cells hr hn h
set_option maxRecDepth 100000 in
set_option maxHeartbeats 2000000 in
theorem asked_any (s : Int) (dg : Nat × Nat → Text) (hdg : ∀ p, (dg p).length = 32) (size : Nat) (hs : size ≤ 1099511627776) (ps : List (Nat × Nat)) (hps : ∀ p ∈ ps, p.1 ≤ p.2 ∧ p.2 ≤ size) (m : Nat) (hm : ps.length = m) (hm40 : m ≤ 1099511627776) (A : Option Addr) (c : Nat) (fv : Value) (w : World) (hB : Base w) (hT : TabAt 3 Lib.deBruijn64tab w) (hg : 3 < w.heap.size)
    (hr : Reads w 2 A m (flatP ps)) (hfv : AtF dg size w fv) :
    Calls Tryd.prog 62 #[.int .i64 s, .slice A m c, fv] w fun e w' => ∃ v, e = .returned v ∧ w'.ownsRow w.heap.size 23 32 v m ((partsD s dg ps).flatMap cells8) ∧ Below w.heap.size w w' := by
  obtain ⟨i0, ii, iz0, iz1, iz2⟩ := info_partsN info32
  obtain ⟨Fi, fn, first, cap, rfl, hf1, hf2, hf3, hf4⟩ := id hfv
  obtain ⟨pd, hpd⟩ : ∃ pd, Hid (partD s dg = pd) := ⟨_, Lib.hid rfl⟩
  have hpl : Hid (∀ p, (pd p).length = 32) := fun p => by rw [← hpd.out]; exact foldOf_len s _ (digs_map hdg _)
  have hpD : Hid (partsD s dg ps = ps.map pd) := by show _ = _; rw [← hpd.out]; rfl
  rw [hpD.out]
  have hb0 : Hid (Below w.heap.size w ((w.alloc (.cells #[.int .i64 s] 3)).alloc (.cells #[.func (.func Fi) first cap] 61))) := ((Below.refl _ w).alloc (Nat.le_refl _) _).alloc (by simp) _
  have hz0 : Hid (((w.alloc (.cells #[.int .i64 s] 3)).alloc (.cells #[.func (.func Fi) first cap] 61)).heap.size = w.heap.size + 2) := by show _ = _; simp
  have hG0 : Hid (Blk ((w.alloc (.cells #[.int .i64 s] 3)).alloc (.cells #[.func (.func Fi) first cap] 61)) w.heap.size 3 #[.int .i64 s]) := (Blk.new w _ _).alloc _
  have hA0 : Hid (Blk ((w.alloc (.cells #[.int .i64 s] 3)).alloc (.cells #[.func (.func Fi) first cap] 61)) (w.heap.size + 1) 61 #[.func (.func Fi) first cap]) := by
    have := Blk.new (w.alloc (.cells #[.int .i64 s] 3)) 61 #[.func (.func Fi) first cap]
    rwa [show (w.alloc (.cells #[.int .i64 s] 3)).heap.size = w.heap.size + 1 by simp] at this
  have hDig : Hid (∀ w', Below (w.heap.size + 2) ((w.alloc (.cells #[.int .i64 s] 3)).alloc (.cells #[.func (.func Fi) first cap] 61)) w' → ∀ p : Nat × Nat, p.1 ≤ p.2 → p.2 ≤ size → Calls Tryd.prog 108 #[.agg (pcells p).toArray, .pointer (some ⟨w.heap.size + 1, 0, none⟩), .pointer (some ⟨w.heap.size, 0, none⟩)] w' fun e w'' => e = .returned (.agg (cells8 (pd p)).toArray) ∧ Below w'.heap.size w' w'') := fun w' hb p h1 h2 => by
    have hbw := hb0.out.trans (hb.mono (by omega))
    rw [← hpd.out]
    exact digestOf_any s dg hdg size hs p h2 h1 (.func (.func Fi) first cap) _ _ w' (base_on hB hbw) (tab_below hT hg hbw) (by have := hbw.size; omega) (onB hA0.out (hb.mono (by rw [hz0.out]; exact Nat.le_refl _))) (onB hG0.out (hb.mono (by rw [hz0.out]; exact Nat.le_refl _))) (hfv.below hbw)
  have r0 := Lib.hid (hr.below hb0.out)
  have hO0 : Hid (((w.alloc (.cells #[.int .i64 s] 3)).alloc (.cells #[.func (.func Fi) first cap] 61)).ownsRow (w.heap.size + 2) 23 32 (.slice none 0 0) 0 (((ps.take 0).map pd).flatMap cells8)) := World.ownsRow_nil _ _ _ _
  have hmf : ∀ (fn : Fn) (first cap : Array Value) (w : World), (Instr.makeFunc fn first cap).run Tryd.prog w = .ok (.func fn first cap) w := fun _ _ _ _ => rfl
  have hcf := Lib.hid (run_fnA (F := 108) Tryd.func108 (by kernel_rfl) (by kernel_rfl))
  replace hm := Lib.hid hm
  replace hm40 := Lib.hid hm40
  replace hps := Lib.hid hps
  clear hdg hs hB hT hg hr hfv hf1 hf2 hf3 hf4 hA0 hG0 hpD hpd
  go_enter Tryd.func62, Tryd.ntmps62
  go_wp2_with fail
  go_loopw [8, 14] (fun u v wr => ∃ (j : Nat) (uu : Value), u = uu ∧ v = .int .i64 (j : Int) ∧ Hid (j ≤ m) ∧ Hid (wr.ownsRow (w.heap.size + 2) 23 32 uu j (((ps.take j).map pd).flatMap cells8)) ∧ Hid (Below (w.heap.size + 2) ((w.alloc (.cells #[.int .i64 s] 3)).alloc (.cells #[.func (.func Fi) first cap] 61)) wr)) (fun _ v _ => m - (intOf v).toNat)
  case atStart => exact ⟨0, _, rfl, rfl, Nat.zero_le _, hO0.out, Below.refl _ _⟩
  case round =>
    clear hO0
    obtain ⟨j, uu, huu, rfl, hj, hO, hb⟩ := hrel
    rw [huu]
    clear huu
    have hwz : Hid (w.heap.size + 2 ≤ wr.heap.size) := by have := hb.out.size; have := hz0.out; show _ ≤ _; omega
    by_cases hlt : j < m
    · have y1 : (j : Int) < (m : Int) := by omega
      have y2 : (0 : Int) ≤ (j : Int) := by omega
      have y3 : IntKind.i64.wrap ((j : Int) + 1) = (j : Int) + 1 := IntWalk.i64_in _ (by have := hm40.out; omega)
      obtain ⟨q, hq⟩ : ∃ q, Hid (ps[j]? = some q) := ⟨_, List.getElem?_eq_getElem (by rw [hm.out]; exact hlt)⟩
      have hqi := Lib.hid (hps.out q (List.mem_of_getElem? hq.out))
      obtain ⟨b, o, rfl, hbl, hc⟩ := flatP_cells r0.out hm.out hq.out
      replace hc := Lib.hid (hc wr (hb.out.mono (by rw [hz0.out]; exact Nat.le_refl _)))
      have hql : Hid ((pcells q).length = 2) := rfl
      have hq1 : Hid ((pcells q).toArray.all (fun v => v.oneCell') = true) := by show _ = _; rw [List.all_toArray]; exact List.all_eq_true.2 (pcells_one q)
      obtain ⟨d, hd⟩ : ∃ d, Hid (pd q = d) := ⟨_, Lib.hid rfl⟩
      have hdl : Hid (d.length = 32) := by show _ = _; rw [← hd.out]; exact hpl.out q
      have hCall := Lib.hid (fun w' (hb' : Below (w.heap.size + 2) ((w.alloc (.cells #[.int .i64 s] 3)).alloc (.cells #[.func (.func Fi) first cap] 61)) w') => hDig.out w' hb' q hqi.out.1 hqi.out.2)
      rw [hd.out] at hCall
      have hup : Hid (((ps.take (j + 1)).map pd).flatMap cells8 = ((ps.take j).map pd).flatMap cells8 ++ cells8 d) := by
        show _ = _
        rw [map_snoc pd ps j q hq.out, List.flatMap_append, List.flatMap_singleton, hd.out]
      have hjm : Hid (j + 1 ≤ m) := by show _ ≤ _; omega
      clear hlt hqi hq hd
      go_wp2_with (first
        | ((with_reducible change wpList _ _ _ ({ dst := some 17, op := _, type := _, pos := _, after := _, guard := _ } :: _) _ _); refine wpList_load_part (o := ⟨some 17, _, _, _, _, _⟩) rfl 176 (.tmp 16) rfl (b) ((o + j * 2)) rfl (pcells q) _ hc.out Tryd.underlying176 rfl rfl ?_)
        | ((with_reducible change wpList _ _ _ ({ dst := none, op := Op.store 176 _ _, type := _, pos := _, after := _, guard := _ } :: _) _ _); refine wpList_store_whole (o := ⟨none, _, _, _, _, _⟩) rfl 176 (.tmp 10) (.tmp 17) rfl (wr.heap.size) ((pcells q).toArray) rfl rfl 176 _ (Blk.new wr _ _) sizeP rfl hq1.out ?_; intro w2 B2 k2; have b2 : Hid (Below wr.heap.size wr w2) := kept_fresh k2; replace B2 := Lib.hid B2; clear k2)
        | ((with_reducible change wpList _ _ _ ({ dst := some 20, op := _, type := _, pos := _, after := _, guard := _ } :: _) _ _); refine wpList_load_row (o := ⟨some 20, _, _, _, _, _⟩) rfl 176 (.tmp 10) rfl (wr.heap.size) rfl 176 ((pcells q).toArray) (0, 0) _ B2.out Tryd.underlying176 rfl sizeP ?_))
      first | rw [hcf.out] | skip
      refine Calls.mono (hCall.out w2 (hb.out.trans (b2.out.mono hwz.out))) ?_
      rintro e w3 ⟨rfl, b3⟩
      have b3' : Hid (Below wr.heap.size wr w3) := b2.out.trans (b3.mono b2.out.size)
      have hO3 := Lib.hid (own_below hO.out b3'.out)
      have hb3 : Hid (Below (w.heap.size + 2) ((w.alloc (.cells #[.int .i64 s] 3)).alloc (.cells #[.func (.func Fi) first cap] 61)) w3) := hb.out.trans (b3'.out.mono hwz.out)
      have q1 : Hid (∀ v ∈ [cells8 d], v.length = 32) := by intro v hv; simp only [List.mem_singleton] at hv; rw [hv, cells8_len, hdl.out]
      have x1 : Hid ([cells8 d].flatten.toArray = (cells8 d).toArray) := by show _ = _; simp
      have hnew : Hid (Reads (w3.alloc (.cells (cells8 d).toArray 23)) 32 (some ⟨w3.heap.size, 0, none⟩) 1 (cells8 d)) := Blk.reads (Blk.new w3 23 (cells8 d).toArray) 0 _ (by rw [cells8_len, hdl.out]) (fun k u hu => by rw [Nat.zero_add, List.getElem?_toArray]; exact hu)
      have hO4 : Hid ((w3.alloc (.cells (cells8 d).toArray 23)).ownsRow (w.heap.size + 2) 23 32 uu j (((ps.take j).map pd).flatMap cells8)) := own_below hO3.out (Below.heap_below _ _)
      have hs4 : Hid (w.heap.size + 2 ≤ (w3.alloc (.cells (cells8 d).toArray 23)).heap.size) := by have := hwz.out; have := b3'.out.size; show _ ≤ _; simp; omega
      have hb4 : Hid (Below (w.heap.size + 2) ((w.alloc (.cells #[.int .i64 s] 3)).alloc (.cells #[.func (.func Fi) first cap] 61)) (w3.alloc (.cells (cells8 d).toArray 23))) := hb3.out.alloc (by have := hwz.out; have := b3'.out.size; omega) _
      have hc1 : Hid (j + 1 ≤ maxLen) := by have := hm40.out; have := hjm.out; show _ ≤ _; unfold maxLen; omega
      have hc3 : Hid ((j + 1) * 32 ≤ 140737488355328) := by have := hm40.out; have := hjm.out; show _ ≤ _; omega
      clear b3 B2 b2 hCall hO hO3 hb hb3 b3' hc
      go_wp2_with (first
        | ((with_reducible change wpList _ _ _ ({ dst := some 22, op := _, type := _, pos := _, after := _, guard := _ } :: _) _ _); refine wpList_buildAggs (o := ⟨some 22, _, _, _, _, _⟩) rfl 42 23 1 _ rfl 32 (by decide) [cells8 d] Tryd.underlying42 size31 zero31 rfl (by decide) (by decide) q1.out rfl ?_; rw [x1.out])
        | ((with_reducible change wpList _ _ _ ({ dst := some 23, op := _, type := _, pos := _, after := _, guard := _ } :: _) _ _); refine wpList_append_src _ (o := ⟨some 23, _, _, _, _, _⟩) rfl (.tmp 18) (.tmp 22) 42 rfl (w.heap.size + 2) 23 i0 (.agg Z32) 32 32 Tryd.underlying42 ii iz0 iz1 iz2 rfl (by decide) uu j (((ps.take j).map pd).flatMap cells8) rfl hO4.out (some ⟨w3.heap.size, 0, none⟩) 1 1 (cells8 d) rfl hnew.out (fun e => by cases e) (cells8_one d) hc1.out hc3.out hs4.out ?_; intro v5 w5 hG; have hO5 : Hid (w5.ownsRow (w.heap.size + 2) 23 32 v5 (j + 1) (((ps.take (j + 1)).map pd).flatMap cells8)) := (by show World.ownsRow _ _ _ _ _ _ _; rw [hup.out]; exact hG.own); have hb5 : Hid (Below (w.heap.size + 2) ((w.alloc (.cells #[.int .i64 s] 3)).alloc (.cells #[.func (.func Fi) first cap] 61)) w5) := hG.below hb4.out hs4.out (fun k e => (hO4.out.lt k e).1); clear hG))
      go_roundw
      case rel => exact ⟨j + 1, v5, rfl, by go_num, hjm.out, hO5.out, hb5.out⟩
      case measure => (have := hjm.out; simp [intOf]; omega)
    · have z1 : decide ((j : Int) < (m : Int)) = false := decide_eq_false (by omega)
      obtain rfl : j = m := by have := hj.out; omega
      rw [show ps.take j = ps from List.take_of_length_le (by rw [hm.out]; exact Nat.le_refl _)] at hO
      have hbw : Hid (Below w.heap.size w wr) := hb0.out.trans (hb.out.mono (by omega))
      have hOw : Hid (wr.ownsRow w.heap.size 23 32 uu j ((ps.map pd).flatMap cells8)) := own_low hO.out (by omega)
      clear hlt hj hO hb hDig r0
      go_wp2_with fail
      go_ret
      exact ⟨_, rfl, hOw.out, hbw.out⟩
end Go.Proofs.YtgldkfaiofkhbaaDoor.AskW

namespace Go.Proofs.YtgldkfaiofkhbaaDoor.ProveW
open Go Go.RowKit Go.Proofs.YtgldkfaiofkhbaaDoor Go.Proofs.YtgldkfaiofkhbaaDoor.Digest Go.Proofs.YtgldkfaiofkhbaaDoor.Mem Go.Proofs.YtgldkfaiofkhbaaDoor.Sha Go.Proofs.YtgldkfaiofkhbaaDoor.ShaWalk Go.Proofs.YtgldkfaiofkhbaaDoor.Bytes Go.Proofs.YtgldkfaiofkhbaaDoor.HashMem Go.Proofs.YtgldkfaiofkhbaaDoor.DigestMem Go.Proofs.YtgldkfaiofkhbaaDoor.DigestTop Go.Proofs.YtgldkfaiofkhbaaDoor.RefTop Go.Proofs.YtgldkfaiofkhbaaDoor.QuietTail Go.Proofs.YtgldkfaiofkhbaaDoor.Grown Go.Proofs.YtgldkfaiofkhbaaDoor.Chain Go.Proofs.YtgldkfaiofkhbaaDoor.TreeMath Go.Proofs.YtgldkfaiofkhbaaDoor.TreeMem Go.Proofs.YtgldkfaiofkhbaaDoor.TreeRoot Go.Proofs.YtgldkfaiofkhbaaDoor.TreeFold Go.Proofs.YtgldkfaiofkhbaaDoor.Append Go.Proofs.YtgldkfaiofkhbaaDoor.Book Go.Proofs.YtgldkfaiofkhbaaDoor.TreeRefRoot Go.Proofs.YtgldkfaiofkhbaaDoor.Held Go.Proofs.YtgldkfaiofkhbaaDoor.WayP Go.Proofs.YtgldkfaiofkhbaaDoor.SpotsMath Go.Proofs.YtgldkfaiofkhbaaDoor.SpotsWalk Go.Proofs.YtgldkfaiofkhbaaDoor.AskP Go.Proofs.YtgldkfaiofkhbaaDoor.Told Go.Proofs.YtgldkfaiofkhbaaDoor.AskW Go.Proofs.YtgldkfaiofkhbaaDoor.WayRows Go.Proofs.YtgldkfaiofkhbaaDoor.RowsP Go.Proofs.YtgldkfaiofkhbaaDoor.Subs Go.Proofs.YtgldkfaiofkhbaaDoor.ProveP Go.Proofs.YtgldkfaiofkhbaaDoor.Joint

theorem eq_fn (F : FuncId) (first cap : Array Value) (w : World) : (binOp .eql 61 (.func (.func F) first cap) .nilFunc).run Tryd.prog w = .ok (.bool false) w := by kernel_rfl
theorem way_post (x y : Nat) (hs : x ≤ 1099511627776) (hi : y < x) (w : World) : Calls Tryd.prog 63 #[.int .i64 (x : Int), .int .i64 (y : Int)] w fun e w' => ∃ v, e = .returned v ∧ w'.ownsRow w.heap.size 176 2 v (wayR 0 x y).length (flatP (wayR 0 x y)) ∧ Below w.heap.size w w' :=
  (WayX.way_rows x y hs hi w).mono fun e w' ⟨v, ps, h1, h2, h3, h4⟩ => by subst h2; exact ⟨v, h1, h3, h4⟩
theorem parts_post (x y : Nat) (hi : x ≤ y) (hs : y ≤ 1099511627776) (w : World) : Calls Tryd.prog 71 #[.int .i64 (x : Int), .int .i64 (y : Int)] w fun e w' => ∃ v, e = .returned v ∧ w'.ownsRow w.heap.size 176 2 v (partsOf x y).length (flatP (partsOf x y)) ∧ Below w.heap.size w w' := parts_any x y hi hs w

set_option maxRecDepth 100000 in
set_option maxHeartbeats 2000000 in
theorem treeIncl_any (s : Int) (dg : Nat × Nat → Text) (hdg : ∀ p, (dg p).length = 32) (a b : Int) (Fi : FuncId) (first cap : Array Value) (w : World) (hB : Base w) (hT : TabAt 3 Lib.deBruijn64tab w) (hg : 3 < w.heap.size)
    (hfv : ∀ n : Nat, n ≤ 1099511627776 → a = (n : Int) → AtF dg n w (.func (.func Fi) first cap)) :
    Calls Tryd.prog 16 #[.int .i64 s, .int .i64 a, .int .i64 b, .func (.func Fi) first cap] w fun e w' => ∃ v n, e = .returned (.tuple #[v, .int .i64 (inclE a b)]) ∧ (inclRows a b).length = n ∧ w'.ownsRow w.heap.size 23 32 v n ((partsD s dg (inclRows a b)).flatMap cells8) ∧ Below w.heap.size w w' := by
  have hn := eq_fn Fi first cap
  obtain ⟨Fx, hFx⟩ : ∃ Fx, Value.func (.func Fi) first cap = Fx := ⟨_, rfl⟩
  by_cases h : insideB a b = true
  · have hh := inside_true h
    obtain ⟨x, rfl⟩ : ∃ x : Nat, a = (x : Int) := ⟨a.toNat, by omega⟩
    obtain ⟨y, rfl⟩ : ∃ y : Nat, b = (y : Int) := ⟨b.toNat, by omega⟩
    have hin := Lib.hid (inclRows_in (size := (x : Int)) (i := (y : Int)))
    have hlen := Lib.hid (inclRows_len (x : Int) (y : Int))
    have hrw : Hid (inclRows (x : Int) (y : Int) = wayR 0 x y) := by show _ = _; unfold inclRows; rw [if_pos h]; rfl
    have hE : inclE (x : Int) (y : Int) = 0 := by unfold inclE; rw [if_pos h]
    rw [hE]
    rw [hrw.out] at hin hlen ⊢
    obtain ⟨ps, hps⟩ : ∃ ps, Hid (wayR 0 x y = ps) := ⟨_, Lib.hid rfl⟩
    rw [hps.out] at hin hlen ⊢
    have hI := Lib.hid (fun w' => inside_any (x : Int) (y : Int) w')
    have hW := Lib.hid ((way_post x y (by omega) (by omega) w))
    rw [hps.out] at hW
    have hA := Lib.hid (fun n (hn : ps.length = n) A c w' (hr : Reads w' 2 A n (flatP ps)) (hb : Below w.heap.size w w') => asked_any s dg hdg x (by omega) ps (fun p hp => hin.out p hp) n hn (by rw [← hn]; exact hlen.out) A c _ w' (base_on hB hb) (tab_below hT hg hb) (by have := hb.size; omega) hr ((hfv x (by omega) rfl).below hb))
    rw [h] at hI
    clear hh hin hlen hrw hE hdg hB hT hg hfv hps h hFx
    go_enter Tryd.func16, Tryd.ntmps16
    go_wp2_with (first
      | (go_at_call 61; refine (hI.out _).mono ?_; rintro e w1 ⟨rfl, rfl⟩)
      | (go_at_call 63; refine hW.out.mono ?_; rintro e w1 ⟨v1, rfl, o1, b1⟩; obtain ⟨A1, c1, rfl, -, -, -, r1, -⟩ := Own.reads o1; replace r1 := Lib.hid r1; replace b1 := Lib.hid b1; clear o1)
      | (go_at_call 62; refine (hA.out _ rfl _ _ _ r1.out b1.out).mono ?_; rintro e w2 ⟨v2, rfl, o2, b2⟩; have ob : Hid (w2.ownsRow w.heap.size 23 32 v2 ps.length ((partsD s dg ps).flatMap cells8)) := own_low o2 b1.out.size; have bb : Hid (Below w.heap.size w w2) := b1.out.trans (b2.mono b1.out.size); clear o2 b2))
    go_ret2
    exact ⟨_, _, rfl, rfl, ob.out, bb.out⟩
  · have h' : insideB a b = false := by simpa using h
    have hrw : inclRows a b = [] := by unfold inclRows; rw [if_neg h]
    have hE : inclE a b = 60 := by unfold inclE; rw [if_neg h]
    rw [hrw, hE]
    have hI := Lib.hid (fun w' => inside_any a b w')
    rw [h'] at hI
    clear hdg hB hT hg hfv h h' hrw hE hFx
    go_enter Tryd.func16, Tryd.ntmps16
    go_wp2_with (go_at_call 61; refine (hI.out _).mono ?_; rintro e w1 ⟨rfl, rfl⟩)
    go_ret2
    exact ⟨_, _, rfl, rfl, World.ownsRow_nil _ _ _ _, Below.refl _ _⟩

set_option maxRecDepth 100000 in
set_option maxHeartbeats 2000000 in
theorem treeCons_any (s : Int) (dg : Nat × Nat → Text) (hdg : ∀ p, (dg p).length = 32) (a b : Int) (Fi : FuncId) (first cap : Array Value) (w : World) (hB : Base w) (hT : TabAt 3 Lib.deBruijn64tab w) (hg : 3 < w.heap.size)
    (hfv : ∀ n : Nat, n ≤ 1099511627776 → b = (n : Int) → AtF dg n w (.func (.func Fi) first cap)) :
    Calls Tryd.prog 23 #[.int .i64 s, .int .i64 a, .int .i64 b, .func (.func Fi) first cap] w fun e w' => ∃ v n, e = .returned (.tuple #[v, .int .i64 (consE a b)]) ∧ (consRows a b).length = n ∧ w'.ownsRow w.heap.size 23 32 v n ((partsD s dg (consRows a b)).flatMap cells8) ∧ Below w.heap.size w w' := by
  have hn := eq_fn Fi first cap
  obtain ⟨Fx, hFx⟩ : ∃ Fx, Value.func (.func Fi) first cap = Fx := ⟨_, rfl⟩
  by_cases h : joinsB a b = true
  · have hh := joins_true h
    obtain ⟨x, rfl⟩ : ∃ x : Nat, a = (x : Int) := ⟨a.toNat, by omega⟩
    obtain ⟨y, rfl⟩ : ∃ y : Nat, b = (y : Int) := ⟨b.toNat, by omega⟩
    have hin := Lib.hid (consRows_in (old := (x : Int)) (size := (y : Int)))
    have hlen := Lib.hid (consRows_len (x : Int) (y : Int))
    have hrw : Hid (consRows (x : Int) (y : Int) = partsOf x y) := by show _ = _; unfold consRows; rw [if_pos h]; rfl
    have hE : consE (x : Int) (y : Int) = 0 := by unfold consE; rw [if_pos h]
    rw [hE]
    rw [hrw.out] at hin hlen ⊢
    obtain ⟨ps, hps⟩ : ∃ ps, Hid (partsOf x y = ps) := ⟨_, Lib.hid rfl⟩
    rw [hps.out] at hin hlen ⊢
    have hI := Lib.hid (fun w' => sizes_any (x : Int) (y : Int) w')
    have hW := Lib.hid ((parts_post x y (by omega) (by omega) w))
    rw [hps.out] at hW
    have hA := Lib.hid (fun n (hn : ps.length = n) A c w' (hr : Reads w' 2 A n (flatP ps)) (hb : Below w.heap.size w w') => asked_any s dg hdg y (by omega) ps (fun p hp => hin.out p hp) n hn (by rw [← hn]; exact hlen.out) A c _ w' (base_on hB hb) (tab_below hT hg hb) (by have := hb.size; omega) hr ((hfv y (by omega) rfl).below hb))
    rw [h] at hI
    clear hh hin hlen hrw hE hdg hB hT hg hfv hps h hFx
    go_enter Tryd.func23, Tryd.ntmps23
    go_wp2_with (first
      | (go_at_call 70; refine (hI.out _).mono ?_; rintro e w1 ⟨rfl, rfl⟩)
      | (go_at_call 71; refine hW.out.mono ?_; rintro e w1 ⟨v1, rfl, o1, b1⟩; obtain ⟨A1, c1, rfl, -, -, -, r1, -⟩ := Own.reads o1; replace r1 := Lib.hid r1; replace b1 := Lib.hid b1; clear o1)
      | (go_at_call 62; refine (hA.out _ rfl _ _ _ r1.out b1.out).mono ?_; rintro e w2 ⟨v2, rfl, o2, b2⟩; have ob : Hid (w2.ownsRow w.heap.size 23 32 v2 ps.length ((partsD s dg ps).flatMap cells8)) := own_low o2 b1.out.size; have bb : Hid (Below w.heap.size w w2) := b1.out.trans (b2.mono b1.out.size); clear o2 b2))
    go_ret2
    exact ⟨_, _, rfl, rfl, ob.out, bb.out⟩
  · have h' : joinsB a b = false := by simpa using h
    have hrw : consRows a b = [] := by unfold consRows; rw [if_neg h]
    have hE : consE a b = 60 := by unfold consE; rw [if_neg h]
    rw [hrw, hE]
    have hI := Lib.hid (fun w' => sizes_any a b w')
    rw [h'] at hI
    clear hdg hB hT hg hfv h h' hrw hE hFx
    go_enter Tryd.func23, Tryd.ntmps23
    go_wp2_with (go_at_call 70; refine (hI.out _).mono ?_; rintro e w1 ⟨rfl, rfl⟩)
    go_ret2
    exact ⟨_, _, rfl, rfl, World.ownsRow_nil _ _ _ _, Below.refl _ _⟩
end Go.Proofs.YtgldkfaiofkhbaaDoor.ProveW
