/-
  docketref17.bytes.way, walked (printed by wip/gen_way17.py).
-/
import Derived.Test.YtngieimjlkpkaaaBytes17
namespace Go.Proofs.Ytngieimjlkpkaaa.Way17
open Go Go.RowKit Go.Proofs.Ytngieimjlkpkaaa Go.Proofs.Ytngieimjlkpkaaa.Mem Go.Proofs.Ytngieimjlkpkaaa.Sha Go.Proofs.Ytngieimjlkpkaaa.Bytes Go.Proofs.Ytngieimjlkpkaaa.Append Go.Proofs.Ytngieimjlkpkaaa.TreeMem Go.Proofs.Ytngieimjlkpkaaa.TreeRoot Go.Proofs.Ytngieimjlkpkaaa.Book Go.Proofs.Ytngieimjlkpkaaa.Own Go.Proofs.Ytngieimjlkpkaaa.Reader4 Go.Proofs.Ytngieimjlkpkaaa.Bytes17

theorem zero31' : ((Try.prog.info? 28).bind (·.zero)).isSome = true := by kernel_rfl
theorem own_kept {S : Nat → Prop} {w w' : World} {base e size n : Nat} {v : Value} {xs : List Value} (h : w.ownsRow base e size v n xs) (hk : Kept S w w') (hS : ∀ k, v.ownBlock = some k → ¬ S k) : w'.ownsRow base e size v n xs := by
  refine ⟨h.1, h.2.imp id fun ⟨g, cap, cur, h1, h2, h3, h4⟩ => ⟨g, cap, cur, h1, h2, ?_, h4⟩⟩
  rw [hk.block g (Array.getElem?_eq_some_iff.1 h3).1 (hS g (by rw [h1]; rfl)), h3]
/-- Where way's loop stands behind i digests. -/
def St (p : Text) (i : Nat) (l : List Text) (p1 : Text) (s1 : Bool) : Prop := (s1 = false ∧ 32 * i ≤ p.length ∧ l = chunks p i ∧ p1 = p.drop (32 * i)) ∨ (s1 = true ∧ p.length < 32 * i)
/-- What a call of way leaves. -/
def WayOut (w : World) (g : Nat) (p : Text) (N : Nat) (e : Ending) (w' : World) : Prop :=
  ∃ (l : List Text) (A : Option Addr) (c : Nat), e = .returned (.slice A l.length c) ∧ RdD w' A l.length l ∧ (A = none → l.length = 0 ∧ c = 0) ∧ l.length ≤ c ∧ l.length ≤ N ∧ (32 * N ≤ p.length → l = chunks p N) ∧ (∀ a, A = some a → w.heap.size ≤ a.block) ∧ Kept (· = g) w w'

set_option maxRecDepth 100000 in
theorem way_short (g B : Nat) (p : Text) (n : Int) (w : World) (h : RB w g B p true) :
    Calls Try.prog 64 #[.pointer (some ⟨g, 0, none⟩), .int .i64 n] w fun e w' => e = .returned (.slice none 0 0) ∧ w = w' := by
  obtain ⟨-, A, c, hb, -⟩ := h
  have g1 : w.cell? ⟨g, 1, none⟩ = some (.bool true) := by rw [hb.cell 1]; rfl
  clear hb
  by_cases hn : 0 < n
  · have y1 : decide (0 < n) = true := decide_eq_true hn
    go_enter Try.func64, Try.ntmps64
    go_wp2_with fail
    go_loop [5, 6] (fun l v => l = .slice none 0 0 ∧ v = .int .i64 0) (fun _ _ => 0)
    case atStart => exact ⟨rfl, rfl⟩
    case round =>
      obtain ⟨rfl, rfl⟩ := hrel
      go_wp2_with fail
      go_ret
      exact ⟨rfl, rfl⟩
  · have y1 : decide (0 < n) = false := decide_eq_false hn
    go_enter Try.func64, Try.ntmps64
    go_wp2_with fail
    go_loop [5, 6] (fun l v => l = .slice none 0 0 ∧ v = .int .i64 0) (fun _ _ => 0)
    case atStart => exact ⟨rfl, rfl⟩
    case round =>
      obtain ⟨rfl, rfl⟩ := hrel
      go_wp2_with fail
      go_ret
      exact ⟨rfl, rfl⟩

set_option maxRecDepth 100000 in
set_option maxHeartbeats 1000000 in
theorem way_any (g B : Nat) (p : Text) (hp : p.length < 140737488355328) (n : Int) (hn : n ≤ 1099511627776) (w : World) (h : RB w g B p false) :
    Calls Try.prog 64 #[.pointer (some ⟨g, 0, none⟩), .int .i64 n] w (WayOut w g p n.toNat) := by
  obtain ⟨i0, ii, iz0, iz1, iz2⟩ := info_partsN info32
  have hgl := Lib.hid h.lt
  have hR0 := Lib.hid h
  have hp47 := Lib.hid hp
  have hO0 : Hid (w.ownsRow w.heap.size 28 32 (.slice none 0 0) 0 (([] : List Text).flatMap cells8)) := World.ownsRow_nil _ _ _ _
  clear h hp
  go_enter Try.func64, Try.ntmps64
  go_wp2_with fail
  go_loopw [5, 6] (fun lv v wr => ∃ (i : Nat) (l : List Text) (A1 : Option Addr) (c1 : Nat) (p1 : Text) (s1 : Bool), v = .int .i64 (i : Int) ∧ lv = .slice A1 i c1 ∧ i ≤ n.toNat ∧ Hid (l.length = i) ∧ Hid (Digs l) ∧ Hid (wr.ownsRow w.heap.size 28 32 (.slice A1 i c1) i (l.flatMap cells8)) ∧ Hid (RB wr g B p1 s1) ∧ Hid (St p i l p1 s1) ∧ Hid (Kept (· = g) w wr)) (fun _ v _ => n.toNat - (intOf v).toNat)
  case atStart => exact ⟨0, [], none, 0, p, false, rfl, rfl, Nat.zero_le _, rfl, (fun d h => by cases h), hO0.out, hR0.out, .inl ⟨rfl, by omega, rfl, by simp⟩, Kept.refl _ _⟩
  case round =>
    clear hO0 hR0
    obtain ⟨i, l, A1, c1, p1, s1, rfl, rfl, hin, hl, hd, hO, hR, hS, hK⟩ := hrel
    have hi0 : (0 : Int) ≤ (i : Int) := by omega
    have hi40 : (i : Int) ≤ 1099511627776 := by omega
    have hfin : Hid ((¬ ((i : Int) < n) ∨ s1 = true) → WayOut w g p n.toNat (.returned (.slice A1 i c1)) wr) := fun hx => by
      obtain ⟨A2, c2, e2, hc2, -, hnil2, hr2, hA2⟩ := Own.reads hO.out
      injection e2 with e3 e4 e5
      subst e3 e5
      refine ⟨l, A1, c1, by rw [hl.out], ⟨rfl, hd.out, by rw [hl.out]; exact hr2⟩, by rw [hl.out]; exact hnil2, by rw [hl.out]; exact hc2, by rw [hl.out]; exact hin, fun h32 => ?_, fun a ha => (hA2 a ha).1, hK.out⟩
      rcases hS.out with ⟨h1, h2, h3, h4⟩ | ⟨h1, h2⟩
      · rcases hx with hx | hx
        · rw [h3, show i = n.toNat by omega]
        · rw [h1] at hx; cases hx
      · omega
    have hRl := hR.out
    obtain ⟨-, A3, c3, hb3, -⟩ := hRl
    have g1 : wr.cell? ⟨g, 1, none⟩ = some (.bool s1) := by rw [hb3.cell 1]; rfl
    clear hb3
    by_cases hlt : (i : Int) < n
    · cases s1 with
      | true =>
        have y1 : decide ((i : Int) < n) = true := decide_eq_true hlt
        have hres := Lib.hid (hfin.out (.inr rfl))
        clear hfin hlt
        go_wp2_with fail
        go_ret
        exact hres.out
      | false =>
        have y1 : decide ((i : Int) < n) = true := decide_eq_true hlt
        have hin2 : Hid (i < n.toNat) := by show _ < _; omega
        have hp1 : p1.length < 140737488355328 := by
          rcases hS.out with ⟨h1, h2, h3, h4⟩ | ⟨h1, h2⟩
          · rw [h4, List.length_drop]; have := hp47.out; omega
          · cases h1
        have hT := Lib.hid (digest17_any p1 hp1 g B false wr hR.out)
        have hsz : Hid (w.heap.size ≤ wr.heap.size) := hK.out.size
        have hl1 : Hid (i + 1 ≤ maxLen) := by show _ ≤ _; unfold maxLen; omega
        have hl2 : Hid ((i + 1) * 32 ≤ 140737488355328) := by show _ ≤ _; omega
        have hon : Hid (∀ k, (Value.slice A1 i c1).ownBlock = some k → w.heap.size ≤ k) := fun k e => (hO.out.lt k e).1
        clear hfin hlt hp1
        go_wp2_with (first
          | (go_at_call 74; refine hT.out.mono ?_; rintro e w1 ⟨d, rfl, hdl, hd1, hd2, hk1⟩; have hO1 : Hid ((w1.alloc (.cells (cells8 d).toArray 28)).ownsRow w.heap.size 28 32 (.slice A1 i c1) i (l.flatMap cells8)) := World.ownsRow.alloc (w := w1) (own_kept hO.out hk1 (fun k e h => by have := hon.out k e; have := hgl.out; omega)) _; have hnew : Hid (Reads (w1.alloc (.cells (cells8 d).toArray 28)) 32 (some ⟨w1.heap.size, 0, none⟩) 1 (cells8 d)) := Blk.reads (Blk.new w1 28 (cells8 d).toArray) 0 _ (by rw [cells8_len, hdl]) (fun k u hu => by rw [Nat.zero_add, List.getElem?_toArray]; exact hu); have hs1 : Hid (w.heap.size ≤ (w1.alloc (.cells (cells8 d).toArray 28)).heap.size) := (by have := hk1.size; have := hsz.out; show _ ≤ _; simp; omega); have q1 : Hid (∀ v ∈ [cells8 d], v.length = 32) := (by intro v hv; simp only [List.mem_singleton] at hv; rw [hv, cells8_len, hdl]); have x1 : Hid ([cells8 d].flatten.toArray = (cells8 d).toArray) := (by show _ = _; simp); have hK1 := Lib.hid ((hK.out.trans hk1 (fun _ _ h => h)).alloc (.cells (cells8 d).toArray 28)); replace hd1 := Lib.hid hd1; replace hd2 := Lib.hid hd2; replace hdl := Lib.hid hdl; have hgl1 : Hid (g < w1.heap.size) := (by have := hk1.size; have := hsz.out; have := hgl.out; show _ < _; omega); clear hk1 hT)
          | ((with_reducible change wpList _ _ _ ({ dst := some 22, op := _, type := _, pos := _, after := _, guard := _ } :: _) _ _); refine wpList_buildAggs (o := ⟨some 22, _, _, _, _, _⟩) rfl 32 28 1 _ rfl 32 (by decide) [cells8 d] Try.underlying32 size31 zero31' rfl (by decide) (by decide) q1.out rfl ?_; rw [x1.out])
          | ((with_reducible change wpList _ _ _ ({ dst := some 23, op := _, type := _, pos := _, after := _, guard := _ } :: _) _ _); refine wpList_append_src _ (o := ⟨some 23, _, _, _, _, _⟩) rfl (.tmp 19) (.tmp 22) 32 rfl w.heap.size 28 i0 (.agg Z32) 32 32 Try.underlying32 ii iz0 iz1 iz2 rfl (by decide) (.slice A1 i c1) i (l.flatMap cells8) rfl hO1.out (some ⟨w1.heap.size, 0, none⟩) 1 1 (cells8 d) rfl hnew.out (fun e => by cases e) (cells8_one d) hl1.out hl2.out hs1.out ?_; intro v3 w3 hG; have hO3' := hG.own; obtain ⟨A2, c2, rfl, -⟩ := Own.reads hO3'; have hO3 : Hid (w3.ownsRow w.heap.size 28 32 (.slice A2 (i + 1) c2) (i + 1) ((l ++ [d]).flatMap cells8)) := (by show World.ownsRow _ _ _ _ _ _ _; rw [List.flatMap_append, List.flatMap_singleton]; exact hO3'); have hgk := hG.grow; have hK3 : Hid (Kept (· = g) w w3) := hK1.out.grown hgk (fun k e => .inr (hon.out k e)); have hRk : Hid (∀ p' s', RB w1 g B p' s' → RB w3 g B p' s') := (fun p' s' h => (h.below (Below.heap_below _ _)).kept (S := fun k => some k = (Value.slice A1 i c1).ownBlock) ⟨hgk.os, hgk.tape, hgk.output, hgk.size, fun q hq hne => hgk.block q hq hne⟩ (fun e => by have := hon.out g e.symm; have := hgl.out; omega) (fun a ha e => by have := hon.out a e.symm; have := hgl.out; have := h.1; omega)); clear hG hO3' hgk hO1 hnew hs1))
        have hSn : Hid (∃ p2 s2, RB w3 g B p2 s2 ∧ St p (i + 1) (l ++ [d]) p2 s2) := by
          rcases hS.out with ⟨-, h2, h3, h4⟩ | ⟨h1, h2⟩
          · have hln : p1.length = p.length - 32 * i := by rw [h4, List.length_drop]
            by_cases hge : 32 ≤ p1.length
            · obtain ⟨e1, hR1⟩ := hd1.out hge
              refine ⟨p1.drop 32, false, hRk.out _ _ hR1, .inl ⟨rfl, by omega, ?_, ?_⟩⟩
              · rw [chunks_succ, ← h3, e1, h4]; rfl
              · rw [h4, List.drop_drop]; congr 1
            · exact ⟨p1, true, hRk.out _ _ (hd2.out (by omega)), .inr ⟨rfl, by omega⟩⟩
          · cases h1
        obtain ⟨p2, s2, hR2, hS2⟩ := hSn.out
        have hll : Hid ((l ++ [d]).length = i + 1) := by show _ = _; rw [List.length_append, hl.out]; rfl
        have hdd : Hid (Digs (l ++ [d])) := hd.out.append_ (Digs.one hdl.out)
        replace hR2 := Lib.hid hR2
        replace hS2 := Lib.hid hS2
        clear hSn
        go_roundw
        case rel => exact ⟨i + 1, l ++ [d], A2, c2, p2, s2, by go_num, rfl, hin2.out, hll.out, hdd.out, hO3.out, hR2.out, hS2.out, hK3.out⟩
        case measure => (have := hin2.out; simp [intOf]; omega)
    · have y1 : decide ((i : Int) < n) = false := decide_eq_false hlt
      have hres := Lib.hid (hfin.out (.inl hlt))
      clear hfin hlt
      go_wp2_with fail
      go_ret
      exact hres.out
end Go.Proofs.Ytngieimjlkpkaaa.Way17
