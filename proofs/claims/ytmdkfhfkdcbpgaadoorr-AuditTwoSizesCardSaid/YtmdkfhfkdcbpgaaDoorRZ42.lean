/-
  Texts of the claim, put into one file: AuditTwoEvents, AuditTwoSizes.
-/
import Derived.Test.YtmdkfhfkdcbpgaaDoorRZ41
import Derived.Test.YtmdkfhfkdcbpgaaDoorRZ40
import Derived.Test.YtmdkfhfkdcbpgaaDoorRZ38
import Derived.Test.YtmdkfhfkdcbpgaaDoorRZ6
import Derived.Test.YtmdkfhfkdcbpgaaDoorRZ29
import Derived.LoopN
import Derived.Test.YtmdkfhfkdcbpgaaDoorRZ7

namespace Go.Proofs.YtmdkfhfkdcbpgaaDoorR.AuditTwoEvents
open Go Go.RowKit Go.Proofs.YtmdkfhfkdcbpgaaDoorR Mem Sha Bytes HashMem DigestMem RefSum RefCut QuietTail Grown TreeMem TreeRoot Go.Proofs.YtmdkfhfkdcbpgaaDoorR.Append Held Guard Chain ProofEnc Ref17 TwiceP Clash Node RowsT RowsY Want Law20 Same8 Extract Book Book2 AudIncl Way20 TwoEvP Included WayOwn TwoEv TwoEvAny Told20 Told20b BuildD

theorem texts_long {s : Int} {e : Text} {k : Nat} (hk : e.length = k) (hk47 : k < 140737488355327) {x1 x2 : Int} {ds : List Text} (hd : Digs ds) : ∀ q ∈ evTexts s e x1 x2 ds, q.length < 140737488355328 := fun q hq => by
 have hxt := inclOf_texts s x1 x2 (leafOf s e) ds (by rw [leaf_sum]; exact sumOf_len _ _) hd
 rcases List.mem_cons.1 hq with h | h
 ·rw [h]; simp; omega
 ·rw [hxt.2 q h]; decide
theorem texts_pos {s : Int} {e : Text} {x1 x2 : Int} {ds : List Text} (hd : Digs ds) : ∀ q ∈ evTexts s e x1 x2 ds, 0 < q.length := fun q hq => by
 have hxt := inclOf_texts s x1 x2 (leafOf s e) ds (by rw [leaf_sum]; exact sumOf_len _ _) hd
 rcases List.mem_cons.1 hq with h | h
 ·rw [h]; exact Nat.succ_pos _
 ·rw [hxt.2 q h]; decide
theorem texts_few {s : Int} {e : Text} {x1 x2 : Int} {ds : List Text} (hd : Digs ds) (hn : ds.length ≤ 300) : (evTexts s e x1 x2 ds).length ≤ 301 := by
 have hxt := inclOf_texts s x1 x2 (leafOf s e) ds (by rw [leaf_sum]; exact sumOf_len _ _) hd
 unfold evTexts
 rw [List.length_cons]
 omega
structure FitE (cs : Array Value) : Prop where
 size : (Tryd.prog.info? 82).map (·.size) = some cs.size
 zero : (#[Value.slice none 0 0, Value.slice none 0 0] : Array Value).size = cs.size
 one : cs.all (fun v => v.oneCell') = true
theorem XR.fit {w : World} {s : Int} {want : Bool} {ts : List Text} {xa xb : Value} {ok : Bool} (h : XR w s want ts xa xb ok) : FitE #[xa, xb] := by
 refine ⟨sizeE2, rfl, ?_⟩
 rcases h with ⟨-, rfl, rfl, -⟩ | ⟨-, -, ga, ca, gb, cb, p, q, rfl, rfl, -⟩
 ·rw [List.all_toArray]; rfl
 ·rw [List.all_toArray]; rfl
end Go.Proofs.YtmdkfhfkdcbpgaaDoorR.AuditTwoEvents

namespace Go.Proofs.YtmdkfhfkdcbpgaaDoorR.AuditTwoSizes
open Go Go.RowKit Go.Proofs.YtmdkfhfkdcbpgaaDoorR Mem Sha Bytes HashMem DigestMem QuietTail Grown TreeMem TreeRoot Go.Proofs.YtmdkfhfkdcbpgaaDoorR.Append Held Guard Guard2 Chain ProofEnc Ref17 TwiceP Clash Node AheadT RowsT RowsY Want Plain Law20 Same8 Extract Book Book2 AudIncl AudJoins Way20 TwoEvP SizesP Included WayOwn TwoEv Told20 Told20b AheadAny Joined TwoSz TwoSzAny AuditTwoEvents

theorem ty_one {w : World} {n : Nat} {xs : List Value} {ts : List Text} (hl : xs.length = n * 1) (h : Ty w xs ts) (hn : ts.length = n) : ∀ u ∈ xs, u.oneCell' = true := by
 intro u hu
 obtain ⟨j, hj, rfl⟩ := List.mem_iff_getElem.1 hu
 obtain ⟨-, g, c, h1, -⟩ := h j _ (List.getElem?_eq_getElem (show j < ts.length by omega))
 rw [List.getElem?_eq_getElem hj] at h1
 rw [Option.some.inj h1]
 rfl
set_option maxRecDepth 100000 in
set_option maxHeartbeats 8000000 in
theorem auditTwoSizes_any (s : Int) (hs63 : s < 9223372036854775808) (r0 r1 : Text) (h0 : r0.length = 32) (hr1 : r1.length = 32) (j1 j2 : Int) (js0 : List Text) (o0 : Nat) (A3 : Option Addr) (c3 : Nat) (hoc : o0 ≤ c3) (e : Text) (k : Nat) (hk : e.length = k) (hk47 : k < 140737488355327) (A : Option Addr) (c : Nat) (hkc : k ≤ c) (hnil : A = none → k = 0 ∧ c = 0) (x1 x2 : Int) (es1 : List Text) (n0 : Nat) (A2 : Option Addr) (c2 : Nat) (hnc : n0 ≤ c2)
  (f : Text) (l : Nat) (hl : f.length = l) (hl47 : l < 140737488355327) (B : Option Addr) (d : Nat) (hld : l ≤ d) (hnilB : B = none → l = 0 ∧ d = 0) (y1 y2 : Int) (es2 : List Text) (m0 : Nat) (B2 : Option Addr) (d2 : Nat) (hmd : m0 ≤ d2) (w : World) (hB : Base w) (hrj0 : RdD w A3 o0 js0) (hr : Reads w 1 A k (cells8 e)) (hrd0 : RdD w A2 n0 es1) (hrf : Reads w 1 B l (cells8 f)) (hrdf0 : RdD w B2 m0 es2) :
  Calls Tryd.prog 9 #[.int .i64 s, .agg (cells8 r0).toArray, .agg (cells8 r1).toArray, .agg (inclCells j1 j2 A3 o0 c3), .slice A k c, .agg (inclCells x1 x2 A2 n0 c2), .slice B l d, .agg (inclCells y1 y2 B2 m0 d2)] w fun e' w' => e' = .returned (.bool true) ∧ Below w.heap.size w w' := by
 obtain ⟨i0, ii, iz0, iz1, iz2⟩ := info_partsN infoT
 obtain ⟨o, ho⟩ : ∃ o, min o0 300 = o := ⟨_, rfl⟩
 obtain ⟨js, hjs⟩ : ∃ ds, js0.take o = ds := ⟨_, rfl⟩
 obtain ⟨n, hn⟩ : ∃ n, min n0 300 = n := ⟨_, rfl⟩
 obtain ⟨ds, hds⟩ : ∃ ds, es1.take n = ds := ⟨_, rfl⟩
 obtain ⟨m, hm⟩ : ∃ m, min m0 300 = m := ⟨_, rfl⟩
 obtain ⟨es, hes⟩ : ∃ es, es2.take m = es := ⟨_, rfl⟩
 have hrj : RdD w A3 o js := by rw [← hjs]; exact hrj0.take_ o (by omega)
 have hrd : RdD w A2 n ds := by rw [← hds]; exact hrd0.take_ n (by omega)
 have hrdf : RdD w B2 m es := by rw [← hes]; exact hrdf0.take_ m (by omega)
 have ho300 : o ≤ 300 := by omega
 have hn300 : n ≤ 300 := by omega
 have hm300 : m ≤ 300 := by omega
 have hF0 : Hid (∀ w', Calls Tryd.prog 32 #[.slice A3 o0 c3, .int .i64 300] w' fun e w'' => e = .returned (.slice A3 o c3) ∧ w' = w'') := fun w' => by
  have := few20_any A3 o0 c3 hoc w'
  rwa [ho] at this
 have hF1 : Hid (∀ w', Calls Tryd.prog 32 #[.slice A2 n0 c2, .int .i64 300] w' fun e w'' => e = .returned (.slice A2 n c2) ∧ w' = w'') := fun w' => by
  have := few20_any A2 n0 c2 hnc w'
  rwa [hn] at this
 have hF2 : Hid (∀ w', Calls Tryd.prog 32 #[.slice B2 m0 d2, .int .i64 300] w' fun e w'' => e = .returned (.slice B2 m d2) ∧ w' = w'') := fun w' => by
  have := few20_any B2 m0 d2 hmd w'
  rwa [hm] at this
 have hl1 := texts_long (s := s) (x1 := x1) (x2 := x2) hk hk47 hrd.2.1
 have hl2 := texts_long (s := s) (x1 := y1) (x2 := y2) hl hl47 hrdf.2.1
 have hp1 := texts_pos (s := s) (e := e) (x1 := x1) (x2 := x2) hrd.2.1
 have hp2 := texts_pos (s := s) (e := f) (x1 := y1) (x2 := y2) hrdf.2.1
 have hf1 := texts_few (s := s) (e := e) (x1 := x1) (x2 := x2) hrd.2.1 (by rw [hrd.1]; exact hn300)
 have hf2 := texts_few (s := s) (e := f) (x1 := y1) (x2 := y2) hrdf.2.1 (by rw [hrdf.1]; exact hm300)
 obtain ⟨hl3, hf3⟩ := joint_long s r0 h0 (x1 := j1) (x2 := j2) hrj.2.1
 have hWa1 := Lib.hid (fun w' (hb : Below w.heap.size w w') => way20_own s hs63 e k hk hk47 A c hkc hnil x1 x2 ds A2 n c2 (by omega) w' (hr.below hb) (hrd.below hb))
 have hWa2 := Lib.hid (fun w' (hb : Below w.heap.size w w') => way20_own s hs63 f l hl hl47 B d hld hnilB y1 y2 es B2 m d2 (by omega) w' (hrf.below hb) (hrdf.below hb))
 have hJo := Lib.hid (fun w' (hb : Below w.heap.size w w') => joint_any20 s hs63 r0 h0 j1 j2 js A3 o c3 w' (hrj.below hb))
 have hTE := Lib.hid (fun w' (hb : Below w.heap.size w w') => twoSizes_any s r0 r1 h0 hr1 j1 j2 js A3 o c3 ho300 e k hk hk47 A c hkc hnil x1 x2 ds A2 n c2 hn300 f l hl hl47 B d hld hnilB y1 y2 es B2 m d2 hm300 w' (hB.below hb hB.1) (hrj.below hb) (hr.below hb) (hrd.below hb) (hrf.below hb) (hrdf.below hb))
 have hI0 := Lib.hid (fun w' (hb : Below w.heap.size w w') => refJoins_any s r0 r1 h0 hr1 j1 j2 js A3 o c3 (by omega) w' hs63 (hrj.below hb))
 have hI1 := Lib.hid (fun w' (hb : Below w.heap.size w w') => refIncl_any s r0 h0 e k hk (by omega) A c hkc hnil x1 x2 ds A2 n c2 (by omega) w' hs63 (hr.below hb) (hrd.below hb))
 have hI2 := Lib.hid (fun w' (hb : Below w.heap.size w w') => refIncl_any s r1 hr1 f l hl (by omega) B d hld hnilB y1 y2 es B2 m d2 (by omega) w' hs63 (hrf.below hb) (hrdf.below hb))
 have hSe := Lib.hid (fun w' (hb : Below w.heap.size w w') => same8_any e f k l hk hl (by omega) A B c d w' (hr.below hb) (hrf.below hb))
 unfold wantSz at hTE
 unfold inclCells at hWa1 hWa2 hJo hTE hI0 hI1 hI2 ⊢
 obtain ⟨T1, hT1⟩ : ∃ T, evTexts s e x1 x2 ds = T := ⟨_, rfl⟩
 obtain ⟨T2, hT2⟩ : ∃ T, evTexts s f y1 y2 es = T := ⟨_, rfl⟩
 obtain ⟨T3, hT3⟩ : ∃ T, jointTs s j1 j2 r0 js = T := ⟨_, rfl⟩
 rw [hT1] at hl1 hp1 hf1 hWa1 hTE
 rw [hT2] at hl2 hp2 hf2 hWa2 hTE
 rw [hT3] at hl3 hf3 hJo hTE
 obtain ⟨m4, hm4⟩ : ∃ m4, T1.length = 1 + m4 := ⟨T1.length - 1, by rw [← hT1]; unfold evTexts; simp; omega⟩
 obtain ⟨N2, hN2⟩ : ∃ N2, T2.length = N2 := ⟨_, rfl⟩
 obtain ⟨N3, hN3⟩ : ∃ N3, T3.length = N3 := ⟨_, rfl⟩
 rw [hm4] at hWa1
 rw [hN2] at hWa2
 rw [hN3] at hJo
 have hlall : ∀ q ∈ (T1 ++ T2) ++ T3, q.length < 140737488355328 := fun q hq => by
  rcases List.mem_append.1 hq with h | h
  ·rcases List.mem_append.1 h with h | h
   ·exact hl1 q h
   ·exact hl2 q h
  ·rw [hl3 q h]; decide
 have hpall : ∀ q ∈ (T1 ++ T2) ++ T3, 0 < q.length := fun q hq => by
  rcases List.mem_append.1 hq with h | h
  ·rcases List.mem_append.1 h with h | h
   ·exact hp1 q h
   ·exact hp2 q h
  ·rw [hl3 q h]; decide
 have hTo := Lib.hid (fun w' want (A9 : Option Addr) (c9 : Nat) xa xb ok (hp9 : Pieces w' A9 ((T1 ++ T2) ++ T3)) (hx : XR w' s want ((T1 ++ T2) ++ T3) xa xb ok) => told_any s hs63 ((T1 ++ T2) ++ T3) (1 + m4 + N2 + N3) (by rw [List.length_append, List.length_append, hm4, hN2, hN3]) (by omega) hlall want A9 c9 w' hp9 xa xb ok hx)
 have hTX := Lib.hid (fun w' (hb : Below w.heap.size w w') => (hTE.out w' hb).mono fun e w'' h => TPost.xr hpall h)
 clear hTE
 have Fr := Lib.hid (fit (x := r0) h0)
 have Fs := Lib.hid (fit (x := r1) hr1)
 have hm4s : Hid (m4 ≤ 300) := by show _ ≤ _; omega
 have hN2s : Hid (N2 ≤ 301) := by show _ ≤ _; omega
 have hN3s : Hid (N3 ≤ 200) := by show _ ≤ _; omega
 have hm4h := Lib.hid hm4
 have hN2h := Lib.hid hN2
 have hN3h := Lib.hid hN3
 obtain ⟨i0', hi0⟩ : ∃ z, Hid (audJoins s r0 r1 j1 j2 js = z) := ⟨_, Lib.hid rfl⟩
 obtain ⟨i1, hi1⟩ : ∃ z, Hid (audIncl s r0 e x1 x2 ds = z) := ⟨_, Lib.hid rfl⟩
 obtain ⟨i2, hi2⟩ : ∃ z, Hid (audIncl s r1 f y1 y2 es = z) := ⟨_, Lib.hid rfl⟩
 rw [hi0.out] at hI0 hTX
 rw [hi1.out] at hI1 hTX
 rw [hi2.out] at hI2 hTX
 obtain ⟨ef, hef⟩ : ∃ b, Hid (decide (e = f) = b) := ⟨_, Lib.hid rfl⟩
 rw [hef.out] at hSe hTX
 obtain ⟨b0, q0⟩ : ∃ b, (i0' == 0) = b := ⟨_, rfl⟩
 obtain ⟨b1, q1⟩ : ∃ b, (i1 == 0) = b := ⟨_, rfl⟩
 obtain ⟨b2, q2⟩ : ∃ b, (i2 == 0) = b := ⟨_, rfl⟩
 obtain ⟨b3, q3⟩ : ∃ b, (x1 == j1) = b := ⟨_, rfl⟩
 obtain ⟨b4, q4⟩ : ∃ b, (y1 == j2) = b := ⟨_, rfl⟩
 obtain ⟨b5, q5⟩ : ∃ b, (x2 == y2) = b := ⟨_, rfl⟩
 rw [q0, q1, q2, q3, q4, q5] at hTX
 obtain ⟨wa, hwa⟩ : ∃ b, Hid ((b0 && (b1 && b2)) = b) := ⟨_, Lib.hid rfl⟩
 rw [hwa.out] at hTX
 obtain ⟨want, hwant⟩ : ∃ b, Hid ((wa && (b3 && (b4 && (b5 && !ef)))) = b) := ⟨_, Lib.hid rfl⟩
 rw [hwant.out] at hTX
 have hb0 : Hid (Below w.heap.size w (((((w.alloc (.cells (cells8 r0).toArray 23)).alloc (.cells (cells8 r1).toArray 23)).alloc (.cells #[Value.int .i64 j1, Value.int .i64 j2, Value.slice A3 o0 c3] 91)).alloc (.cells #[Value.int .i64 x1, Value.int .i64 x2, Value.slice A2 n0 c2] 31)).alloc (.cells #[Value.int .i64 y1, Value.int .i64 y2, Value.slice B2 m0 d2] 31))) := (((((Below.refl _ w).alloc (Nat.le_refl _) _).alloc (by simp) _).alloc (by simp; omega) _).alloc (by simp; omega) _).alloc (by simp; omega) _
 have hs4 : ((((w.alloc (.cells (cells8 r0).toArray 23)).alloc (.cells (cells8 r1).toArray 23)).alloc (.cells #[Value.int .i64 j1, Value.int .i64 j2, Value.slice A3 o0 c3] 91)).alloc (.cells #[Value.int .i64 x1, Value.int .i64 x2, Value.slice A2 n0 c2] 31)).heap.size = w.heap.size + 4 := by simp
 have hs3 : (((w.alloc (.cells (cells8 r0).toArray 23)).alloc (.cells (cells8 r1).toArray 23)).alloc (.cells #[Value.int .i64 j1, Value.int .i64 j2, Value.slice A3 o0 c3] 91)).heap.size = w.heap.size + 3 := by simp
 have hs2 : ((w.alloc (.cells (cells8 r0).toArray 23)).alloc (.cells (cells8 r1).toArray 23)).heap.size = w.heap.size + 2 := by simp
 have hs1 : (w.alloc (.cells (cells8 r0).toArray 23)).heap.size = w.heap.size + 1 := by simp
 have hQ0 : Hid (Blk (((((w.alloc (.cells (cells8 r0).toArray 23)).alloc (.cells (cells8 r1).toArray 23)).alloc (.cells #[Value.int .i64 j1, Value.int .i64 j2, Value.slice A3 o0 c3] 91)).alloc (.cells #[Value.int .i64 x1, Value.int .i64 x2, Value.slice A2 n0 c2] 31)).alloc (.cells #[Value.int .i64 y1, Value.int .i64 y2, Value.slice B2 m0 d2] 31)) (w.heap.size + 4) 31 #[Value.int .i64 y1, Value.int .i64 y2, Value.slice B2 m0 d2]) := by
  have := Blk.new ((((w.alloc (.cells (cells8 r0).toArray 23)).alloc (.cells (cells8 r1).toArray 23)).alloc (.cells #[Value.int .i64 j1, Value.int .i64 j2, Value.slice A3 o0 c3] 91)).alloc (.cells #[Value.int .i64 x1, Value.int .i64 x2, Value.slice A2 n0 c2] 31)) 31 #[Value.int .i64 y1, Value.int .i64 y2, Value.slice B2 m0 d2]
  rwa [hs4] at this
 have hP0 : Hid (Blk (((((w.alloc (.cells (cells8 r0).toArray 23)).alloc (.cells (cells8 r1).toArray 23)).alloc (.cells #[Value.int .i64 j1, Value.int .i64 j2, Value.slice A3 o0 c3] 91)).alloc (.cells #[Value.int .i64 x1, Value.int .i64 x2, Value.slice A2 n0 c2] 31)).alloc (.cells #[Value.int .i64 y1, Value.int .i64 y2, Value.slice B2 m0 d2] 31)) (w.heap.size + 3) 31 #[Value.int .i64 x1, Value.int .i64 x2, Value.slice A2 n0 c2]) := by
  have := Blk.new (((w.alloc (.cells (cells8 r0).toArray 23)).alloc (.cells (cells8 r1).toArray 23)).alloc (.cells #[Value.int .i64 j1, Value.int .i64 j2, Value.slice A3 o0 c3] 91)) 31 #[Value.int .i64 x1, Value.int .i64 x2, Value.slice A2 n0 c2]
  rw [hs3] at this
  exact this.alloc _
 have hJ0 : Hid (Blk (((((w.alloc (.cells (cells8 r0).toArray 23)).alloc (.cells (cells8 r1).toArray 23)).alloc (.cells #[Value.int .i64 j1, Value.int .i64 j2, Value.slice A3 o0 c3] 91)).alloc (.cells #[Value.int .i64 x1, Value.int .i64 x2, Value.slice A2 n0 c2] 31)).alloc (.cells #[Value.int .i64 y1, Value.int .i64 y2, Value.slice B2 m0 d2] 31)) (w.heap.size + 2) 91 #[Value.int .i64 j1, Value.int .i64 j2, Value.slice A3 o0 c3]) := by
  have := Blk.new ((w.alloc (.cells (cells8 r0).toArray 23)).alloc (.cells (cells8 r1).toArray 23)) 91 #[Value.int .i64 j1, Value.int .i64 j2, Value.slice A3 o0 c3]
  rw [hs2] at this
  exact (this.alloc _).alloc _
 have hS0 : Hid (Blk (((((w.alloc (.cells (cells8 r0).toArray 23)).alloc (.cells (cells8 r1).toArray 23)).alloc (.cells #[Value.int .i64 j1, Value.int .i64 j2, Value.slice A3 o0 c3] 91)).alloc (.cells #[Value.int .i64 x1, Value.int .i64 x2, Value.slice A2 n0 c2] 31)).alloc (.cells #[Value.int .i64 y1, Value.int .i64 y2, Value.slice B2 m0 d2] 31)) (w.heap.size + 1) 23 (cells8 r1).toArray) := by
  have := Blk.new (w.alloc (.cells (cells8 r0).toArray 23)) 23 (cells8 r1).toArray
  rw [hs1] at this
  exact ((this.alloc _).alloc _).alloc _
 have hR0 : Hid (Blk (((((w.alloc (.cells (cells8 r0).toArray 23)).alloc (.cells (cells8 r1).toArray 23)).alloc (.cells #[Value.int .i64 j1, Value.int .i64 j2, Value.slice A3 o0 c3] 91)).alloc (.cells #[Value.int .i64 x1, Value.int .i64 x2, Value.slice A2 n0 c2] 31)).alloc (.cells #[Value.int .i64 y1, Value.int .i64 y2, Value.slice B2 m0 d2] 31)) w.heap.size 23 (cells8 r0).toArray) := ((((Blk.new w _ _).alloc _).alloc _).alloc _).alloc _
 clear hs1 hs2 hs3 hs4 hs63 h0 hr1 hk hk47 hkc hnil hnc hl hl47 hld hnilB hmd hoc hB hr hrd0 hrf hrdf0 hrj0 hn hds hm hes ho hjs hrd hrdf hrj hn300 hm300 ho300 hl1 hl2 hl3 hf1 hf2 hf3 hp1 hp2 hlall hpall hT1 hT2 hT3 hm4 hN2 hN3
 go_enter Tryd.func9, Tryd.ntmps9
 go_wp2_with fail
 refine (hF0.out _).mono ?_
 rintro e' w0' ⟨rfl, rfl⟩
 generalize (((((w.alloc (.cells (cells8 r0).toArray 23)).alloc (.cells (cells8 r1).toArray 23)).alloc (.cells #[Value.int .i64 j1, Value.int .i64 j2, Value.slice A3 o0 c3] 91)).alloc (.cells #[Value.int .i64 x1, Value.int .i64 x2, Value.slice A2 n0 c2] 31)).alloc (.cells #[Value.int .i64 y1, Value.int .i64 y2, Value.slice B2 m0 d2] 31)) = w0 at *
 try rw [show w.heap.size + 1 + 1 = w.heap.size + 2 from rfl]
 try rw [show w.heap.size + 2 + 1 = w.heap.size + 3 from rfl]
 try rw [show w.heap.size + 3 + 1 = w.heap.size + 4 from rfl]
 have yc0 : w0.cell? ⟨w.heap.size + 2, 2, none⟩ = some (.slice A3 o0 c3) := hJ0.out.cell 2
 have yf0 := hJ0.out.frozen 2
 have hk0 : Kept (· = w.heap.size + 2) w0 (w0.setCell ⟨w.heap.size + 2, 2, none⟩ (.slice A3 o c3)) := (Kept.refl (· = w.heap.size + 2) w0).setCell (.inl rfl) _
 have hR1 : Hid (Blk (w0.setCell ⟨w.heap.size + 2, 2, none⟩ (.slice A3 o c3)) (w.heap.size + 0) 23 (cells8 r0).toArray) := hR0.out.kept hk0 (by omega)
 have hS1 : Hid (Blk (w0.setCell ⟨w.heap.size + 2, 2, none⟩ (.slice A3 o c3)) (w.heap.size + 1) 23 (cells8 r1).toArray) := hS0.out.kept hk0 (by omega)
 have hJ1 : Hid (Blk (w0.setCell ⟨w.heap.size + 2, 2, none⟩ (.slice A3 o c3)) (w.heap.size + 2) 91 #[Value.int .i64 j1, Value.int .i64 j2, Value.slice A3 o c3]) := hJ0.out.set_ 2 _
 have hP1 : Hid (Blk (w0.setCell ⟨w.heap.size + 2, 2, none⟩ (.slice A3 o c3)) (w.heap.size + 3) 31 #[Value.int .i64 x1, Value.int .i64 x2, Value.slice A2 n0 c2]) := hP0.out.kept hk0 (by omega)
 have hQ1 : Hid (Blk (w0.setCell ⟨w.heap.size + 2, 2, none⟩ (.slice A3 o c3)) (w.heap.size + 4) 31 #[Value.int .i64 y1, Value.int .i64 y2, Value.slice B2 m0 d2]) := hQ0.out.kept hk0 (by omega)
 have hb1 : Hid (Below w.heap.size w (w0.setCell ⟨w.heap.size + 2, 2, none⟩ (.slice A3 o c3))) := hb0.out.trans (Kept.below_of hk0 (by omega) hb0.out.size)
 clear hk0 hb0 hR0 hS0 hJ0 hP0 hQ0 hF0
 have cc1 : (w0.setCell ⟨w.heap.size + 2, 2, none⟩ (.slice A3 o c3)).cell? ⟨w.heap.size + 3, 2, none⟩ = some (.slice A2 n0 c2) := hP1.out.cell 2
 go_wp2_with fail
 refine (hF1.out _).mono ?_
 rintro e' w1' ⟨rfl, rfl⟩
 clear yc0 yf0 cc1
 generalize (w0.setCell ⟨w.heap.size + 2, 2, none⟩ (.slice A3 o c3)) = w1 at *
 have yc1 : w1.cell? ⟨w.heap.size + 3, 2, none⟩ = some (.slice A2 n0 c2) := hP1.out.cell 2
 have yf1 := hP1.out.frozen 2
 have hk1 : Kept (· = w.heap.size + 3) w1 (w1.setCell ⟨w.heap.size + 3, 2, none⟩ (.slice A2 n c2)) := (Kept.refl (· = w.heap.size + 3) w1).setCell (.inl rfl) _
 have hR2 : Hid (Blk (w1.setCell ⟨w.heap.size + 3, 2, none⟩ (.slice A2 n c2)) (w.heap.size + 0) 23 (cells8 r0).toArray) := hR1.out.kept hk1 (by omega)
 have hS2 : Hid (Blk (w1.setCell ⟨w.heap.size + 3, 2, none⟩ (.slice A2 n c2)) (w.heap.size + 1) 23 (cells8 r1).toArray) := hS1.out.kept hk1 (by omega)
 have hJ2 : Hid (Blk (w1.setCell ⟨w.heap.size + 3, 2, none⟩ (.slice A2 n c2)) (w.heap.size + 2) 91 #[Value.int .i64 j1, Value.int .i64 j2, Value.slice A3 o c3]) := hJ1.out.kept hk1 (by omega)
 have hP2 : Hid (Blk (w1.setCell ⟨w.heap.size + 3, 2, none⟩ (.slice A2 n c2)) (w.heap.size + 3) 31 #[Value.int .i64 x1, Value.int .i64 x2, Value.slice A2 n c2]) := hP1.out.set_ 2 _
 have hQ2 : Hid (Blk (w1.setCell ⟨w.heap.size + 3, 2, none⟩ (.slice A2 n c2)) (w.heap.size + 4) 31 #[Value.int .i64 y1, Value.int .i64 y2, Value.slice B2 m0 d2]) := hQ1.out.kept hk1 (by omega)
 have hb2 : Hid (Below w.heap.size w (w1.setCell ⟨w.heap.size + 3, 2, none⟩ (.slice A2 n c2))) := hb1.out.trans (Kept.below_of hk1 (by omega) hb1.out.size)
 clear hk1 hb1 hR1 hS1 hJ1 hP1 hQ1 hF1
 have cc2 : (w1.setCell ⟨w.heap.size + 3, 2, none⟩ (.slice A2 n c2)).cell? ⟨w.heap.size + 4, 2, none⟩ = some (.slice B2 m0 d2) := hQ2.out.cell 2
 go_wp2_with fail
 refine (hF2.out _).mono ?_
 rintro e' w2' ⟨rfl, rfl⟩
 clear yc1 yf1 cc2
 generalize (w1.setCell ⟨w.heap.size + 3, 2, none⟩ (.slice A2 n c2)) = w2 at *
 have yc2 : w2.cell? ⟨w.heap.size + 4, 2, none⟩ = some (.slice B2 m0 d2) := hQ2.out.cell 2
 have yf2 := hQ2.out.frozen 2
 have hk2 : Kept (· = w.heap.size + 4) w2 (w2.setCell ⟨w.heap.size + 4, 2, none⟩ (.slice B2 m d2)) := (Kept.refl (· = w.heap.size + 4) w2).setCell (.inl rfl) _
 have hR3 : Hid (Blk (w2.setCell ⟨w.heap.size + 4, 2, none⟩ (.slice B2 m d2)) (w.heap.size + 0) 23 (cells8 r0).toArray) := hR2.out.kept hk2 (by omega)
 have hS3 : Hid (Blk (w2.setCell ⟨w.heap.size + 4, 2, none⟩ (.slice B2 m d2)) (w.heap.size + 1) 23 (cells8 r1).toArray) := hS2.out.kept hk2 (by omega)
 have hJ3 : Hid (Blk (w2.setCell ⟨w.heap.size + 4, 2, none⟩ (.slice B2 m d2)) (w.heap.size + 2) 91 #[Value.int .i64 j1, Value.int .i64 j2, Value.slice A3 o c3]) := hJ2.out.kept hk2 (by omega)
 have hP3 : Hid (Blk (w2.setCell ⟨w.heap.size + 4, 2, none⟩ (.slice B2 m d2)) (w.heap.size + 3) 31 #[Value.int .i64 x1, Value.int .i64 x2, Value.slice A2 n c2]) := hP2.out.kept hk2 (by omega)
 have hQ3 : Hid (Blk (w2.setCell ⟨w.heap.size + 4, 2, none⟩ (.slice B2 m d2)) (w.heap.size + 4) 31 #[Value.int .i64 y1, Value.int .i64 y2, Value.slice B2 m d2]) := hQ2.out.set_ 2 _
 have hb3 : Hid (Below w.heap.size w (w2.setCell ⟨w.heap.size + 4, 2, none⟩ (.slice B2 m d2))) := hb2.out.trans (Kept.below_of hk2 (by omega) hb2.out.size)
 clear hk2 hb2 hR2 hS2 hJ2 hP2 hQ2 hF2
 have hRw := Lib.hid (fun w' (h : Below (w2.setCell ⟨w.heap.size + 4, 2, none⟩ (.slice B2 m d2)).heap.size (w2.setCell ⟨w.heap.size + 4, 2, none⟩ (.slice B2 m d2)) w') => (show Blk w' w.heap.size 23 (cells8 r0).toArray from (h.block _ hR3.out.lt).trans hR3.out))
 have hSw := Lib.hid (fun w' (h : Below (w2.setCell ⟨w.heap.size + 4, 2, none⟩ (.slice B2 m d2)).heap.size (w2.setCell ⟨w.heap.size + 4, 2, none⟩ (.slice B2 m d2)) w') => (show Blk w' (w.heap.size + 1) 23 (cells8 r1).toArray from (h.block _ hS3.out.lt).trans hS3.out))
 have hJw := Lib.hid (fun w' (h : Below (w2.setCell ⟨w.heap.size + 4, 2, none⟩ (.slice B2 m d2)).heap.size (w2.setCell ⟨w.heap.size + 4, 2, none⟩ (.slice B2 m d2)) w') => (show Blk w' (w.heap.size + 2) 91 #[Value.int .i64 j1, Value.int .i64 j2, Value.slice A3 o c3] from (h.block _ hJ3.out.lt).trans hJ3.out))
 have hPw := Lib.hid (fun w' (h : Below (w2.setCell ⟨w.heap.size + 4, 2, none⟩ (.slice B2 m d2)).heap.size (w2.setCell ⟨w.heap.size + 4, 2, none⟩ (.slice B2 m d2)) w') => (show Blk w' (w.heap.size + 3) 31 #[Value.int .i64 x1, Value.int .i64 x2, Value.slice A2 n c2] from (h.block _ hP3.out.lt).trans hP3.out))
 have hQw := Lib.hid (fun w' (h : Below (w2.setCell ⟨w.heap.size + 4, 2, none⟩ (.slice B2 m d2)).heap.size (w2.setCell ⟨w.heap.size + 4, 2, none⟩ (.slice B2 m d2)) w') => (show Blk w' (w.heap.size + 4) 31 #[Value.int .i64 y1, Value.int .i64 y2, Value.slice B2 m d2] from (h.block _ hQ3.out.lt).trans hQ3.out))
 clear hR3 hS3 hJ3 hP3 hQ3
 go_upto_region 4 with fail
 clear yc2 yf2
 generalize (w2.setCell ⟨w.heap.size + 4, 2, none⟩ (.slice B2 m d2)) = w3 at *
 go_cut [17] from 33 to 55 (fun v wr' => v = .bool wa ∧ Hid (Below w3.heap.size w3 wr'))
 case first =>
  cases b0 with
  | true =>
   cases b1 with
   | true =>
    cases b2 with
    | true =>
     obtain rfl : true = wa := hwa.out
     refine q_plain (Class w3) (Class.mk_ (Below.refl _ _)) ?_
     refine q_move rfl (.tmp 0) rfl ?_
     (intro K k; go_simp; apply k; clear k K)
     refine q_row rfl 23 (.tmp 9) rfl w.heap.size rfl 23 ((cells8 r0).toArray) (0, 0) _ (fun w' hw' => hRw.out w' hw'.below) Tryd.underlying23 rfl Fr.out.size ?_
     (intro K k; go_simp; apply k; clear k K)
     refine q_row rfl 23 (.tmp 10) rfl (w.heap.size + 1) rfl 23 ((cells8 r1).toArray) (0, 0) _ (fun w' hw' => hSw.out w' hw'.below) Tryd.underlying23 rfl Fs.out.size ?_
     (intro K k; go_simp; apply k; clear k K)
     refine q_row rfl 91 (.tmp 11) rfl (w.heap.size + 2) rfl 91 (#[Value.int .i64 j1, Value.int .i64 j2, Value.slice A3 o c3]) (0, 0) _ (fun w' hw' => hJw.out w' hw'.below) Tryd.underlying91 rfl sizeC ?_
     (intro K k; go_simp; apply k; clear k K)
     refine q_fn (v := .int .i64 i0') (args := #[.int .i64 s, .agg (cells8 r0).toArray, .agg (cells8 r1).toArray, .agg #[Value.int .i64 j1, Value.int .i64 j2, Value.slice A3 o c3]]) rfl _ _ rfl rfl Tryd.func46 (by kernel_rfl) (by kernel_rfl) (fun w' hw' => (hI0.out w' (hb3.out.trans (hw'.below.mono hb3.out.size))).mono (fun e w'' ⟨he, hb⟩ => ⟨he, hw'.next hb⟩)) ?_
     (intro K k; go_simp; apply k; clear k K)
     refine Want.qv0 (.bool true) ?_
     (intro K k; go_simp; apply k; clear k K)
     refine Want.qv0 (.bool true) ?_
     (intro K k; go_simp; apply k; clear k K)
     refine q_move rfl (.tmp 0) rfl ?_
     (intro K k; go_simp; apply k; clear k K)
     refine q_row rfl 23 (.tmp 9) rfl w.heap.size rfl 23 ((cells8 r0).toArray) (0, 0) _ (fun w' hw' => hRw.out w' hw'.below) Tryd.underlying23 rfl Fr.out.size ?_
     (intro K k; go_simp; apply k; clear k K)
     refine q_move rfl (.tmp 4) rfl ?_
     (intro K k; go_simp; apply k; clear k K)
     refine q_row rfl 31 (.tmp 13) rfl (w.heap.size + 3) rfl 31 (#[Value.int .i64 x1, Value.int .i64 x2, Value.slice A2 n c2]) (0, 0) _ (fun w' hw' => hPw.out w' hw'.below) Tryd.underlying31 rfl sizeI ?_
     (intro K k; go_simp; apply k; clear k K)
     refine q_fn (v := .int .i64 i1) (args := #[.int .i64 s, .agg (cells8 r0).toArray, .slice A k c, .agg #[Value.int .i64 x1, Value.int .i64 x2, Value.slice A2 n c2]]) rfl _ _ rfl rfl Tryd.func41 (by kernel_rfl) (by kernel_rfl) (fun w' hw' => (hI1.out w' (hb3.out.trans (hw'.below.mono hb3.out.size))).mono (fun e w'' ⟨he, hb⟩ => ⟨he, hw'.next hb⟩)) ?_
     (intro K k; go_simp; apply k; clear k K)
     refine Want.qv0 (.bool true) ?_
     (intro K k; go_simp; apply k; clear k K)
     refine Want.qv0 (.bool true) ?_
     (intro K k; go_simp; apply k; clear k K)
     refine Want.qv0 (.bool true) ?_
     (intro K k; go_simp; apply k; clear k K)
     refine q_move rfl (.tmp 0) rfl ?_
     (intro K k; go_simp; apply k; clear k K)
     refine q_row rfl 23 (.tmp 10) rfl (w.heap.size + 1) rfl 23 ((cells8 r1).toArray) (0, 0) _ (fun w' hw' => hSw.out w' hw'.below) Tryd.underlying23 rfl Fs.out.size ?_
     (intro K k; go_simp; apply k; clear k K)
     refine q_move rfl (.tmp 6) rfl ?_
     (intro K k; go_simp; apply k; clear k K)
     refine q_row rfl 31 (.tmp 15) rfl (w.heap.size + 4) rfl 31 (#[Value.int .i64 y1, Value.int .i64 y2, Value.slice B2 m d2]) (0, 0) _ (fun w' hw' => hQw.out w' hw'.below) Tryd.underlying31 rfl sizeI ?_
     (intro K k; go_simp; apply k; clear k K)
     refine q_fn (v := .int .i64 i2) (args := #[.int .i64 s, .agg (cells8 r1).toArray, .slice B l d, .agg #[Value.int .i64 y1, Value.int .i64 y2, Value.slice B2 m d2]]) rfl _ _ rfl rfl Tryd.func41 (by kernel_rfl) (by kernel_rfl) (fun w' hw' => (hI2.out w' (hb3.out.trans (hw'.below.mono hb3.out.size))).mono (fun e w'' ⟨he, hb⟩ => ⟨he, hw'.next hb⟩)) ?_
     (intro K k; go_simp; apply k; clear k K)
     refine Want.qv0 (.bool true) ?_
     (intro K k; go_simp; apply k; clear k K)
     refine Want.qv0 (.bool true) ?_
     (intro K k; go_simp; apply k; clear k K)
     refine Want.qv0 (.bool true) ?_
     (intro K k; go_simp; apply k; clear k K)
     refine q_nil ?_
     intro w7 hw7
     have h7 : Hid (Below w3.heap.size w3 w7) := hw7.below
     go_wp2_with fail
     go_meet
     case rel => exact ⟨rfl, h7.out⟩
    | false =>
     obtain rfl : false = wa := hwa.out
     refine q_plain (Class w3) (Class.mk_ (Below.refl _ _)) ?_
     refine q_move rfl (.tmp 0) rfl ?_
     (intro K k; go_simp; apply k; clear k K)
     refine q_row rfl 23 (.tmp 9) rfl w.heap.size rfl 23 ((cells8 r0).toArray) (0, 0) _ (fun w' hw' => hRw.out w' hw'.below) Tryd.underlying23 rfl Fr.out.size ?_
     (intro K k; go_simp; apply k; clear k K)
     refine q_row rfl 23 (.tmp 10) rfl (w.heap.size + 1) rfl 23 ((cells8 r1).toArray) (0, 0) _ (fun w' hw' => hSw.out w' hw'.below) Tryd.underlying23 rfl Fs.out.size ?_
     (intro K k; go_simp; apply k; clear k K)
     refine q_row rfl 91 (.tmp 11) rfl (w.heap.size + 2) rfl 91 (#[Value.int .i64 j1, Value.int .i64 j2, Value.slice A3 o c3]) (0, 0) _ (fun w' hw' => hJw.out w' hw'.below) Tryd.underlying91 rfl sizeC ?_
     (intro K k; go_simp; apply k; clear k K)
     refine q_fn (v := .int .i64 i0') (args := #[.int .i64 s, .agg (cells8 r0).toArray, .agg (cells8 r1).toArray, .agg #[Value.int .i64 j1, Value.int .i64 j2, Value.slice A3 o c3]]) rfl _ _ rfl rfl Tryd.func46 (by kernel_rfl) (by kernel_rfl) (fun w' hw' => (hI0.out w' (hb3.out.trans (hw'.below.mono hb3.out.size))).mono (fun e w'' ⟨he, hb⟩ => ⟨he, hw'.next hb⟩)) ?_
     (intro K k; go_simp; apply k; clear k K)
     refine Want.qv0 (.bool true) ?_
     (intro K k; go_simp; apply k; clear k K)
     refine Want.qv0 (.bool true) ?_
     (intro K k; go_simp; apply k; clear k K)
     refine q_move rfl (.tmp 0) rfl ?_
     (intro K k; go_simp; apply k; clear k K)
     refine q_row rfl 23 (.tmp 9) rfl w.heap.size rfl 23 ((cells8 r0).toArray) (0, 0) _ (fun w' hw' => hRw.out w' hw'.below) Tryd.underlying23 rfl Fr.out.size ?_
     (intro K k; go_simp; apply k; clear k K)
     refine q_move rfl (.tmp 4) rfl ?_
     (intro K k; go_simp; apply k; clear k K)
     refine q_row rfl 31 (.tmp 13) rfl (w.heap.size + 3) rfl 31 (#[Value.int .i64 x1, Value.int .i64 x2, Value.slice A2 n c2]) (0, 0) _ (fun w' hw' => hPw.out w' hw'.below) Tryd.underlying31 rfl sizeI ?_
     (intro K k; go_simp; apply k; clear k K)
     refine q_fn (v := .int .i64 i1) (args := #[.int .i64 s, .agg (cells8 r0).toArray, .slice A k c, .agg #[Value.int .i64 x1, Value.int .i64 x2, Value.slice A2 n c2]]) rfl _ _ rfl rfl Tryd.func41 (by kernel_rfl) (by kernel_rfl) (fun w' hw' => (hI1.out w' (hb3.out.trans (hw'.below.mono hb3.out.size))).mono (fun e w'' ⟨he, hb⟩ => ⟨he, hw'.next hb⟩)) ?_
     (intro K k; go_simp; apply k; clear k K)
     refine Want.qv0 (.bool true) ?_
     (intro K k; go_simp; apply k; clear k K)
     refine Want.qv0 (.bool true) ?_
     (intro K k; go_simp; apply k; clear k K)
     refine Want.qv0 (.bool true) ?_
     (intro K k; go_simp; apply k; clear k K)
     refine q_move rfl (.tmp 0) rfl ?_
     (intro K k; go_simp; apply k; clear k K)
     refine q_row rfl 23 (.tmp 10) rfl (w.heap.size + 1) rfl 23 ((cells8 r1).toArray) (0, 0) _ (fun w' hw' => hSw.out w' hw'.below) Tryd.underlying23 rfl Fs.out.size ?_
     (intro K k; go_simp; apply k; clear k K)
     refine q_move rfl (.tmp 6) rfl ?_
     (intro K k; go_simp; apply k; clear k K)
     refine q_row rfl 31 (.tmp 15) rfl (w.heap.size + 4) rfl 31 (#[Value.int .i64 y1, Value.int .i64 y2, Value.slice B2 m d2]) (0, 0) _ (fun w' hw' => hQw.out w' hw'.below) Tryd.underlying31 rfl sizeI ?_
     (intro K k; go_simp; apply k; clear k K)
     refine q_fn (v := .int .i64 i2) (args := #[.int .i64 s, .agg (cells8 r1).toArray, .slice B l d, .agg #[Value.int .i64 y1, Value.int .i64 y2, Value.slice B2 m d2]]) rfl _ _ rfl rfl Tryd.func41 (by kernel_rfl) (by kernel_rfl) (fun w' hw' => (hI2.out w' (hb3.out.trans (hw'.below.mono hb3.out.size))).mono (fun e w'' ⟨he, hb⟩ => ⟨he, hw'.next hb⟩)) ?_
     (intro K k; go_simp; apply k; clear k K)
     refine Want.qv0 (.bool false) ?_
     (intro K k; go_simp; apply k; clear k K)
     refine Want.qv0 (.bool false) ?_
     (intro K k; go_simp; apply k; clear k K)
     refine Want.qv0 (.bool false) ?_
     (intro K k; go_simp; apply k; clear k K)
     refine q_nil ?_
     intro w7 hw7
     have h7 : Hid (Below w3.heap.size w3 w7) := hw7.below
     go_wp2_with fail
     go_meet
     case rel => exact ⟨rfl, h7.out⟩
   | false =>
    obtain rfl : false = wa := hwa.out
    refine q_plain (Class w3) (Class.mk_ (Below.refl _ _)) ?_
    refine q_move rfl (.tmp 0) rfl ?_
    (intro K k; go_simp; apply k; clear k K)
    refine q_row rfl 23 (.tmp 9) rfl w.heap.size rfl 23 ((cells8 r0).toArray) (0, 0) _ (fun w' hw' => hRw.out w' hw'.below) Tryd.underlying23 rfl Fr.out.size ?_
    (intro K k; go_simp; apply k; clear k K)
    refine q_row rfl 23 (.tmp 10) rfl (w.heap.size + 1) rfl 23 ((cells8 r1).toArray) (0, 0) _ (fun w' hw' => hSw.out w' hw'.below) Tryd.underlying23 rfl Fs.out.size ?_
    (intro K k; go_simp; apply k; clear k K)
    refine q_row rfl 91 (.tmp 11) rfl (w.heap.size + 2) rfl 91 (#[Value.int .i64 j1, Value.int .i64 j2, Value.slice A3 o c3]) (0, 0) _ (fun w' hw' => hJw.out w' hw'.below) Tryd.underlying91 rfl sizeC ?_
    (intro K k; go_simp; apply k; clear k K)
    refine q_fn (v := .int .i64 i0') (args := #[.int .i64 s, .agg (cells8 r0).toArray, .agg (cells8 r1).toArray, .agg #[Value.int .i64 j1, Value.int .i64 j2, Value.slice A3 o c3]]) rfl _ _ rfl rfl Tryd.func46 (by kernel_rfl) (by kernel_rfl) (fun w' hw' => (hI0.out w' (hb3.out.trans (hw'.below.mono hb3.out.size))).mono (fun e w'' ⟨he, hb⟩ => ⟨he, hw'.next hb⟩)) ?_
    (intro K k; go_simp; apply k; clear k K)
    refine Want.qv0 (.bool true) ?_
    (intro K k; go_simp; apply k; clear k K)
    refine Want.qv0 (.bool true) ?_
    (intro K k; go_simp; apply k; clear k K)
    refine q_move rfl (.tmp 0) rfl ?_
    (intro K k; go_simp; apply k; clear k K)
    refine q_row rfl 23 (.tmp 9) rfl w.heap.size rfl 23 ((cells8 r0).toArray) (0, 0) _ (fun w' hw' => hRw.out w' hw'.below) Tryd.underlying23 rfl Fr.out.size ?_
    (intro K k; go_simp; apply k; clear k K)
    refine q_move rfl (.tmp 4) rfl ?_
    (intro K k; go_simp; apply k; clear k K)
    refine q_row rfl 31 (.tmp 13) rfl (w.heap.size + 3) rfl 31 (#[Value.int .i64 x1, Value.int .i64 x2, Value.slice A2 n c2]) (0, 0) _ (fun w' hw' => hPw.out w' hw'.below) Tryd.underlying31 rfl sizeI ?_
    (intro K k; go_simp; apply k; clear k K)
    refine q_fn (v := .int .i64 i1) (args := #[.int .i64 s, .agg (cells8 r0).toArray, .slice A k c, .agg #[Value.int .i64 x1, Value.int .i64 x2, Value.slice A2 n c2]]) rfl _ _ rfl rfl Tryd.func41 (by kernel_rfl) (by kernel_rfl) (fun w' hw' => (hI1.out w' (hb3.out.trans (hw'.below.mono hb3.out.size))).mono (fun e w'' ⟨he, hb⟩ => ⟨he, hw'.next hb⟩)) ?_
    (intro K k; go_simp; apply k; clear k K)
    refine Want.qv0 (.bool false) ?_
    (intro K k; go_simp; apply k; clear k K)
    refine Want.qv0 (.bool false) ?_
    (intro K k; go_simp; apply k; clear k K)
    refine Want.qv0 (.bool false) ?_
    (intro K k; go_simp; apply k; clear k K)
    refine q_skip rfl ?_
    (intro K k; go_simp; apply k; clear k K)
    refine q_skip rfl ?_
    (intro K k; go_simp; apply k; clear k K)
    refine q_skip rfl ?_
    (intro K k; go_simp; apply k; clear k K)
    refine q_skip rfl ?_
    (intro K k; go_simp; apply k; clear k K)
    refine q_skip rfl ?_
    (intro K k; go_simp; apply k; clear k K)
    refine q_skip rfl ?_
    (intro K k; go_simp; apply k; clear k K)
    refine Want.qv0 (.bool false) ?_
    (intro K k; go_simp; apply k; clear k K)
    refine Want.qv0 (.bool false) ?_
    (intro K k; go_simp; apply k; clear k K)
    refine q_nil ?_
    intro w7 hw7
    have h7 : Hid (Below w3.heap.size w3 w7) := hw7.below
    go_wp2_with fail
    go_meet
    case rel => exact ⟨rfl, h7.out⟩
  | false =>
   obtain rfl : false = wa := hwa.out
   refine q_plain (Class w3) (Class.mk_ (Below.refl _ _)) ?_
   refine q_move rfl (.tmp 0) rfl ?_
   (intro K k; go_simp; apply k; clear k K)
   refine q_row rfl 23 (.tmp 9) rfl w.heap.size rfl 23 ((cells8 r0).toArray) (0, 0) _ (fun w' hw' => hRw.out w' hw'.below) Tryd.underlying23 rfl Fr.out.size ?_
   (intro K k; go_simp; apply k; clear k K)
   refine q_row rfl 23 (.tmp 10) rfl (w.heap.size + 1) rfl 23 ((cells8 r1).toArray) (0, 0) _ (fun w' hw' => hSw.out w' hw'.below) Tryd.underlying23 rfl Fs.out.size ?_
   (intro K k; go_simp; apply k; clear k K)
   refine q_row rfl 91 (.tmp 11) rfl (w.heap.size + 2) rfl 91 (#[Value.int .i64 j1, Value.int .i64 j2, Value.slice A3 o c3]) (0, 0) _ (fun w' hw' => hJw.out w' hw'.below) Tryd.underlying91 rfl sizeC ?_
   (intro K k; go_simp; apply k; clear k K)
   refine q_fn (v := .int .i64 i0') (args := #[.int .i64 s, .agg (cells8 r0).toArray, .agg (cells8 r1).toArray, .agg #[Value.int .i64 j1, Value.int .i64 j2, Value.slice A3 o c3]]) rfl _ _ rfl rfl Tryd.func46 (by kernel_rfl) (by kernel_rfl) (fun w' hw' => (hI0.out w' (hb3.out.trans (hw'.below.mono hb3.out.size))).mono (fun e w'' ⟨he, hb⟩ => ⟨he, hw'.next hb⟩)) ?_
   (intro K k; go_simp; apply k; clear k K)
   refine Want.qv0 (.bool false) ?_
   (intro K k; go_simp; apply k; clear k K)
   refine Want.qv0 (.bool false) ?_
   (intro K k; go_simp; apply k; clear k K)
   refine q_skip rfl ?_
   (intro K k; go_simp; apply k; clear k K)
   refine q_skip rfl ?_
   (intro K k; go_simp; apply k; clear k K)
   refine q_skip rfl ?_
   (intro K k; go_simp; apply k; clear k K)
   refine q_skip rfl ?_
   (intro K k; go_simp; apply k; clear k K)
   refine q_skip rfl ?_
   (intro K k; go_simp; apply k; clear k K)
   refine q_skip rfl ?_
   (intro K k; go_simp; apply k; clear k K)
   refine Want.qv0 (.bool false) ?_
   (intro K k; go_simp; apply k; clear k K)
   refine Want.qv0 (.bool false) ?_
   (intro K k; go_simp; apply k; clear k K)
   refine q_skip rfl ?_
   (intro K k; go_simp; apply k; clear k K)
   refine q_skip rfl ?_
   (intro K k; go_simp; apply k; clear k K)
   refine q_skip rfl ?_
   (intro K k; go_simp; apply k; clear k K)
   refine q_skip rfl ?_
   (intro K k; go_simp; apply k; clear k K)
   refine q_skip rfl ?_
   (intro K k; go_simp; apply k; clear k K)
   refine q_skip rfl ?_
   (intro K k; go_simp; apply k; clear k K)
   refine Want.qv0 (.bool false) ?_
   (intro K k; go_simp; apply k; clear k K)
   refine Want.qv0 (.bool false) ?_
   (intro K k; go_simp; apply k; clear k K)
   refine q_nil ?_
   intro w7 hw7
   have h7 : Hid (Below w3.heap.size w3 w7) := hw7.below
   go_wp2_with fail
   go_meet
   case rel => exact ⟨rfl, h7.out⟩
 case rest =>
  obtain ⟨rfl, hbc⟩ := hcut
  obtain ⟨wq, rfl⟩ : ∃ wq, wq = wc := ⟨_, rfl⟩
  clear hI0 hI1 hI2
  go_upto_region 5 with fail
  go_cut [17] from 55 to 83 (fun v wr' => v = .bool want ∧ Hid (Below w3.heap.size w3 wr'))
  case first =>
   cases wa with
   | false =>
    obtain rfl : false = want := hwant.out
    refine q_plain (Class wq) (Class.mk_ (Below.refl _ _)) ?_
    refine q_move rfl (.tmp 17) rfl ?_
    (intro K k; go_simp; apply k; clear k K)
    refine Want.qv0 (.bool false) ?_
    (intro K k; go_simp; apply k; clear k K)
    refine q_skip rfl ?_
    (intro K k; go_simp; apply k; clear k K)
    refine q_skip rfl ?_
    (intro K k; go_simp; apply k; clear k K)
    refine q_skip rfl ?_
    (intro K k; go_simp; apply k; clear k K)
    refine q_skip rfl ?_
    (intro K k; go_simp; apply k; clear k K)
    refine q_skip rfl ?_
    (intro K k; go_simp; apply k; clear k K)
    refine Want.qv0 (.bool false) ?_
    (intro K k; go_simp; apply k; clear k K)
    refine Want.qv0 (.bool false) ?_
    (intro K k; go_simp; apply k; clear k K)
    refine q_skip rfl ?_
    (intro K k; go_simp; apply k; clear k K)
    refine q_skip rfl ?_
    (intro K k; go_simp; apply k; clear k K)
    refine q_skip rfl ?_
    (intro K k; go_simp; apply k; clear k K)
    refine q_skip rfl ?_
    (intro K k; go_simp; apply k; clear k K)
    refine q_skip rfl ?_
    (intro K k; go_simp; apply k; clear k K)
    refine Want.qv0 (.bool false) ?_
    (intro K k; go_simp; apply k; clear k K)
    refine Want.qv0 (.bool false) ?_
    (intro K k; go_simp; apply k; clear k K)
    refine q_skip rfl ?_
    (intro K k; go_simp; apply k; clear k K)
    refine q_skip rfl ?_
    (intro K k; go_simp; apply k; clear k K)
    refine q_skip rfl ?_
    (intro K k; go_simp; apply k; clear k K)
    refine q_skip rfl ?_
    (intro K k; go_simp; apply k; clear k K)
    refine q_skip rfl ?_
    (intro K k; go_simp; apply k; clear k K)
    refine Want.qv0 (.bool false) ?_
    (intro K k; go_simp; apply k; clear k K)
    refine Want.qv0 (.bool false) ?_
    (intro K k; go_simp; apply k; clear k K)
    refine q_skip rfl ?_
    (intro K k; go_simp; apply k; clear k K)
    refine q_skip rfl ?_
    (intro K k; go_simp; apply k; clear k K)
    refine q_skip rfl ?_
    (intro K k; go_simp; apply k; clear k K)
    refine q_skip rfl ?_
    (intro K k; go_simp; apply k; clear k K)
    refine Want.qv0 (.bool false) ?_
    (intro K k; go_simp; apply k; clear k K)
    refine Want.qv0 (.bool false) ?_
    (intro K k; go_simp; apply k; clear k K)
    refine q_nil ?_
    intro w7 hw7
    have h7 : Hid (Below w3.heap.size w3 w7) := hbc.out.trans (hw7.below.mono hbc.out.size)
    go_wp2_with fail
    go_meet
    case rel => exact ⟨rfl, h7.out⟩
   | true =>
    cases b3 with
    | false =>
     obtain rfl : false = want := hwant.out
     refine q_plain (Class wq) (Class.mk_ (Below.refl _ _)) ?_
     refine q_move rfl (.tmp 17) rfl ?_
     (intro K k; go_simp; apply k; clear k K)
     refine Want.qv0 (.bool true) ?_
     (intro K k; go_simp; apply k; clear k K)
     refine Want.qv0 (.pointer (some ⟨w.heap.size + 3, 0, none⟩)) ?_
     (intro K k; go_simp; apply k; clear k K)
     refine q_val (v := .int .i64 x1) rfl (fun w' hw' => by have h := (hPw.out w' (hbc.out.trans (hw'.below.mono hbc.out.size))).cell 0; go_simp) ?_
     (intro K k; go_simp; apply k; clear k K)
     refine Want.qv0 (.pointer (some ⟨w.heap.size + 2, 0, none⟩)) ?_
     (intro K k; go_simp; apply k; clear k K)
     refine q_val (v := .int .i64 j1) rfl (fun w' hw' => by have h := (hJw.out w' (hbc.out.trans (hw'.below.mono hbc.out.size))).cell 0; go_simp) ?_
     (intro K k; go_simp; apply k; clear k K)
     refine Want.qv0 (.bool false) ?_
     (intro K k; go_simp; apply k; clear k K)
     refine Want.qv0 (.bool false) ?_
     (intro K k; go_simp; apply k; clear k K)
     refine Want.qv0 (.bool false) ?_
     (intro K k; go_simp; apply k; clear k K)
     refine q_skip rfl ?_
     (intro K k; go_simp; apply k; clear k K)
     refine q_skip rfl ?_
     (intro K k; go_simp; apply k; clear k K)
     refine q_skip rfl ?_
     (intro K k; go_simp; apply k; clear k K)
     refine q_skip rfl ?_
     (intro K k; go_simp; apply k; clear k K)
     refine q_skip rfl ?_
     (intro K k; go_simp; apply k; clear k K)
     refine Want.qv0 (.bool false) ?_
     (intro K k; go_simp; apply k; clear k K)
     refine Want.qv0 (.bool false) ?_
     (intro K k; go_simp; apply k; clear k K)
     refine q_skip rfl ?_
     (intro K k; go_simp; apply k; clear k K)
     refine q_skip rfl ?_
     (intro K k; go_simp; apply k; clear k K)
     refine q_skip rfl ?_
     (intro K k; go_simp; apply k; clear k K)
     refine q_skip rfl ?_
     (intro K k; go_simp; apply k; clear k K)
     refine q_skip rfl ?_
     (intro K k; go_simp; apply k; clear k K)
     refine Want.qv0 (.bool false) ?_
     (intro K k; go_simp; apply k; clear k K)
     refine Want.qv0 (.bool false) ?_
     (intro K k; go_simp; apply k; clear k K)
     refine q_skip rfl ?_
     (intro K k; go_simp; apply k; clear k K)
     refine q_skip rfl ?_
     (intro K k; go_simp; apply k; clear k K)
     refine q_skip rfl ?_
     (intro K k; go_simp; apply k; clear k K)
     refine q_skip rfl ?_
     (intro K k; go_simp; apply k; clear k K)
     refine Want.qv0 (.bool false) ?_
     (intro K k; go_simp; apply k; clear k K)
     refine Want.qv0 (.bool false) ?_
     (intro K k; go_simp; apply k; clear k K)
     refine q_nil ?_
     intro w7 hw7
     have h7 : Hid (Below w3.heap.size w3 w7) := hbc.out.trans (hw7.below.mono hbc.out.size)
     go_wp2_with fail
     go_meet
     case rel => exact ⟨rfl, h7.out⟩
    | true =>
     cases b4 with
     | false =>
      obtain rfl : false = want := hwant.out
      refine q_plain (Class wq) (Class.mk_ (Below.refl _ _)) ?_
      refine q_move rfl (.tmp 17) rfl ?_
      (intro K k; go_simp; apply k; clear k K)
      refine Want.qv0 (.bool true) ?_
      (intro K k; go_simp; apply k; clear k K)
      refine Want.qv0 (.pointer (some ⟨w.heap.size + 3, 0, none⟩)) ?_
      (intro K k; go_simp; apply k; clear k K)
      refine q_val (v := .int .i64 x1) rfl (fun w' hw' => by have h := (hPw.out w' (hbc.out.trans (hw'.below.mono hbc.out.size))).cell 0; go_simp) ?_
      (intro K k; go_simp; apply k; clear k K)
      refine Want.qv0 (.pointer (some ⟨w.heap.size + 2, 0, none⟩)) ?_
      (intro K k; go_simp; apply k; clear k K)
      refine q_val (v := .int .i64 j1) rfl (fun w' hw' => by have h := (hJw.out w' (hbc.out.trans (hw'.below.mono hbc.out.size))).cell 0; go_simp) ?_
      (intro K k; go_simp; apply k; clear k K)
      refine Want.qv0 (.bool true) ?_
      (intro K k; go_simp; apply k; clear k K)
      refine Want.qv0 (.bool true) ?_
      (intro K k; go_simp; apply k; clear k K)
      refine Want.qv0 (.bool true) ?_
      (intro K k; go_simp; apply k; clear k K)
      refine Want.qv0 (.pointer (some ⟨w.heap.size + 4, 0, none⟩)) ?_
      (intro K k; go_simp; apply k; clear k K)
      refine q_val (v := .int .i64 y1) rfl (fun w' hw' => by have h := (hQw.out w' (hbc.out.trans (hw'.below.mono hbc.out.size))).cell 0; go_simp) ?_
      (intro K k; go_simp; apply k; clear k K)
      refine Want.qv0 (.pointer (some ⟨w.heap.size + 2, 1, none⟩)) ?_
      (intro K k; go_simp; apply k; clear k K)
      refine q_val (v := .int .i64 j2) rfl (fun w' hw' => by have h := (hJw.out w' (hbc.out.trans (hw'.below.mono hbc.out.size))).cell 1; go_simp) ?_
      (intro K k; go_simp; apply k; clear k K)
      refine Want.qv0 (.bool false) ?_
      (intro K k; go_simp; apply k; clear k K)
      refine Want.qv0 (.bool false) ?_
      (intro K k; go_simp; apply k; clear k K)
      refine Want.qv0 (.bool false) ?_
      (intro K k; go_simp; apply k; clear k K)
      refine q_skip rfl ?_
      (intro K k; go_simp; apply k; clear k K)
      refine q_skip rfl ?_
      (intro K k; go_simp; apply k; clear k K)
      refine q_skip rfl ?_
      (intro K k; go_simp; apply k; clear k K)
      refine q_skip rfl ?_
      (intro K k; go_simp; apply k; clear k K)
      refine q_skip rfl ?_
      (intro K k; go_simp; apply k; clear k K)
      refine Want.qv0 (.bool false) ?_
      (intro K k; go_simp; apply k; clear k K)
      refine Want.qv0 (.bool false) ?_
      (intro K k; go_simp; apply k; clear k K)
      refine q_skip rfl ?_
      (intro K k; go_simp; apply k; clear k K)
      refine q_skip rfl ?_
      (intro K k; go_simp; apply k; clear k K)
      refine q_skip rfl ?_
      (intro K k; go_simp; apply k; clear k K)
      refine q_skip rfl ?_
      (intro K k; go_simp; apply k; clear k K)
      refine Want.qv0 (.bool false) ?_
      (intro K k; go_simp; apply k; clear k K)
      refine Want.qv0 (.bool false) ?_
      (intro K k; go_simp; apply k; clear k K)
      refine q_nil ?_
      intro w7 hw7
      have h7 : Hid (Below w3.heap.size w3 w7) := hbc.out.trans (hw7.below.mono hbc.out.size)
      go_wp2_with fail
      go_meet
      case rel => exact ⟨rfl, h7.out⟩
     | true =>
      cases b5 with
      | false =>
       obtain rfl : false = want := hwant.out
       refine q_plain (Class wq) (Class.mk_ (Below.refl _ _)) ?_
       refine q_move rfl (.tmp 17) rfl ?_
       (intro K k; go_simp; apply k; clear k K)
       refine Want.qv0 (.bool true) ?_
       (intro K k; go_simp; apply k; clear k K)
       refine Want.qv0 (.pointer (some ⟨w.heap.size + 3, 0, none⟩)) ?_
       (intro K k; go_simp; apply k; clear k K)
       refine q_val (v := .int .i64 x1) rfl (fun w' hw' => by have h := (hPw.out w' (hbc.out.trans (hw'.below.mono hbc.out.size))).cell 0; go_simp) ?_
       (intro K k; go_simp; apply k; clear k K)
       refine Want.qv0 (.pointer (some ⟨w.heap.size + 2, 0, none⟩)) ?_
       (intro K k; go_simp; apply k; clear k K)
       refine q_val (v := .int .i64 j1) rfl (fun w' hw' => by have h := (hJw.out w' (hbc.out.trans (hw'.below.mono hbc.out.size))).cell 0; go_simp) ?_
       (intro K k; go_simp; apply k; clear k K)
       refine Want.qv0 (.bool true) ?_
       (intro K k; go_simp; apply k; clear k K)
       refine Want.qv0 (.bool true) ?_
       (intro K k; go_simp; apply k; clear k K)
       refine Want.qv0 (.bool true) ?_
       (intro K k; go_simp; apply k; clear k K)
       refine Want.qv0 (.pointer (some ⟨w.heap.size + 4, 0, none⟩)) ?_
       (intro K k; go_simp; apply k; clear k K)
       refine q_val (v := .int .i64 y1) rfl (fun w' hw' => by have h := (hQw.out w' (hbc.out.trans (hw'.below.mono hbc.out.size))).cell 0; go_simp) ?_
       (intro K k; go_simp; apply k; clear k K)
       refine Want.qv0 (.pointer (some ⟨w.heap.size + 2, 1, none⟩)) ?_
       (intro K k; go_simp; apply k; clear k K)
       refine q_val (v := .int .i64 j2) rfl (fun w' hw' => by have h := (hJw.out w' (hbc.out.trans (hw'.below.mono hbc.out.size))).cell 1; go_simp) ?_
       (intro K k; go_simp; apply k; clear k K)
       refine Want.qv0 (.bool true) ?_
       (intro K k; go_simp; apply k; clear k K)
       refine Want.qv0 (.bool true) ?_
       (intro K k; go_simp; apply k; clear k K)
       refine Want.qv0 (.bool true) ?_
       (intro K k; go_simp; apply k; clear k K)
       refine Want.qv0 (.pointer (some ⟨w.heap.size + 3, 1, none⟩)) ?_
       (intro K k; go_simp; apply k; clear k K)
       refine q_val (v := .int .i64 x2) rfl (fun w' hw' => by have h := (hPw.out w' (hbc.out.trans (hw'.below.mono hbc.out.size))).cell 1; go_simp) ?_
       (intro K k; go_simp; apply k; clear k K)
       refine Want.qv0 (.pointer (some ⟨w.heap.size + 4, 1, none⟩)) ?_
       (intro K k; go_simp; apply k; clear k K)
       refine q_val (v := .int .i64 y2) rfl (fun w' hw' => by have h := (hQw.out w' (hbc.out.trans (hw'.below.mono hbc.out.size))).cell 1; go_simp) ?_
       (intro K k; go_simp; apply k; clear k K)
       refine Want.qv0 (.bool false) ?_
       (intro K k; go_simp; apply k; clear k K)
       refine Want.qv0 (.bool false) ?_
       (intro K k; go_simp; apply k; clear k K)
       refine Want.qv0 (.bool false) ?_
       (intro K k; go_simp; apply k; clear k K)
       refine q_skip rfl ?_
       (intro K k; go_simp; apply k; clear k K)
       refine q_skip rfl ?_
       (intro K k; go_simp; apply k; clear k K)
       refine q_skip rfl ?_
       (intro K k; go_simp; apply k; clear k K)
       refine q_skip rfl ?_
       (intro K k; go_simp; apply k; clear k K)
       refine Want.qv0 (.bool false) ?_
       (intro K k; go_simp; apply k; clear k K)
       refine Want.qv0 (.bool false) ?_
       (intro K k; go_simp; apply k; clear k K)
       refine q_nil ?_
       intro w7 hw7
       have h7 : Hid (Below w3.heap.size w3 w7) := hbc.out.trans (hw7.below.mono hbc.out.size)
       go_wp2_with fail
       go_meet
       case rel => exact ⟨rfl, h7.out⟩
      | true =>
       cases ef with
       | true =>
        obtain rfl : false = want := hwant.out
        refine q_plain (Class wq) (Class.mk_ (Below.refl _ _)) ?_
        refine q_move rfl (.tmp 17) rfl ?_
        (intro K k; go_simp; apply k; clear k K)
        refine Want.qv0 (.bool true) ?_
        (intro K k; go_simp; apply k; clear k K)
        refine Want.qv0 (.pointer (some ⟨w.heap.size + 3, 0, none⟩)) ?_
        (intro K k; go_simp; apply k; clear k K)
        refine q_val (v := .int .i64 x1) rfl (fun w' hw' => by have h := (hPw.out w' (hbc.out.trans (hw'.below.mono hbc.out.size))).cell 0; go_simp) ?_
        (intro K k; go_simp; apply k; clear k K)
        refine Want.qv0 (.pointer (some ⟨w.heap.size + 2, 0, none⟩)) ?_
        (intro K k; go_simp; apply k; clear k K)
        refine q_val (v := .int .i64 j1) rfl (fun w' hw' => by have h := (hJw.out w' (hbc.out.trans (hw'.below.mono hbc.out.size))).cell 0; go_simp) ?_
        (intro K k; go_simp; apply k; clear k K)
        refine Want.qv0 (.bool true) ?_
        (intro K k; go_simp; apply k; clear k K)
        refine Want.qv0 (.bool true) ?_
        (intro K k; go_simp; apply k; clear k K)
        refine Want.qv0 (.bool true) ?_
        (intro K k; go_simp; apply k; clear k K)
        refine Want.qv0 (.pointer (some ⟨w.heap.size + 4, 0, none⟩)) ?_
        (intro K k; go_simp; apply k; clear k K)
        refine q_val (v := .int .i64 y1) rfl (fun w' hw' => by have h := (hQw.out w' (hbc.out.trans (hw'.below.mono hbc.out.size))).cell 0; go_simp) ?_
        (intro K k; go_simp; apply k; clear k K)
        refine Want.qv0 (.pointer (some ⟨w.heap.size + 2, 1, none⟩)) ?_
        (intro K k; go_simp; apply k; clear k K)
        refine q_val (v := .int .i64 j2) rfl (fun w' hw' => by have h := (hJw.out w' (hbc.out.trans (hw'.below.mono hbc.out.size))).cell 1; go_simp) ?_
        (intro K k; go_simp; apply k; clear k K)
        refine Want.qv0 (.bool true) ?_
        (intro K k; go_simp; apply k; clear k K)
        refine Want.qv0 (.bool true) ?_
        (intro K k; go_simp; apply k; clear k K)
        refine Want.qv0 (.bool true) ?_
        (intro K k; go_simp; apply k; clear k K)
        refine Want.qv0 (.pointer (some ⟨w.heap.size + 3, 1, none⟩)) ?_
        (intro K k; go_simp; apply k; clear k K)
        refine q_val (v := .int .i64 x2) rfl (fun w' hw' => by have h := (hPw.out w' (hbc.out.trans (hw'.below.mono hbc.out.size))).cell 1; go_simp) ?_
        (intro K k; go_simp; apply k; clear k K)
        refine Want.qv0 (.pointer (some ⟨w.heap.size + 4, 1, none⟩)) ?_
        (intro K k; go_simp; apply k; clear k K)
        refine q_val (v := .int .i64 y2) rfl (fun w' hw' => by have h := (hQw.out w' (hbc.out.trans (hw'.below.mono hbc.out.size))).cell 1; go_simp) ?_
        (intro K k; go_simp; apply k; clear k K)
        refine Want.qv0 (.bool true) ?_
        (intro K k; go_simp; apply k; clear k K)
        refine Want.qv0 (.bool true) ?_
        (intro K k; go_simp; apply k; clear k K)
        refine Want.qv0 (.bool true) ?_
        (intro K k; go_simp; apply k; clear k K)
        refine q_move rfl (.tmp 4) rfl ?_
        (intro K k; go_simp; apply k; clear k K)
        refine q_move rfl (.tmp 6) rfl ?_
        (intro K k; go_simp; apply k; clear k K)
        refine q_fn (v := .bool true) (args := #[.slice A k c, .slice B l d]) rfl _ _ rfl rfl Tryd.func20 (by kernel_rfl) (by kernel_rfl) (fun w' hw' => (hSe.out w' (hb3.out.trans ((hbc.out.trans (hw'.below.mono hbc.out.size)).mono hb3.out.size))).mono (fun e w'' ⟨he, n, hn⟩ => ⟨he, by subst hn; exact hw'.next (Go.Proofs.YtmdkfhfkdcbpgaaDoorR.Told20.below_drewN n)⟩)) ?_
        (intro K k; go_simp; apply k; clear k K)
        refine Want.qv0 (.bool false) ?_
        (intro K k; go_simp; apply k; clear k K)
        refine Want.qv0 (.bool false) ?_
        (intro K k; go_simp; apply k; clear k K)
        refine Want.qv0 (.bool false) ?_
        (intro K k; go_simp; apply k; clear k K)
        refine q_nil ?_
        intro w7 hw7
        have h7 : Hid (Below w3.heap.size w3 w7) := hbc.out.trans (hw7.below.mono hbc.out.size)
        go_wp2_with fail
        go_meet
        case rel => exact ⟨rfl, h7.out⟩
       | false =>
        obtain rfl : true = want := hwant.out
        refine q_plain (Class wq) (Class.mk_ (Below.refl _ _)) ?_
        refine q_move rfl (.tmp 17) rfl ?_
        (intro K k; go_simp; apply k; clear k K)
        refine Want.qv0 (.bool true) ?_
        (intro K k; go_simp; apply k; clear k K)
        refine Want.qv0 (.pointer (some ⟨w.heap.size + 3, 0, none⟩)) ?_
        (intro K k; go_simp; apply k; clear k K)
        refine q_val (v := .int .i64 x1) rfl (fun w' hw' => by have h := (hPw.out w' (hbc.out.trans (hw'.below.mono hbc.out.size))).cell 0; go_simp) ?_
        (intro K k; go_simp; apply k; clear k K)
        refine Want.qv0 (.pointer (some ⟨w.heap.size + 2, 0, none⟩)) ?_
        (intro K k; go_simp; apply k; clear k K)
        refine q_val (v := .int .i64 j1) rfl (fun w' hw' => by have h := (hJw.out w' (hbc.out.trans (hw'.below.mono hbc.out.size))).cell 0; go_simp) ?_
        (intro K k; go_simp; apply k; clear k K)
        refine Want.qv0 (.bool true) ?_
        (intro K k; go_simp; apply k; clear k K)
        refine Want.qv0 (.bool true) ?_
        (intro K k; go_simp; apply k; clear k K)
        refine Want.qv0 (.bool true) ?_
        (intro K k; go_simp; apply k; clear k K)
        refine Want.qv0 (.pointer (some ⟨w.heap.size + 4, 0, none⟩)) ?_
        (intro K k; go_simp; apply k; clear k K)
        refine q_val (v := .int .i64 y1) rfl (fun w' hw' => by have h := (hQw.out w' (hbc.out.trans (hw'.below.mono hbc.out.size))).cell 0; go_simp) ?_
        (intro K k; go_simp; apply k; clear k K)
        refine Want.qv0 (.pointer (some ⟨w.heap.size + 2, 1, none⟩)) ?_
        (intro K k; go_simp; apply k; clear k K)
        refine q_val (v := .int .i64 j2) rfl (fun w' hw' => by have h := (hJw.out w' (hbc.out.trans (hw'.below.mono hbc.out.size))).cell 1; go_simp) ?_
        (intro K k; go_simp; apply k; clear k K)
        refine Want.qv0 (.bool true) ?_
        (intro K k; go_simp; apply k; clear k K)
        refine Want.qv0 (.bool true) ?_
        (intro K k; go_simp; apply k; clear k K)
        refine Want.qv0 (.bool true) ?_
        (intro K k; go_simp; apply k; clear k K)
        refine Want.qv0 (.pointer (some ⟨w.heap.size + 3, 1, none⟩)) ?_
        (intro K k; go_simp; apply k; clear k K)
        refine q_val (v := .int .i64 x2) rfl (fun w' hw' => by have h := (hPw.out w' (hbc.out.trans (hw'.below.mono hbc.out.size))).cell 1; go_simp) ?_
        (intro K k; go_simp; apply k; clear k K)
        refine Want.qv0 (.pointer (some ⟨w.heap.size + 4, 1, none⟩)) ?_
        (intro K k; go_simp; apply k; clear k K)
        refine q_val (v := .int .i64 y2) rfl (fun w' hw' => by have h := (hQw.out w' (hbc.out.trans (hw'.below.mono hbc.out.size))).cell 1; go_simp) ?_
        (intro K k; go_simp; apply k; clear k K)
        refine Want.qv0 (.bool true) ?_
        (intro K k; go_simp; apply k; clear k K)
        refine Want.qv0 (.bool true) ?_
        (intro K k; go_simp; apply k; clear k K)
        refine Want.qv0 (.bool true) ?_
        (intro K k; go_simp; apply k; clear k K)
        refine q_move rfl (.tmp 4) rfl ?_
        (intro K k; go_simp; apply k; clear k K)
        refine q_move rfl (.tmp 6) rfl ?_
        (intro K k; go_simp; apply k; clear k K)
        refine q_fn (v := .bool false) (args := #[.slice A k c, .slice B l d]) rfl _ _ rfl rfl Tryd.func20 (by kernel_rfl) (by kernel_rfl) (fun w' hw' => (hSe.out w' (hb3.out.trans ((hbc.out.trans (hw'.below.mono hbc.out.size)).mono hb3.out.size))).mono (fun e w'' ⟨he, n, hn⟩ => ⟨he, by subst hn; exact hw'.next (Go.Proofs.YtmdkfhfkdcbpgaaDoorR.Told20.below_drewN n)⟩)) ?_
        (intro K k; go_simp; apply k; clear k K)
        refine Want.qv0 (.bool true) ?_
        (intro K k; go_simp; apply k; clear k K)
        refine Want.qv0 (.bool true) ?_
        (intro K k; go_simp; apply k; clear k K)
        refine Want.qv0 (.bool true) ?_
        (intro K k; go_simp; apply k; clear k K)
        refine q_nil ?_
        intro w7 hw7
        have h7 : Hid (Below w3.heap.size w3 w7) := hbc.out.trans (hw7.below.mono hbc.out.size)
        go_wp2_with fail
        go_meet
        case rel => exact ⟨rfl, h7.out⟩
  case rest =>
   obtain ⟨rfl, hbe⟩ := hcut
   obtain ⟨we, rfl⟩ : ∃ we, we = wc := ⟨_, rfl⟩
   clear hbc hSe hwa hwant
   have hbwe : Hid (Below w.heap.size w we) := hb3.out.trans (hbe.out.mono hb3.out.size)
   go_wp2_with (first
    | ((with_reducible change wpList _ _ _ (⟨some 85, _, _, _, _, _⟩ :: _) _ _); refine wpList_load_row (o := ⟨some 85, _, _, _, _, _⟩) rfl 23 (.tmp 9) rfl (w.heap.size) rfl 23 ((cells8 r0).toArray) (0, 0) _ (hRw.out we hbe.out) Tryd.underlying23 rfl Fr.out.size ?_)
    | ((with_reducible change wpList _ _ _ (⟨some 86, _, _, _, _, _⟩ :: _) _ _); refine wpList_load_row (o := ⟨some 86, _, _, _, _, _⟩) rfl 23 (.tmp 10) rfl (w.heap.size + 1) rfl 23 ((cells8 r1).toArray) (0, 0) _ (hSw.out we hbe.out) Tryd.underlying23 rfl Fs.out.size ?_)
    | ((with_reducible change wpList _ _ _ (⟨some 87, _, _, _, _, _⟩ :: _) _ _); refine wpList_load_row (o := ⟨some 87, _, _, _, _, _⟩) rfl 91 (.tmp 11) rfl (w.heap.size + 2) rfl 91 (#[Value.int .i64 j1, Value.int .i64 j2, Value.slice A3 o c3]) (0, 0) _ (hJw.out we hbe.out) Tryd.underlying91 rfl sizeC ?_)
    | ((with_reducible change wpList _ _ _ (⟨some 89, _, _, _, _, _⟩ :: _) _ _); refine wpList_load_row (o := ⟨some 89, _, _, _, _, _⟩) rfl 31 (.tmp 13) rfl (w.heap.size + 3) rfl 31 (#[Value.int .i64 x1, Value.int .i64 x2, Value.slice A2 n c2]) (0, 0) _ (hPw.out we hbe.out) Tryd.underlying31 rfl sizeI ?_)
    | ((with_reducible change wpList _ _ _ (⟨some 91, _, _, _, _, _⟩ :: _) _ _); refine wpList_load_row (o := ⟨some 91, _, _, _, _, _⟩) rfl 31 (.tmp 15) rfl (w.heap.size + 4) rfl 31 (#[Value.int .i64 y1, Value.int .i64 y2, Value.slice B2 m d2]) (0, 0) _ (hQw.out we hbe.out) Tryd.underlying31 rfl sizeI ?_))
   refine (hTX.out we hbwe.out).mono ?_
   rintro e' w5 ⟨hk5, xa, xb, ok, rfl, hXR⟩
   have h5 : Hid (Below w3.heap.size w3 w5) := hbe.out.trans (hk5.mono hbe.out.size)
   have hFE : Hid (FitE #[xa, xb]) := XR.fit hXR
   replace hXR := Lib.hid hXR
   clear hk5 hTX hbwe hbe
   go_wp2_with ((with_reducible change wpList _ _ _ ({ dst := none, op := Op.store 82 (.tmp 18) _, type := _, pos := _, after := _, guard := _ } :: _) _ _); refine wpList_store_whole (o := ⟨none, _, _, _, _, _⟩) rfl 82 (.tmp 18) (.tmp 93) rfl (w5.heap.size) (#[xa, xb]) rfl rfl 82 (#[Value.slice none 0 0, Value.slice none 0 0]) (Blk.new w5 _ _) hFE.out.size hFE.out.zero hFE.out.one ?_; intro w6 hM kk; have k56 : Below w5.heap.size w5 w6 := kept_fresh kk; have h6 : Hid (Below w3.heap.size w3 w6) := h5.out.trans (k56.mono h5.out.size); replace hXR := Lib.hid (hXR.out.below k56); replace hM := Lib.hid hM; clear kk k56 h5)
   have hbd := h6
   have hbwd : Hid (Below w.heap.size w w6) := hb3.out.trans (h6.out.mono hb3.out.size)
   have s0 : Hid (Below w6.heap.size w6 w6.drew) := (Below.refl _ _).drew
   refine held_start (fun w' => Below w6.heap.size w6 w') 10 rfl (by kernel_rfl) ?_
   refine Held.tk0 (i := 0) (v := .int .i64 s) rfl s0.out (fun w' hw' => run_mv (.tmp 0) rfl w') ?_
   (intro K k; go_simp; apply k; clear k K)
   refine Held.tk0 (i := 1) (v := .slice A k c) rfl s0.out (fun w' hw' => run_mv (.tmp 4) rfl w') ?_
   (intro K k; go_simp; apply k; clear k K)
   refine Held.tk0 (i := 2) (v := .agg (#[Value.int .i64 x1, Value.int .i64 x2, Value.slice A2 n c2])) rfl s0.out (fun w' hw' => exec_row 31 (.tmp 13) rfl ((w.heap.size + 3)) rfl 31 (#[Value.int .i64 x1, Value.int .i64 x2, Value.slice A2 n c2]) (0, 0) _ (hPw.out w' (h6.out.trans (hw'.mono h6.out.size))) Tryd.underlying31 rfl sizeI) ?_
   (intro K k; go_simp; apply k; clear k K)
   refine Held.tk0 (i := 4) (v := .int .i64 s) rfl s0.out (fun w' hw' => run_mv (.tmp 0) rfl w') ?_
   (intro K k; go_simp; apply k; clear k K)
   refine Held.tk0 (i := 5) (v := .slice B l d) rfl s0.out (fun w' hw' => run_mv (.tmp 6) rfl w') ?_
   (intro K k; go_simp; apply k; clear k K)
   refine Held.tk0 (i := 6) (v := .agg (#[Value.int .i64 y1, Value.int .i64 y2, Value.slice B2 m d2])) rfl s0.out (fun w' hw' => exec_row 31 (.tmp 15) rfl ((w.heap.size + 4)) rfl 31 (#[Value.int .i64 y1, Value.int .i64 y2, Value.slice B2 m d2]) (0, 0) _ (hQw.out w' (h6.out.trans (hw'.mono h6.out.size))) Tryd.underlying31 rfl sizeI) ?_
   (intro K k; go_simp; apply k; clear k K)
   refine held_only (i := 3) rfl (by kernel_rfl) (by rfl) (fun K hK => ?_)
   refine wp_fn (R := fun v w'' => ∃ xs, w''.ownsRow w6.heap.size 27 1 v (1 + m4) xs ∧ Ty w'' xs T1 ∧ Below (w6.drew).heap.size (w6.drew) w'') (args := #[.int .i64 s, .slice A k c, .agg #[Value.int .i64 x1, Value.int .i64 x2, Value.slice A2 n c2]]) _ _ rfl rfl Tryd.func38 (by kernel_rfl) (by kernel_rfl) ((hWa1.out _ (hbwd.out.trans (s0.out.mono hbwd.out.size))).mono fun e w'' ⟨v, xs, he, ho, hty, hb⟩ => ⟨_, he, xs, own_down ho s0.out.size, hty, hb⟩) ?_
   rintro vF w8 ⟨xsF, hoF, tyF, kk1⟩
   have h8 : Hid (Below w6.heap.size w6 w8) := s0.out.trans (kk1.mono s0.out.size)
   replace hoF := Lib.hid hoF
   replace tyF := Lib.hid tyF
   clear kk1
   go_simp
   refine hK _ _ h8.out ?_
   clear hK K
   refine held_only (i := 7) rfl (by kernel_rfl) (by rfl) (fun K hK => ?_)
   refine wp_fn (R := fun v w'' => ∃ xs, w''.ownsRow w6.heap.size 27 1 v N2 xs ∧ Ty w'' xs T2 ∧ Below (w8).heap.size (w8) w'') (args := #[.int .i64 s, .slice B l d, .agg #[Value.int .i64 y1, Value.int .i64 y2, Value.slice B2 m d2]]) _ _ rfl rfl Tryd.func38 (by kernel_rfl) (by kernel_rfl) ((hWa2.out _ (hbwd.out.trans (h8.out.mono hbwd.out.size))).mono fun e w'' ⟨v, xs, he, ho, hty, hb⟩ => ⟨_, he, xs, own_down ho h8.out.size, hty, hb⟩) ?_
   rintro vS w9 ⟨xsS, hoS, tyS, kk1⟩
   have h9 : Hid (Below w6.heap.size w6 w9) := h8.out.trans (kk1.mono h8.out.size)
   replace hoF := Lib.hid (Own.own_below hoF.out kk1)
   replace tyF := Lib.hid (tyF.out.below kk1)
   replace hoS := Lib.hid hoS
   replace tyS := Lib.hid tyS
   clear kk1
   go_simp
   refine hK _ _ h9.out ?_
   clear hK K
   obtain ⟨A1', c1', e1', -, -, -, -, hA1'⟩ := Append.Own.reads hoF.out
   obtain ⟨A2', c2', e2', -, -, hnil2', hr2', -⟩ := Append.Own.reads hoS.out
   subst e1' e2'
   have hone := Lib.hid (Ty.one hoS.out tyS.out hN2h.out)
   have hmx : Hid (1 + m4 + N2 ≤ maxLen) := by have := hm4s.out; have := hN2s.out; show _ ≤ _; unfold maxLen; omega
   have hmb : Hid ((1 + m4 + N2) * 24 ≤ 140737488355328) := by have := hm4s.out; have := hN2s.out; show _ ≤ _; omega
   refine held_only (i := 8) rfl (by kernel_rfl) (by rfl) (fun K hK => ?_)
   refine Append.wp_append_src _ (.tmp 98) (.tmp 102) 24 rfl w6.heap.size 27 i0 (.slice none 0 0) 1 24 Tryd.underlying24 ii iz0 iz1 iz2 rfl (by decide) (.slice A1' (1 + m4) c1') (1 + m4) xsF rfl hoF.out A2' N2 c2' xsS rfl hr2' hnil2' hone.out hmx.out hmb.out h9.out.size (fun v10 w10 hGr => ?_)
   obtain ⟨t12, o12, -⟩ := ty_cat2 hm4h.out hoF.out tyF.out tyS.out (fun h => by omega) hGr
   have h10 : Hid (Below w6.heap.size w6 w10) := hGr.below h9.out h9.out.size (fun k hk => own_base hoF.out k hk)
   have hkG : Kept (fun k => some k = Value.ownBlock (.slice A1' (1 + m4) c1')) w9 w10 := (Kept.refl _ w9).grown hGr.grow (fun k e => .inl e.symm)
   have ho1l := hoF.out
   rw [← hm4h.out] at ho1l
   have hXR7 : Hid (XR w10 s want ((T1 ++ T2) ++ T3) xa xb ok) := (hXR.out.below h9.out).keep hkG (fun g hg => own_frontY ho1l tyF.out (by rw [hm4h.out]; omega) g (by rw [hm4h.out]; exact hg))
   obtain ⟨A9, c9, e9, -⟩ := Append.Own.reads o12
   subst e9
   replace t12 := Lib.hid t12
   replace o12 := Lib.hid o12
   clear hkG ho1l hnil2' hr2' hA1'
   go_simp
   refine hK _ _ h10.out ?_
   clear hK K
   refine Held.tk0 (i := 9) (v := .slice A9 (1 + m4 + N2) c9) rfl h10.out (fun w' hw' => by first | go_simp | rfl) ?_
   (intro K k; go_simp; apply k; clear k K)
   refine held_end (by kernel_rfl) ?_
   clear h8 h9 hWa1 hWa2 hXR hone hmx hmb
   go_wp2_with fail
   have s0 : Hid (Below w6.heap.size w6 w10.drew) := h10.out.drew
   have s10 : Below w10.heap.size w10 w10.drew := (Below.refl _ _).drew
   refine held_start (fun w' => Below w6.heap.size w6 w') 12 rfl (by kernel_rfl) ?_
   refine Held.tk0 (i := 0) (v := .int .i64 s) rfl s0.out (fun w' hw' => run_mv (.tmp 0) rfl w') ?_
   (intro K k; go_simp; apply k; clear k K)
   refine Held.tk0 (i := 1) (v := .agg (#[xa, xb])) rfl s0.out (fun w' hw' => exec_row 82 (.tmp 18) rfl (w5.heap.size) rfl 82 (#[xa, xb]) (0, 0) _ ((show Blk w' w5.heap.size 82 #[xa, xb] from (hw'.block _ hM.out.lt).trans hM.out)) Tryd.underlying82 rfl sizeE2) ?_
   (intro K k; go_simp; apply k; clear k K)
   refine Held.tk0 (i := 2) (v := .bool ok) rfl s0.out (fun w' hw' => run_mv (.tmp 19) rfl w') ?_
   (intro K k; go_simp; apply k; clear k K)
   refine Held.tk0 (i := 3) (v := .bool want) rfl s0.out (fun w' hw' => run_mv (.tmp 17) rfl w') ?_
   (intro K k; go_simp; apply k; clear k K)
   refine Held.tk0 (i := 4) (v := .slice A9 (1 + m4 + N2) c9) rfl s0.out (fun w' hw' => run_mv (.tmp 20) rfl w') ?_
   (intro K k; go_simp; apply k; clear k K)
   refine Held.tk0 (i := 5) (v := .int .i64 s) rfl s0.out (fun w' hw' => run_mv (.tmp 0) rfl w') ?_
   (intro K k; go_simp; apply k; clear k K)
   refine Held.tk0 (i := 6) (v := .agg ((cells8 r0).toArray)) rfl s0.out (fun w' hw' => exec_row 23 (.tmp 9) rfl (w.heap.size) rfl 23 ((cells8 r0).toArray) (0, 0) _ (hRw.out w' (h6.out.trans (hw'.mono h6.out.size))) Tryd.underlying23 rfl Fr.out.size) ?_
   (intro K k; go_simp; apply k; clear k K)
   refine Held.tk0 (i := 7) (v := .agg (#[Value.int .i64 j1, Value.int .i64 j2, Value.slice A3 o c3])) rfl s0.out (fun w' hw' => exec_row 91 (.tmp 11) rfl ((w.heap.size + 2)) rfl 91 (#[Value.int .i64 j1, Value.int .i64 j2, Value.slice A3 o c3]) (0, 0) _ (hJw.out w' (h6.out.trans (hw'.mono h6.out.size))) Tryd.underlying91 rfl sizeC) ?_
   (intro K k; go_simp; apply k; clear k K)
   refine held_only (i := 8) rfl (by kernel_rfl) (by rfl) (fun K hK => ?_)
   refine wp_fn (R := fun v w'' => ∃ A' c' xs, v = .slice A' N3 c' ∧ (A' = none → N3 = 0 ∧ c' = 0) ∧ Reads w'' 1 A' N3 xs ∧ Tx w'' xs T3 ∧ Below w10.drew.heap.size w10.drew w'') (args := #[.int .i64 s, .agg (cells8 r0).toArray, .agg #[Value.int .i64 j1, Value.int .i64 j2, Value.slice A3 o c3]]) _ _ rfl rfl Tryd.func48 (by kernel_rfl) (by kernel_rfl) ((hJo.out _ (hbwd.out.trans (s0.out.mono hbwd.out.size))).mono fun e w'' ⟨A', c', xs, he, hn, hr, hT, hb⟩ => ⟨_, he, A', c', xs, rfl, hn, hr, hT, hb⟩) ?_
   rintro qq w11 ⟨A3', c3', xs3, rfl, hn3, hr3, ht3, kk1⟩
   have h11 : Hid (Below w6.heap.size w6 w11) := s0.out.trans (kk1.mono s0.out.size)
   have k11 : Below w10.heap.size w10 w11 := s10.trans (kk1.mono s10.size)
   replace o12 := Lib.hid (Own.own_below o12.out k11)
   replace t12 := Lib.hid (t12.out.below k11)
   replace hXR7 := Lib.hid (hXR7.out.below k11)
   have ty3 := Lib.hid (Tx.ty ht3)
   have hone := Lib.hid (ty_one hr3.1 ty3.out hN3h.out)
   replace hn3 := Lib.hid hn3
   replace hr3 := Lib.hid hr3
   clear kk1 k11 ht3
   go_simp
   refine hK _ _ h11.out ?_
   clear hK K
   have hmx : Hid (1 + m4 + N2 + N3 ≤ maxLen) := by have := hm4s.out; have := hN2s.out; have := hN3s.out; show _ ≤ _; unfold maxLen; omega
   have hmb : Hid ((1 + m4 + N2 + N3) * 24 ≤ 140737488355328) := by have := hm4s.out; have := hN2s.out; have := hN3s.out; show _ ≤ _; omega
   have h612 : Hid ((T1 ++ T2).length = 1 + m4 + N2) := by show _ = _; rw [List.length_append, hm4h.out, hN2h.out]
   refine held_only (i := 9) rfl (by kernel_rfl) (by rfl) (fun K hK => ?_)
   refine Append.wp_append_src _ (.tmp 108) (.tmp 112) 24 rfl w6.heap.size 27 i0 (.slice none 0 0) 1 24 Tryd.underlying24 ii iz0 iz1 iz2 rfl (by decide) (.slice A9 (1 + m4 + N2) c9) (1 + m4 + N2) _ rfl o12.out A3' N3 c3' xs3 rfl hr3.out hn3.out hone.out hmx.out hmb.out h11.out.size (fun v12 w12 hGr => ?_)
   obtain ⟨t13, o13, -⟩ := ty_cat2 h612.out o12.out t12.out ty3.out (fun h => by omega) hGr
   have h12 : Hid (Below w6.heap.size w6 w12) := hGr.below h11.out h11.out.size (fun k hk => own_base o12.out k hk)
   have hkG : Kept (fun k => some k = Value.ownBlock (.slice A9 (1 + m4 + N2) c9)) w11 w12 := (Kept.refl _ w11).grown hGr.grow (fun k e => .inl e.symm)
   have ho1l := o12.out
   rw [← h612.out] at ho1l
   have hXR8 : Hid (XR w12 s want ((T1 ++ T2) ++ T3) xa xb ok) := hXR7.out.keep hkG (fun g hg => own_frontY ho1l t12.out (by rw [h612.out]; omega) g (by rw [h612.out]; exact hg))
   have hlen3 : ((T1 ++ T2) ++ T3).length = 1 + m4 + N2 + N3 := by rw [List.length_append, h612.out, hN3h.out]
   rw [← hlen3] at o13
   obtain ⟨A8, c8, e8, -, -, hp8⟩ := Ty.pieces o13 t13
   subst e8
   rw [hlen3]
   replace hp8 := Lib.hid hp8
   clear t13 o13 hkG ho1l hlen3
   go_simp
   refine hK _ _ h12.out ?_
   clear hK K
   refine held_only (i := 10) rfl (by kernel_rfl) (by rfl) (fun K hK => ?_)
   refine wp_fn (R := fun v w'' => v = .bool true ∧ Below w6.heap.size w6 w'') (args := #[.int .i64 s, .agg #[xa, xb], .bool ok, .bool want, .slice A8 (1 + m4 + N2 + N3) c8]) _ _ rfl rfl Tryd.func43 (by kernel_rfl) (by kernel_rfl) ((hTo.out w12 want A8 c8 xa xb ok hp8.out hXR8.out).mono fun e w'' ⟨he, hb⟩ => ⟨_, he, rfl, h12.out.trans (hb.mono h12.out.size)⟩) ?_
   rintro qq w13 ⟨rfl, h13⟩
   replace h13 := Lib.hid h13
   go_simp
   refine hK _ _ h13.out ?_
   clear hK K
   refine Held.tk0 (i := 11) (v := .bool true) rfl h13.out (fun w' hw' => by first | go_simp | rfl) ?_
   (intro K k; go_simp; apply k; clear k K)
   refine held_end (by kernel_rfl) ?_
   have hfin : Hid (Below w.heap.size w w13) := hbwd.out.trans (h13.out.mono hbwd.out.size)
   go_wp2_with fail
   go_ret
   exact ⟨rfl, hfin.out⟩
end Go.Proofs.YtmdkfhfkdcbpgaaDoorR.AuditTwoSizes
