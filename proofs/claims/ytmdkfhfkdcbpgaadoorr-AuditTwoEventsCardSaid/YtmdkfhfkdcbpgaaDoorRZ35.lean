/-
  Texts of the claim, put into one file: AuditTwoEvents.
-/
import Derived.Test.YtmdkfhfkdcbpgaaDoorRZ34
import Derived.Test.YtmdkfhfkdcbpgaaDoorRZ33
import Derived.Test.YtmdkfhfkdcbpgaaDoorRZ17
import Derived.Test.YtmdkfhfkdcbpgaaDoorRZ3
import Derived.Test.YtmdkfhfkdcbpgaaDoorRZ28
import Derived.LoopN

namespace Go.Proofs.YtmdkfhfkdcbpgaaDoorR.AuditTwoEvents
open Go Go.RowKit Go.Proofs.YtmdkfhfkdcbpgaaDoorR Go.Proofs.YtmdkfhfkdcbpgaaDoorR.Mem Go.Proofs.YtmdkfhfkdcbpgaaDoorR.Sha Go.Proofs.YtmdkfhfkdcbpgaaDoorR.Bytes Go.Proofs.YtmdkfhfkdcbpgaaDoorR.HashMem Go.Proofs.YtmdkfhfkdcbpgaaDoorR.DigestMem Go.Proofs.YtmdkfhfkdcbpgaaDoorR.RefSum Go.Proofs.YtmdkfhfkdcbpgaaDoorR.RefCut Go.Proofs.YtmdkfhfkdcbpgaaDoorR.QuietTail Go.Proofs.YtmdkfhfkdcbpgaaDoorR.Grown Go.Proofs.YtmdkfhfkdcbpgaaDoorR.TreeMem Go.Proofs.YtmdkfhfkdcbpgaaDoorR.TreeRoot Go.Proofs.YtmdkfhfkdcbpgaaDoorR.Append Go.Proofs.YtmdkfhfkdcbpgaaDoorR.Held Go.Proofs.YtmdkfhfkdcbpgaaDoorR.Guard Go.Proofs.YtmdkfhfkdcbpgaaDoorR.Chain Go.Proofs.YtmdkfhfkdcbpgaaDoorR.ProofEnc Go.Proofs.YtmdkfhfkdcbpgaaDoorR.Ref17 Go.Proofs.YtmdkfhfkdcbpgaaDoorR.TwiceP Go.Proofs.YtmdkfhfkdcbpgaaDoorR.Clash Go.Proofs.YtmdkfhfkdcbpgaaDoorR.Node Go.Proofs.YtmdkfhfkdcbpgaaDoorR.RowsT Go.Proofs.YtmdkfhfkdcbpgaaDoorR.RowsY Go.Proofs.YtmdkfhfkdcbpgaaDoorR.Want Go.Proofs.YtmdkfhfkdcbpgaaDoorR.Law20 Go.Proofs.YtmdkfhfkdcbpgaaDoorR.Same8 Go.Proofs.YtmdkfhfkdcbpgaaDoorR.Extract Go.Proofs.YtmdkfhfkdcbpgaaDoorR.Book Go.Proofs.YtmdkfhfkdcbpgaaDoorR.Book2 Go.Proofs.YtmdkfhfkdcbpgaaDoorR.AudIncl Go.Proofs.YtmdkfhfkdcbpgaaDoorR.Way20 Go.Proofs.YtmdkfhfkdcbpgaaDoorR.TwoEvP Go.Proofs.YtmdkfhfkdcbpgaaDoorR.Included Go.Proofs.YtmdkfhfkdcbpgaaDoorR.WayOwn Go.Proofs.YtmdkfhfkdcbpgaaDoorR.TwoEv Go.Proofs.YtmdkfhfkdcbpgaaDoorR.TwoEvAny Go.Proofs.YtmdkfhfkdcbpgaaDoorR.Told20 Go.Proofs.YtmdkfhfkdcbpgaaDoorR.Told20b Go.Proofs.YtmdkfhfkdcbpgaaDoorR.BuildD

theorem texts_long {s : Int} {e : Text} {k : Nat} (hk : e.length = k) (hk47 : k < 140737488355327) {x1 x2 : Int} {ds : List Text} (hd : Digs ds) : ∀ q ∈ evTexts s e x1 x2 ds, q.length < 140737488355328 := fun q hq => by
  have hxt := inclOf_texts s x1 x2 (leafOf s e) ds (by rw [leaf_sum]; exact sumOf_len _ _) hd
  rcases List.mem_cons.1 hq with h | h
  · rw [h]; simp; omega
  · rw [hxt.2 q h]; decide
theorem texts_pos {s : Int} {e : Text} {x1 x2 : Int} {ds : List Text} (hd : Digs ds) : ∀ q ∈ evTexts s e x1 x2 ds, 0 < q.length := fun q hq => by
  have hxt := inclOf_texts s x1 x2 (leafOf s e) ds (by rw [leaf_sum]; exact sumOf_len _ _) hd
  rcases List.mem_cons.1 hq with h | h
  · rw [h]; exact Nat.succ_pos _
  · rw [hxt.2 q h]; decide
theorem texts_few {s : Int} {e : Text} {x1 x2 : Int} {ds : List Text} (hd : Digs ds) (hn : ds.length ≤ 300) : (evTexts s e x1 x2 ds).length ≤ 301 := by
  have hxt := inclOf_texts s x1 x2 (leafOf s e) ds (by rw [leaf_sum]; exact sumOf_len _ _) hd
  unfold evTexts
  rw [List.length_cons]
  omega
structure FitE (cs : Array Value) : Prop where
  size : (Tryd.prog.info? 82).map (·.size) = some cs.size
  zero : (#[Value.slice none 0 0, Value.slice none 0 0] : Array Value).size = cs.size
  one : cs.all (fun v => v.oneCell') = true
theorem XR.fit {w : World} {s : Int} {want : Bool} {ts : List Text} {xa xb : Value} {ok : Bool} (h : XR w s want ts xa xb ok) : FitE #[xa, xb] := by
  refine ⟨sizeE2, rfl, ?_⟩
  rcases h with ⟨-, rfl, rfl, -⟩ | ⟨-, -, ga, ca, gb, cb, p, q, rfl, rfl, -⟩
  · rw [List.all_toArray]; rfl
  · rw [List.all_toArray]; rfl
set_option maxRecDepth 100000 in
set_option maxHeartbeats 8000000 in
theorem auditTwoEvents_any (s : Int) (hs63 : s < 9223372036854775808) (root : Text) (hrt : root.length = 32) (e : Text) (k : Nat) (hk : e.length = k) (hk47 : k < 140737488355327) (A : Option Addr) (c : Nat) (hkc : k ≤ c) (hnil : A = none → k = 0 ∧ c = 0) (x1 x2 : Int) (es1 : List Text) (n0 : Nat) (A2 : Option Addr) (c2 : Nat) (hnc : n0 ≤ c2)
    (f : Text) (l : Nat) (hl : f.length = l) (hl47 : l < 140737488355327) (B : Option Addr) (d : Nat) (hld : l ≤ d) (hnilB : B = none → l = 0 ∧ d = 0) (y1 y2 : Int) (es2 : List Text) (m0 : Nat) (B2 : Option Addr) (d2 : Nat) (hmd : m0 ≤ d2) (w : World) (hB : Base w) (hr : Reads w 1 A k (cells8 e)) (hrd0 : RdD w A2 n0 es1) (hrf : Reads w 1 B l (cells8 f)) (hrdf0 : RdD w B2 m0 es2) :
    Calls Tryd.prog 7 #[.int .i64 s, .agg (cells8 root).toArray, .slice A k c, .agg (inclCells x1 x2 A2 n0 c2), .slice B l d, .agg (inclCells y1 y2 B2 m0 d2)] w fun e' w' => e' = .returned (.bool true) ∧ Below w.heap.size w w' := by
  obtain ⟨i0, ii, iz0, iz1, iz2⟩ := info_partsN infoT
  obtain ⟨n, hn⟩ : ∃ n, min n0 300 = n := ⟨_, rfl⟩
  obtain ⟨ds, hds⟩ : ∃ ds, es1.take n = ds := ⟨_, rfl⟩
  obtain ⟨m, hm⟩ : ∃ m, min m0 300 = m := ⟨_, rfl⟩
  obtain ⟨es, hes⟩ : ∃ es, es2.take m = es := ⟨_, rfl⟩
  have hrd : RdD w A2 n ds := by rw [← hds]; exact hrd0.take_ n (by omega)
  have hrdf : RdD w B2 m es := by rw [← hes]; exact hrdf0.take_ m (by omega)
  have hn300 : n ≤ 300 := by omega
  have hm300 : m ≤ 300 := by omega
  have hF1 : Hid (∀ w', Calls Tryd.prog 32 #[.slice A2 n0 c2, .int .i64 300] w' fun e w'' => e = .returned (.slice A2 n c2) ∧ w' = w'') := fun w' => by
    have := few20_any A2 n0 c2 hnc w'
    rwa [hn] at this
  have hF2 : Hid (∀ w', Calls Tryd.prog 32 #[.slice B2 m0 d2, .int .i64 300] w' fun e w'' => e = .returned (.slice B2 m d2) ∧ w' = w'') := fun w' => by
    have := few20_any B2 m0 d2 hmd w'
    rwa [hm] at this
  have hl1 := texts_long (s := s) (x1 := x1) (x2 := x2) hk hk47 hrd.2.1
  have hl2 := texts_long (s := s) (x1 := y1) (x2 := y2) hl hl47 hrdf.2.1
  have hp1 := texts_pos (s := s) (e := e) (x1 := x1) (x2 := x2) hrd.2.1
  have hp2 := texts_pos (s := s) (e := f) (x1 := y1) (x2 := y2) hrdf.2.1
  have hf1 := texts_few (s := s) (e := e) (x1 := x1) (x2 := x2) hrd.2.1 (by rw [hrd.1]; exact hn300)
  have hf2 := texts_few (s := s) (e := f) (x1 := y1) (x2 := y2) hrdf.2.1 (by rw [hrdf.1]; exact hm300)
  have hWa1 := Lib.hid (fun w' (hb : Below w.heap.size w w') => way20_own s hs63 e k hk hk47 A c hkc hnil x1 x2 ds A2 n c2 (by omega) w' (hr.below hb) (hrd.below hb))
  have hWa2 := Lib.hid (fun w' (hb : Below w.heap.size w w') => way20_own s hs63 f l hl hl47 B d hld hnilB y1 y2 es B2 m d2 (by omega) w' (hrf.below hb) (hrdf.below hb))
  have hTE := Lib.hid (fun (r : Text) (hr32 : r.length = 32) w' (hb : Below w.heap.size w w') => twoEvents_any s r hr32 e k hk hk47 A c hkc hnil x1 x2 ds A2 n c2 hn300 f l hl hl47 B d hld hnilB y1 y2 es B2 m d2 hm300 w' (hB.below hb hB.1) (hr.below hb) (hrd.below hb) (hrf.below hb) (hrdf.below hb))
  have hIn1 := Lib.hid (fun (r : Text) (hr32 : r.length = 32) w' (hb : Below w.heap.size w w') => refIncl_any s r hr32 e k hk (by omega) A c hkc hnil x1 x2 ds A2 n c2 (by omega) w' hs63 (hr.below hb) (hrd.below hb))
  have hIn2 := Lib.hid (fun (r : Text) (hr32 : r.length = 32) w' (hb : Below w.heap.size w w') => refIncl_any s r hr32 f l hl (by omega) B d hld hnilB y1 y2 es B2 m d2 (by omega) w' hs63 (hrf.below hb) (hrdf.below hb))
  have hSe := Lib.hid (fun w' (hb : Below w.heap.size w w') => same8_any e f k l hk hl (by omega) A B c d w' (hr.below hb) (hrf.below hb))
  unfold wantEv at hTE
  unfold inclCells at hWa1 hWa2 hTE hIn1 hIn2 ⊢
  obtain ⟨T1, hT1⟩ : ∃ T, evTexts s e x1 x2 ds = T := ⟨_, rfl⟩
  obtain ⟨T2, hT2⟩ : ∃ T, evTexts s f y1 y2 es = T := ⟨_, rfl⟩
  rw [hT1] at hl1 hp1 hf1 hWa1 hTE
  rw [hT2] at hl2 hp2 hf2 hWa2 hTE
  obtain ⟨m4, hm4⟩ : ∃ m4, T1.length = 1 + m4 := ⟨T1.length - 1, by rw [← hT1]; unfold evTexts; simp; omega⟩
  obtain ⟨lt, hlt⟩ : ∃ lt, T1[m4]? = some lt := ⟨_, List.getElem?_eq_getElem (by omega)⟩
  obtain ⟨N2, hN2⟩ : ∃ N2, T2.length = N2 := ⟨_, rfl⟩
  rw [hm4] at hWa1
  rw [hN2] at hWa2
  have hlall : ∀ q ∈ T1 ++ T2, q.length < 140737488355328 := fun q hq => by
    rcases List.mem_append.1 hq with h | h
    · exact hl1 q h
    · exact hl2 q h
  have hpall : ∀ q ∈ T1 ++ T2, 0 < q.length := fun q hq => by
    rcases List.mem_append.1 hq with h | h
    · exact hp1 q h
    · exact hp2 q h
  have hTo := Lib.hid (fun w' want (A9 : Option Addr) (c9 : Nat) xa xb ok (hp9 : Pieces w' A9 (T1 ++ T2)) (hx : XR w' s want (T1 ++ T2) xa xb ok) => told_any s hs63 (T1 ++ T2) (1 + m4 + N2) (by rw [List.length_append, hm4, hN2]) (by omega) hlall want A9 c9 w' hp9 xa xb ok hx)
  have hTX := Lib.hid (fun (r : Text) (hr32 : r.length = 32) w' (hb : Below w.heap.size w w') => (hTE.out r hr32 w' hb).mono fun e w'' h => TPost.xr hpall h)
  clear hTE
  have hltl : lt.length < 144115188075855872 := by have := hl1 lt (List.mem_of_getElem? hlt); omega
  have hSm := Lib.hid (fun w' Al cl (h : Reads w' 1 Al lt.length (cells8 lt)) => refSum_any lt lt.length rfl Al cl w' hltl h)
  obtain ⟨tg, htg⟩ : ∃ tg, cutTo (sum lt) (clampN s) = tg := ⟨_, rfl⟩
  have htgl : tg.length = 32 := by rw [← htg]; exact cutTo_len _ _ (sum_len _) (clampN_ok s).2
  have hCu := Lib.hid (fun w' => refCut_any (sum lt) (sum_len _) s hs63 w')
  rw [htg] at hCu
  have Fr := Lib.hid (fit (x := root) hrt)
  have hrt2 : Hid (Digs [root, tg]) := fun x hx => by
    rcases List.mem_cons.1 hx with rfl | hx
    · exact hrt
    · rw [List.mem_singleton.1 hx]; exact htgl
  have hm4s : Hid (m4 ≤ 300) := by show _ ≤ _; omega
  have hN2s : Hid (N2 ≤ 301) := by show _ ≤ _; omega
  have hm4h := Lib.hid hm4
  have hN2h := Lib.hid hN2
  have hlth := Lib.hid hlt
  have hrth := Lib.hid hrt
  have htgh := Lib.hid htgl
  obtain ⟨sl, hsl⟩ : ∃ z, Hid ((cells8 (sum lt)).toArray = z) := ⟨_, Lib.hid rfl⟩
  rw [hsl.out] at hSm hCu
  have hb0 : Hid (Below w.heap.size w (((w.alloc (.cells (cells8 root).toArray 23)).alloc (.cells #[Value.int .i64 x1, Value.int .i64 x2, Value.slice A2 n0 c2] 31)).alloc (.cells #[Value.int .i64 y1, Value.int .i64 y2, Value.slice B2 m0 d2] 31))) := (((Below.refl _ w).alloc (Nat.le_refl _) _).alloc (by simp) _).alloc (by simp; omega) _
  have hs2 : ((w.alloc (.cells (cells8 root).toArray 23)).alloc (.cells #[Value.int .i64 x1, Value.int .i64 x2, Value.slice A2 n0 c2] 31)).heap.size = w.heap.size + 2 := by simp
  have hs1 : (w.alloc (.cells (cells8 root).toArray 23)).heap.size = w.heap.size + 1 := by simp
  have hQ0 : Hid (Blk (((w.alloc (.cells (cells8 root).toArray 23)).alloc (.cells #[Value.int .i64 x1, Value.int .i64 x2, Value.slice A2 n0 c2] 31)).alloc (.cells #[Value.int .i64 y1, Value.int .i64 y2, Value.slice B2 m0 d2] 31)) (w.heap.size + 2) 31 #[Value.int .i64 y1, Value.int .i64 y2, Value.slice B2 m0 d2]) := by
    have := Blk.new ((w.alloc (.cells (cells8 root).toArray 23)).alloc (.cells #[Value.int .i64 x1, Value.int .i64 x2, Value.slice A2 n0 c2] 31)) 31 #[Value.int .i64 y1, Value.int .i64 y2, Value.slice B2 m0 d2]
    rwa [hs2] at this
  have hP0 : Hid (Blk (((w.alloc (.cells (cells8 root).toArray 23)).alloc (.cells #[Value.int .i64 x1, Value.int .i64 x2, Value.slice A2 n0 c2] 31)).alloc (.cells #[Value.int .i64 y1, Value.int .i64 y2, Value.slice B2 m0 d2] 31)) (w.heap.size + 1) 31 #[Value.int .i64 x1, Value.int .i64 x2, Value.slice A2 n0 c2]) := by
    have := Blk.new (w.alloc (.cells (cells8 root).toArray 23)) 31 #[Value.int .i64 x1, Value.int .i64 x2, Value.slice A2 n0 c2]
    rw [hs1] at this
    exact this.alloc _
  have hR0 : Hid (Blk (((w.alloc (.cells (cells8 root).toArray 23)).alloc (.cells #[Value.int .i64 x1, Value.int .i64 x2, Value.slice A2 n0 c2] 31)).alloc (.cells #[Value.int .i64 y1, Value.int .i64 y2, Value.slice B2 m0 d2] 31)) w.heap.size 23 (cells8 root).toArray) := ((Blk.new w _ _).alloc _).alloc _
  have hBw := Lib.hid hB
  clear hs1 hs2 hs63 hrt hk hk47 hkc hnil hnc hl hl47 hld hnilB hmd hB hr hrd0 hrf hrdf0 hn hds hm hes hrd hrdf hn300 hm300 hl1 hl2 hf1 hf2 hp1 hp2 hlall hpall hT1 hT2 hm4 hlt hN2 hltl htg htgl
  go_enter Tryd.func7, Tryd.ntmps7
  go_wp2_with fail
  refine (hF1.out _).mono ?_
  rintro e' w0' ⟨rfl, rfl⟩
  generalize (((w.alloc (.cells (cells8 root).toArray 23)).alloc (.cells #[Value.int .i64 x1, Value.int .i64 x2, Value.slice A2 n0 c2] 31)).alloc (.cells #[Value.int .i64 y1, Value.int .i64 y2, Value.slice B2 m0 d2] 31)) = w0 at *
  have c0 : w0.cell? ⟨w.heap.size + 1, 2, none⟩ = some (.slice A2 n0 c2) := hP0.out.cell 2
  have f0 := hP0.out.frozen 2
  have hk0 : Kept (· = w.heap.size + 1) w0 (w0.setCell ⟨w.heap.size + 1, 2, none⟩ (.slice A2 n c2)) := (Kept.refl (· = w.heap.size + 1) w0).setCell (.inl rfl) _
  have hP1 : Hid (Blk (w0.setCell ⟨w.heap.size + 1, 2, none⟩ (.slice A2 n c2)) (w.heap.size + 1) 31 #[Value.int .i64 x1, Value.int .i64 x2, Value.slice A2 n c2]) := hP0.out.set_ 2 _
  have hQ1 : Hid (Blk (w0.setCell ⟨w.heap.size + 1, 2, none⟩ (.slice A2 n c2)) (w.heap.size + 2) 31 #[Value.int .i64 y1, Value.int .i64 y2, Value.slice B2 m0 d2]) := hQ0.out.kept hk0 (by omega)
  have hR1 : Hid (Blk (w0.setCell ⟨w.heap.size + 1, 2, none⟩ (.slice A2 n c2)) w.heap.size 23 (cells8 root).toArray) := hR0.out.kept hk0 (by omega)
  have hb1 : Hid (Below w.heap.size w (w0.setCell ⟨w.heap.size + 1, 2, none⟩ (.slice A2 n c2))) := hb0.out.trans (Kept.below_of hk0 (by omega) hb0.out.size)
  have c1 : (w0.setCell ⟨w.heap.size + 1, 2, none⟩ (.slice A2 n c2)).cell? ⟨w.heap.size + 1 + 1, 2, none⟩ = some (.slice B2 m0 d2) := hQ1.out.cell 2
  clear hk0 hb0 hP0 hQ0 hR0 hF1
  go_wp2_with fail
  refine (hF2.out _).mono ?_
  rintro e' w1' ⟨rfl, rfl⟩
  clear c0 f0 c1
  generalize w0.setCell ⟨w.heap.size + 1, 2, none⟩ (.slice A2 n c2) = w1 at *
  have f1 := hQ1.out.frozen 2
  have hk1 : Kept (· = w.heap.size + 2) w1 (w1.setCell ⟨w.heap.size + 2, 2, none⟩ (.slice B2 m d2)) := (Kept.refl (· = w.heap.size + 2) w1).setCell (.inl rfl) _
  have c1 : w1.cell? ⟨w.heap.size + 2, 2, none⟩ = some (.slice B2 m0 d2) := hQ1.out.cell 2
  have hQ2 : Hid (Blk (w1.setCell ⟨w.heap.size + 2, 2, none⟩ (.slice B2 m d2)) (w.heap.size + 2) 31 #[Value.int .i64 y1, Value.int .i64 y2, Value.slice B2 m d2]) := hQ1.out.set_ 2 _
  have hP2 : Hid (Blk (w1.setCell ⟨w.heap.size + 2, 2, none⟩ (.slice B2 m d2)) (w.heap.size + 1) 31 #[Value.int .i64 x1, Value.int .i64 x2, Value.slice A2 n c2]) := hP1.out.kept hk1 (by omega)
  have hR2 : Hid (Blk (w1.setCell ⟨w.heap.size + 2, 2, none⟩ (.slice B2 m d2)) w.heap.size 23 (cells8 root).toArray) := hR1.out.kept hk1 (by omega)
  have hb2 : Hid (Below w.heap.size w (w1.setCell ⟨w.heap.size + 2, 2, none⟩ (.slice B2 m d2))) := hb1.out.trans (Kept.below_of hk1 (by omega) hb1.out.size)
  clear hk1 hb1 hP1 hQ1 hR1 hF2
  go_wp2_with ((with_reducible change wpList _ _ _ ({ dst := some 29, op := _, type := _, pos := _, after := _, guard := _ } :: _) _ _); refine wpList_load_row (o := ⟨some 29, _, _, _, _, _⟩) rfl 31 (.tmp 9) rfl (w.heap.size + 1) rfl 31 (#[Value.int .i64 x1, Value.int .i64 x2, Value.slice A2 n c2]) (0, 0) _ hP2.out Tryd.underlying31 rfl sizeI ?_)
  rw [show w.heap.size + 1 + 1 = w.heap.size + 2 from rfl]
  clear c1 f1
  generalize w1.setCell ⟨w.heap.size + 2, 2, none⟩ (.slice B2 m d2) = w2 at *
  refine (hWa1.out w2 hb2.out).mono ?_
  rintro e' w3 ⟨v, xs, rfl, ho, hty, hk3⟩
  rw [← hm4h.out] at ho
  obtain ⟨A4, c4, rfl, -, -, hp4⟩ := Ty.pieces ho hty
  rw [hm4h.out]
  obtain ⟨b, o, rfl, hbw, hcs⟩ := hp4 (by rw [hm4h.out]; omega)
  obtain ⟨Al, cl, hcell, -, hrl, -⟩ := hcs m4 lt hlth.out
  have hb3 : Hid (Below w.heap.size w w3) := hb2.out.trans (hk3.mono hb2.out.size)
  have hR3 : Hid (Blk w3 w.heap.size 23 (cells8 root).toArray) := (hk3.block _ hR2.out.lt).trans hR2.out
  have hP3 : Hid (Blk w3 (w.heap.size + 1) 31 #[Value.int .i64 x1, Value.int .i64 x2, Value.slice A2 n c2]) := (hk3.block _ hP2.out.lt).trans hP2.out
  have hQ3 : Hid (Blk w3 (w.heap.size + 2) 31 #[Value.int .i64 y1, Value.int .i64 y2, Value.slice B2 m d2]) := (hk3.block _ hQ2.out.lt).trans hQ2.out
  obtain ⟨L, hL⟩ : ∃ L, Hid (lt.length = L) := ⟨_, Lib.hid rfl⟩
  rw [hL.out] at hcell hrl hSm
  have z1 : ((1 + m4 : Nat) : Int) - 1 = (m4 : Int) := by omega
  have z2 : (0 : Int) ≤ (m4 : Int) := by omega
  have z3 : (m4 : Int) < ((1 + m4 : Nat) : Int) := by omega
  have z4 : (1 : Int) + (m4 : Int) - 1 = (m4 : Int) := by omega
  have z5 : (m4 : Int) < 1 + (m4 : Int) := by omega
  have z6 : (m4 : Int) ≤ 300 := by have := hm4s.out; omega
  have z7 : IntKind.i64.wrap (m4 : Int) = (m4 : Int) := by unfold IntKind.wrap; simp [IntKind.signed, IntKind.bits]; omega
  have hcl : Hid (∀ w', Below w3.heap.size w3 w' → w'.cell? ⟨b, o + m4, none⟩ = some (.slice Al L cl)) := fun w' h => (h.cell (p := ⟨b, o + m4, none⟩) hbw).trans hcell
  replace hrl := Lib.hid hrl
  have hRq := Lib.hid (fun w' (h : Below w3.heap.size w3 w') => (show Blk w' w.heap.size 23 (cells8 root).toArray from (h.block _ hR3.out.lt).trans hR3.out))
  clear hk3 ho hty hp4 hcs hcell hbw hb2 hR2 hP2 hQ2
  go_wp2_with fail
  have s0 : Hid (Below w3.heap.size w3 w3.drew) := (Below.refl _ _).drew
  refine held_start (fun w' => Below w3.heap.size w3 w') 12 rfl (by kernel_rfl) ?_
  refine held_take (i := 0) (v := .agg ((cells8 root).toArray)) rfl (by kernel_rfl) (by kernel_rfl) (by kernel_rfl) (fun _ _ _ h => h) s0.out (by rfl) (fun w' hw' => exec_row 23 (.tmp 7) rfl (w.heap.size) rfl 23 ((cells8 root).toArray) (0, 0) _ (hRq.out w' hw') Tryd.underlying23 rfl Fr.out.size) ?_
  (intro K hK; go_simp; refine hK _ ?_; clear hK K)
  refine held_take (i := 1) (v := .slice (some ⟨b, o, none⟩) (1 + m4) c4) rfl (by kernel_rfl) (by kernel_rfl) (by kernel_rfl) (fun _ _ _ h => h) s0.out (by rfl) (fun w' hw' => run_mv (.tmp 13) rfl w') ?_
  (intro K hK; go_simp; refine hK _ ?_; clear hK K)
  refine held_take (i := 2) (v := .slice (some ⟨b, o, none⟩) (1 + m4) c4) rfl (by kernel_rfl) (by kernel_rfl) (by kernel_rfl) (fun _ _ _ h => h) s0.out (by rfl) (fun w' hw' => run_mv (.tmp 13) rfl w') ?_
  (intro K hK; go_simp; refine hK _ ?_; clear hK K)
  refine held_take (i := 3) (v := .int .i64 ((1 + m4 : Nat) : Int)) rfl (by kernel_rfl) (by kernel_rfl) (by kernel_rfl) (fun _ _ _ h => h) s0.out (by rfl) (fun w' hw' => by go_simp) ?_
  (intro K hK; go_simp; refine hK _ ?_; clear hK K)
  refine held_take (i := 4) (v := .int .i64 (m4 : Int)) rfl (by kernel_rfl) (by kernel_rfl) (by kernel_rfl) (fun _ _ _ h => h) s0.out (by rfl) (fun w' hw' => by go_simp) ?_
  (intro K hK; go_simp; refine hK _ ?_; clear hK K)
  refine held_take (i := 5) (v := .pointer (some ⟨b, o + m4, none⟩)) rfl (by kernel_rfl) (by kernel_rfl) (by kernel_rfl) (fun _ _ _ h => h) s0.out (by rfl) (fun w' hw' => by go_simp) ?_
  (intro K hK; go_simp; refine hK _ ?_; clear hK K)
  refine held_take (i := 6) (v := .slice Al L cl) rfl (by kernel_rfl) (by kernel_rfl) (by kernel_rfl) (fun _ _ _ h => h) s0.out (by rfl) (fun w' hw' => by have h := hcl.out w' hw'; go_simp) ?_
  (intro K hK; go_simp; refine hK _ ?_; clear hK K)
  refine held_take (i := 8) (v := .int .i64 s) rfl (by kernel_rfl) (by kernel_rfl) (by kernel_rfl) (fun _ _ _ h => h) s0.out (by rfl) (fun w' hw' => run_mv (.tmp 0) rfl w') ?_
  (intro K hK; go_simp; refine hK _ ?_; clear hK K)
  refine held_only (i := 7) rfl (by kernel_rfl) (by rfl) (fun K hK => ?_)
  refine wp_fn (R := fun v w'' => v = .agg sl ∧ Below w3.heap.size w3 w'') (args := #[.slice Al L cl]) _ _ rfl rfl Tryd.func40 (by kernel_rfl) (by kernel_rfl) ((hSm.out _ Al cl (hrl.out.below s0.out)).mono fun e w'' ⟨he, hb⟩ => ⟨_, he, rfl, s0.out.trans (hb.mono s0.out.size)⟩) ?_
  rintro qq w4 ⟨rfl, h4⟩
  replace h4 := Lib.hid h4
  go_simp
  refine hK _ _ h4.out ?_
  clear hK K
  refine held_only (i := 9) rfl (by kernel_rfl) (by rfl) (fun K hK => ?_)
  refine wp_fn (R := fun v w'' => v = .agg (cells8 tg).toArray ∧ Below w3.heap.size w3 w'') (args := #[.agg sl, .int .i64 s]) _ _ rfl rfl Tryd.func39 (by kernel_rfl) (by kernel_rfl) ((hCu.out w4).mono fun e w'' ⟨he, hb⟩ => ⟨_, he, rfl, h4.out.trans (hb.mono h4.out.size)⟩) ?_
  rintro qq w5 ⟨rfl, h5⟩
  replace h5 := Lib.hid h5
  go_simp
  refine hK _ _ h5.out ?_
  clear hK K
  refine held_only (i := 10) rfl (by kernel_rfl) (by rfl) (fun K hK => ?_)
  refine wp_buildD 2 _ rfl [root, tg] hrt2.out rfl (by decide) (by decide) rfl ?_
  intro w6 g hG kk
  have h6 : Hid (Below w3.heap.size w3 w6) := h5.out.trans (kk.mono h5.out.size)
  replace hG := Lib.hid hG
  clear kk
  go_simp
  refine hK _ _ h6.out ?_
  clear hK K
  refine held_take (i := 11) (v := .slice (some ⟨g, 0, none⟩) 2 2) rfl (by kernel_rfl) (by kernel_rfl) (by kernel_rfl) (fun _ _ _ h => h) h6.out (by rfl) (fun w' hw' => by first | go_simp | rfl) ?_
  (intro K hK; go_simp; refine hK _ ?_; clear hK K)
  refine held_end (by kernel_rfl) ?_
  have hb6 : Hid (Below w.heap.size w w6) := hb3.out.trans (h6.out.mono hb3.out.size)
  have hP6 : Hid (Blk w6 (w.heap.size + 1) 31 #[Value.int .i64 x1, Value.int .i64 x2, Value.slice A2 n c2]) := (h6.out.block _ hP3.out.lt).trans hP3.out
  have hQ6 : Hid (Blk w6 (w.heap.size + 2) 31 #[Value.int .i64 y1, Value.int .i64 y2, Value.slice B2 m d2]) := (h6.out.block _ hQ3.out.lt).trans hQ3.out
  clear h4 h5 h6 s0 hb3 hR3 hP3 hQ3 hRq hcl hrl hSm hCu
  go_wp2_with fail
  go_loopw [15] (fun v wr => ∃ i : Nat, v = .int .i64 (i : Int) ∧ Hid (i ≤ 2) ∧ Hid (Below w6.heap.size w6 wr)) (fun v _ => 2 - (intOf v).toNat)
  case atStart => exact ⟨0, rfl, (show 0 ≤ 2 by omega), Below.refl _ w6⟩
  case round =>
    obtain ⟨i, rfl, hi, hbr⟩ := hrel
    by_cases hlt2 : i < 2
    · have v1 : (i : Int) < 2 := by omega
      have v2 : (0 : Int) ≤ (i : Int) := by omega
      have v3 : (i : Int) ≤ 2 := by omega
      have v4 : (i : Int) < 9223372036854775807 := by omega
      obtain ⟨r, hri⟩ : ∃ r, [root, tg][i]? = some r := ⟨_, List.getElem?_eq_getElem hlt2⟩
      have hr32 : Hid (r.length = 32) := hrt2.out r (List.mem_of_getElem? hri)
      obtain ⟨bG, oG, eG, hltG, hcG⟩ := hG.out.at_ hri
      injection eG with eG
      injection eG with eG1 eG2
      subst eG1 eG2
      have hcr : Hid (∀ w', Below w6.heap.size w6 w' → ∀ j v, (cells8 r)[j]? = some v → w'.cell? ⟨g, i * 32 + j, none⟩ = some v) := fun w' h j v hv => by
        have h2 := (h.cell (p := ⟨g, 0 + i * 32 + j, none⟩) hltG).trans (hcG j v hv)
        rwa [Nat.zero_add] at h2
      have hPw := Lib.hid (fun w' (h : Below w6.heap.size w6 w') => (show Blk w' (w.heap.size + 1) 31 #[Value.int .i64 x1, Value.int .i64 x2, Value.slice A2 n c2] from (h.block _ hP6.out.lt).trans hP6.out))
      have hQw := Lib.hid (fun w' (h : Below w6.heap.size w6 w') => (show Blk w' (w.heap.size + 2) 31 #[Value.int .i64 y1, Value.int .i64 y2, Value.slice B2 m d2] from (h.block _ hQ6.out.lt).trans hQ6.out))
      have hrsz : Hid ((Tryd.prog.info? 23).map (·.size) = some (cells8 r).length) := by show _ = _; rw [cells8_len, hr32.out]; exact size31
      have hI1 := Lib.hid (hIn1.out r hr32.out)
      have hI2 := Lib.hid (hIn2.out r hr32.out)
      have hTXr := Lib.hid (hTX.out r hr32.out)
      obtain ⟨i1, hi1⟩ : ∃ z, Hid (audIncl s r e x1 x2 ds = z) := ⟨_, Lib.hid rfl⟩
      obtain ⟨i2, hi2⟩ : ∃ z, Hid (audIncl s r f y1 y2 es = z) := ⟨_, Lib.hid rfl⟩
      rw [hi1.out] at hI1 hTXr
      rw [hi2.out] at hI2 hTXr
      obtain ⟨ef, hef⟩ : ∃ b, Hid (decide (e = f) = b) := ⟨_, Lib.hid rfl⟩
      have hSe2 := Lib.hid hSe.out
      rw [hef.out] at hSe2 hTXr
      obtain ⟨b1, q1⟩ : ∃ b, (i1 == 0) = b := ⟨_, rfl⟩
      obtain ⟨b2, q2⟩ : ∃ b, (i2 == 0) = b := ⟨_, rfl⟩
      obtain ⟨b3, q3⟩ : ∃ b, (x1 == y1) = b := ⟨_, rfl⟩
      obtain ⟨b4, q4⟩ : ∃ b, (x2 == y2) = b := ⟨_, rfl⟩
      rw [q1, q2, q3, q4] at hTXr
      obtain ⟨want, hwant⟩ : ∃ b, Hid ((b1 && (b2 && (b3 && (b4 && !ef)))) = b) := ⟨_, Lib.hid rfl⟩
      rw [hwant.out] at hTXr
      clear hcG hltG hri
      go_wp2_with fail
      go_cut [16] from 46 to 86 (fun v wr' => v = .bool want ∧ Hid (Below w6.heap.size w6 wr'))
      case first =>
        cases b1 with
        | true =>
          cases b2 with
          | true =>
            cases b3 with
            | true =>
              cases b4 with
              | true =>
                cases ef with
                | true =>
                  obtain rfl : false = want := hwant.out
                  refine q_region (Class wr) (by kernel_rfl) (by kernel_rfl) (Class.mk_ ((Below.refl _ _).drew)) ?_
                  refine q_move rfl (.tmp 0) rfl ?_
                  (intro K hK; go_simp; refine hK _ ?_; clear hK K)
                  refine q_move rfl (.tmp 14) rfl ?_
                  (intro K hK; go_simp; refine hK _ ?_; clear hK K)
                  refine q_move rfl (.tmp 15) rfl ?_
                  (intro K hK; go_simp; refine hK _ ?_; clear hK K)
                  refine q_val (v := .pointer (some ⟨g, i * 32, none⟩)) rfl (fun w' hw' => by go_simp) ?_
                  (intro K hK; go_simp; refine hK _ ?_; clear hK K)
                  refine q_part rfl 23 (.tmp 49) rfl g (i * 32) rfl (cells8 r) _ (fun w' hw' => hcr.out w' (hbr.out.trans (hw'.below.mono hbr.out.size))) Tryd.underlying23 rfl hrsz.out ?_
                  (intro K hK; go_simp; refine hK _ ?_; clear hK K)
                  refine q_move rfl (.tmp 2) rfl ?_
                  (intro K hK; go_simp; refine hK _ ?_; clear hK K)
                  refine q_row rfl 31 (.tmp 9) rfl (w.heap.size + 1) rfl 31 (#[Value.int .i64 x1, Value.int .i64 x2, Value.slice A2 n c2]) (0, 0) _ (fun w' hw' => hPw.out w' (hbr.out.trans (hw'.below.mono hbr.out.size))) Tryd.underlying31 rfl sizeI ?_
                  (intro K hK; go_simp; refine hK _ ?_; clear hK K)
                  refine q_fn (v := .int .i64 i1) (args := #[.int .i64 s, .agg (cells8 r).toArray, .slice A k c, .agg #[Value.int .i64 x1, Value.int .i64 x2, Value.slice A2 n c2]]) rfl _ _ rfl rfl Tryd.func41 (by kernel_rfl) (by kernel_rfl) (fun w' hw' => (hI1.out w' (hb6.out.trans ((hbr.out.trans (hw'.below.mono hbr.out.size)).mono hb6.out.size))).mono (fun e w'' ⟨he, hb⟩ => ⟨he, hw'.next hb⟩)) ?_
                  (intro K hK; go_simp; refine hK _ ?_; clear hK K)
                  refine q_val (v := .bool true) rfl (fun w' hw' => by go_simp) ?_
                  (intro K hK; go_simp; refine hK _ ?_; clear hK K)
                  refine q_val (v := .bool true) rfl (fun w' hw' => by go_simp) ?_
                  (intro K hK; go_simp; refine hK _ ?_; clear hK K)
                  refine q_move rfl (.tmp 0) rfl ?_
                  (intro K hK; go_simp; refine hK _ ?_; clear hK K)
                  refine q_move rfl (.tmp 14) rfl ?_
                  (intro K hK; go_simp; refine hK _ ?_; clear hK K)
                  refine q_move rfl (.tmp 15) rfl ?_
                  (intro K hK; go_simp; refine hK _ ?_; clear hK K)
                  refine q_val (v := .pointer (some ⟨g, i * 32, none⟩)) rfl (fun w' hw' => by go_simp) ?_
                  (intro K hK; go_simp; refine hK _ ?_; clear hK K)
                  refine q_part rfl 23 (.tmp 59) rfl g (i * 32) rfl (cells8 r) _ (fun w' hw' => hcr.out w' (hbr.out.trans (hw'.below.mono hbr.out.size))) Tryd.underlying23 rfl hrsz.out ?_
                  (intro K hK; go_simp; refine hK _ ?_; clear hK K)
                  refine q_move rfl (.tmp 4) rfl ?_
                  (intro K hK; go_simp; refine hK _ ?_; clear hK K)
                  refine q_row rfl 31 (.tmp 11) rfl (w.heap.size + 2) rfl 31 (#[Value.int .i64 y1, Value.int .i64 y2, Value.slice B2 m d2]) (0, 0) _ (fun w' hw' => hQw.out w' (hbr.out.trans (hw'.below.mono hbr.out.size))) Tryd.underlying31 rfl sizeI ?_
                  (intro K hK; go_simp; refine hK _ ?_; clear hK K)
                  refine q_fn (v := .int .i64 i2) (args := #[.int .i64 s, .agg (cells8 r).toArray, .slice B l d, .agg #[Value.int .i64 y1, Value.int .i64 y2, Value.slice B2 m d2]]) rfl _ _ rfl rfl Tryd.func41 (by kernel_rfl) (by kernel_rfl) (fun w' hw' => (hI2.out w' (hb6.out.trans ((hbr.out.trans (hw'.below.mono hbr.out.size)).mono hb6.out.size))).mono (fun e w'' ⟨he, hb⟩ => ⟨he, hw'.next hb⟩)) ?_
                  (intro K hK; go_simp; refine hK _ ?_; clear hK K)
                  refine q_val (v := .bool true) rfl (fun w' hw' => by go_simp) ?_
                  (intro K hK; go_simp; refine hK _ ?_; clear hK K)
                  refine q_val (v := .bool true) rfl (fun w' hw' => by go_simp) ?_
                  (intro K hK; go_simp; refine hK _ ?_; clear hK K)
                  refine q_val (v := .bool true) rfl (fun w' hw' => by go_simp) ?_
                  (intro K hK; go_simp; refine hK _ ?_; clear hK K)
                  refine q_val (v := .pointer (some ⟨w.heap.size + 1, 0, none⟩)) rfl (fun w' hw' => by go_simp) ?_
                  (intro K hK; go_simp; refine hK _ ?_; clear hK K)
                  refine q_val (v := .int .i64 x1) rfl (fun w' hw' => by have h := (hPw.out w' (hbr.out.trans (hw'.below.mono hbr.out.size))).cell 0; go_simp) ?_
                  (intro K hK; go_simp; refine hK _ ?_; clear hK K)
                  refine q_val (v := .pointer (some ⟨w.heap.size + 2, 0, none⟩)) rfl (fun w' hw' => by go_simp) ?_
                  (intro K hK; go_simp; refine hK _ ?_; clear hK K)
                  refine q_val (v := .int .i64 y1) rfl (fun w' hw' => by have h := (hQw.out w' (hbr.out.trans (hw'.below.mono hbr.out.size))).cell 0; go_simp) ?_
                  (intro K hK; go_simp; refine hK _ ?_; clear hK K)
                  refine q_val (v := .bool true) rfl (fun w' hw' => by go_simp) ?_
                  (intro K hK; go_simp; refine hK _ ?_; clear hK K)
                  refine q_val (v := .bool true) rfl (fun w' hw' => by go_simp) ?_
                  (intro K hK; go_simp; refine hK _ ?_; clear hK K)
                  refine q_val (v := .bool true) rfl (fun w' hw' => by go_simp) ?_
                  (intro K hK; go_simp; refine hK _ ?_; clear hK K)
                  refine q_val (v := .pointer (some ⟨w.heap.size + 1, 1, none⟩)) rfl (fun w' hw' => by go_simp) ?_
                  (intro K hK; go_simp; refine hK _ ?_; clear hK K)
                  refine q_val (v := .int .i64 x2) rfl (fun w' hw' => by have h := (hPw.out w' (hbr.out.trans (hw'.below.mono hbr.out.size))).cell 1; go_simp) ?_
                  (intro K hK; go_simp; refine hK _ ?_; clear hK K)
                  refine q_val (v := .pointer (some ⟨w.heap.size + 2, 1, none⟩)) rfl (fun w' hw' => by go_simp) ?_
                  (intro K hK; go_simp; refine hK _ ?_; clear hK K)
                  refine q_val (v := .int .i64 y2) rfl (fun w' hw' => by have h := (hQw.out w' (hbr.out.trans (hw'.below.mono hbr.out.size))).cell 1; go_simp) ?_
                  (intro K hK; go_simp; refine hK _ ?_; clear hK K)
                  refine q_val (v := .bool true) rfl (fun w' hw' => by go_simp) ?_
                  (intro K hK; go_simp; refine hK _ ?_; clear hK K)
                  refine q_val (v := .bool true) rfl (fun w' hw' => by go_simp) ?_
                  (intro K hK; go_simp; refine hK _ ?_; clear hK K)
                  refine q_val (v := .bool true) rfl (fun w' hw' => by go_simp) ?_
                  (intro K hK; go_simp; refine hK _ ?_; clear hK K)
                  refine q_move rfl (.tmp 2) rfl ?_
                  (intro K hK; go_simp; refine hK _ ?_; clear hK K)
                  refine q_move rfl (.tmp 4) rfl ?_
                  (intro K hK; go_simp; refine hK _ ?_; clear hK K)
                  refine q_fn (v := .bool true) (args := #[.slice A k c, .slice B l d]) rfl _ _ rfl rfl Tryd.func20 (by kernel_rfl) (by kernel_rfl) (fun w' hw' => (hSe2.out w' (hb6.out.trans ((hbr.out.trans (hw'.below.mono hbr.out.size)).mono hb6.out.size))).mono (fun e w'' ⟨he, n, hn⟩ => ⟨he, by subst hn; exact hw'.next (Go.Proofs.YtmdkfhfkdcbpgaaDoorR.Told20.below_drewN n)⟩)) ?_
                  (intro K hK; go_simp; refine hK _ ?_; clear hK K)
                  refine q_val (v := .bool false) rfl (fun w' hw' => by go_simp) ?_
                  (intro K hK; go_simp; refine hK _ ?_; clear hK K)
                  refine q_val (v := .bool false) rfl (fun w' hw' => by go_simp) ?_
                  (intro K hK; go_simp; refine hK _ ?_; clear hK K)
                  refine q_val (v := .bool false) rfl (fun w' hw' => by go_simp) ?_
                  (intro K hK; go_simp; refine hK _ ?_; clear hK K)
                  refine q_nil ?_
                  intro w7 hw7
                  have h7 : Hid (Below w6.heap.size w6 w7) := hbr.out.trans (hw7.below.mono hbr.out.size)
                  go_wp2_with fail
                  go_meet
                  case rel => exact ⟨rfl, h7.out⟩
                | false =>
                  obtain rfl : true = want := hwant.out
                  refine q_region (Class wr) (by kernel_rfl) (by kernel_rfl) (Class.mk_ ((Below.refl _ _).drew)) ?_
                  refine q_move rfl (.tmp 0) rfl ?_
                  (intro K hK; go_simp; refine hK _ ?_; clear hK K)
                  refine q_move rfl (.tmp 14) rfl ?_
                  (intro K hK; go_simp; refine hK _ ?_; clear hK K)
                  refine q_move rfl (.tmp 15) rfl ?_
                  (intro K hK; go_simp; refine hK _ ?_; clear hK K)
                  refine q_val (v := .pointer (some ⟨g, i * 32, none⟩)) rfl (fun w' hw' => by go_simp) ?_
                  (intro K hK; go_simp; refine hK _ ?_; clear hK K)
                  refine q_part rfl 23 (.tmp 49) rfl g (i * 32) rfl (cells8 r) _ (fun w' hw' => hcr.out w' (hbr.out.trans (hw'.below.mono hbr.out.size))) Tryd.underlying23 rfl hrsz.out ?_
                  (intro K hK; go_simp; refine hK _ ?_; clear hK K)
                  refine q_move rfl (.tmp 2) rfl ?_
                  (intro K hK; go_simp; refine hK _ ?_; clear hK K)
                  refine q_row rfl 31 (.tmp 9) rfl (w.heap.size + 1) rfl 31 (#[Value.int .i64 x1, Value.int .i64 x2, Value.slice A2 n c2]) (0, 0) _ (fun w' hw' => hPw.out w' (hbr.out.trans (hw'.below.mono hbr.out.size))) Tryd.underlying31 rfl sizeI ?_
                  (intro K hK; go_simp; refine hK _ ?_; clear hK K)
                  refine q_fn (v := .int .i64 i1) (args := #[.int .i64 s, .agg (cells8 r).toArray, .slice A k c, .agg #[Value.int .i64 x1, Value.int .i64 x2, Value.slice A2 n c2]]) rfl _ _ rfl rfl Tryd.func41 (by kernel_rfl) (by kernel_rfl) (fun w' hw' => (hI1.out w' (hb6.out.trans ((hbr.out.trans (hw'.below.mono hbr.out.size)).mono hb6.out.size))).mono (fun e w'' ⟨he, hb⟩ => ⟨he, hw'.next hb⟩)) ?_
                  (intro K hK; go_simp; refine hK _ ?_; clear hK K)
                  refine q_val (v := .bool true) rfl (fun w' hw' => by go_simp) ?_
                  (intro K hK; go_simp; refine hK _ ?_; clear hK K)
                  refine q_val (v := .bool true) rfl (fun w' hw' => by go_simp) ?_
                  (intro K hK; go_simp; refine hK _ ?_; clear hK K)
                  refine q_move rfl (.tmp 0) rfl ?_
                  (intro K hK; go_simp; refine hK _ ?_; clear hK K)
                  refine q_move rfl (.tmp 14) rfl ?_
                  (intro K hK; go_simp; refine hK _ ?_; clear hK K)
                  refine q_move rfl (.tmp 15) rfl ?_
                  (intro K hK; go_simp; refine hK _ ?_; clear hK K)
                  refine q_val (v := .pointer (some ⟨g, i * 32, none⟩)) rfl (fun w' hw' => by go_simp) ?_
                  (intro K hK; go_simp; refine hK _ ?_; clear hK K)
                  refine q_part rfl 23 (.tmp 59) rfl g (i * 32) rfl (cells8 r) _ (fun w' hw' => hcr.out w' (hbr.out.trans (hw'.below.mono hbr.out.size))) Tryd.underlying23 rfl hrsz.out ?_
                  (intro K hK; go_simp; refine hK _ ?_; clear hK K)
                  refine q_move rfl (.tmp 4) rfl ?_
                  (intro K hK; go_simp; refine hK _ ?_; clear hK K)
                  refine q_row rfl 31 (.tmp 11) rfl (w.heap.size + 2) rfl 31 (#[Value.int .i64 y1, Value.int .i64 y2, Value.slice B2 m d2]) (0, 0) _ (fun w' hw' => hQw.out w' (hbr.out.trans (hw'.below.mono hbr.out.size))) Tryd.underlying31 rfl sizeI ?_
                  (intro K hK; go_simp; refine hK _ ?_; clear hK K)
                  refine q_fn (v := .int .i64 i2) (args := #[.int .i64 s, .agg (cells8 r).toArray, .slice B l d, .agg #[Value.int .i64 y1, Value.int .i64 y2, Value.slice B2 m d2]]) rfl _ _ rfl rfl Tryd.func41 (by kernel_rfl) (by kernel_rfl) (fun w' hw' => (hI2.out w' (hb6.out.trans ((hbr.out.trans (hw'.below.mono hbr.out.size)).mono hb6.out.size))).mono (fun e w'' ⟨he, hb⟩ => ⟨he, hw'.next hb⟩)) ?_
                  (intro K hK; go_simp; refine hK _ ?_; clear hK K)
                  refine q_val (v := .bool true) rfl (fun w' hw' => by go_simp) ?_
                  (intro K hK; go_simp; refine hK _ ?_; clear hK K)
                  refine q_val (v := .bool true) rfl (fun w' hw' => by go_simp) ?_
                  (intro K hK; go_simp; refine hK _ ?_; clear hK K)
                  refine q_val (v := .bool true) rfl (fun w' hw' => by go_simp) ?_
                  (intro K hK; go_simp; refine hK _ ?_; clear hK K)
                  refine q_val (v := .pointer (some ⟨w.heap.size + 1, 0, none⟩)) rfl (fun w' hw' => by go_simp) ?_
                  (intro K hK; go_simp; refine hK _ ?_; clear hK K)
                  refine q_val (v := .int .i64 x1) rfl (fun w' hw' => by have h := (hPw.out w' (hbr.out.trans (hw'.below.mono hbr.out.size))).cell 0; go_simp) ?_
                  (intro K hK; go_simp; refine hK _ ?_; clear hK K)
                  refine q_val (v := .pointer (some ⟨w.heap.size + 2, 0, none⟩)) rfl (fun w' hw' => by go_simp) ?_
                  (intro K hK; go_simp; refine hK _ ?_; clear hK K)
                  refine q_val (v := .int .i64 y1) rfl (fun w' hw' => by have h := (hQw.out w' (hbr.out.trans (hw'.below.mono hbr.out.size))).cell 0; go_simp) ?_
                  (intro K hK; go_simp; refine hK _ ?_; clear hK K)
                  refine q_val (v := .bool true) rfl (fun w' hw' => by go_simp) ?_
                  (intro K hK; go_simp; refine hK _ ?_; clear hK K)
                  refine q_val (v := .bool true) rfl (fun w' hw' => by go_simp) ?_
                  (intro K hK; go_simp; refine hK _ ?_; clear hK K)
                  refine q_val (v := .bool true) rfl (fun w' hw' => by go_simp) ?_
                  (intro K hK; go_simp; refine hK _ ?_; clear hK K)
                  refine q_val (v := .pointer (some ⟨w.heap.size + 1, 1, none⟩)) rfl (fun w' hw' => by go_simp) ?_
                  (intro K hK; go_simp; refine hK _ ?_; clear hK K)
                  refine q_val (v := .int .i64 x2) rfl (fun w' hw' => by have h := (hPw.out w' (hbr.out.trans (hw'.below.mono hbr.out.size))).cell 1; go_simp) ?_
                  (intro K hK; go_simp; refine hK _ ?_; clear hK K)
                  refine q_val (v := .pointer (some ⟨w.heap.size + 2, 1, none⟩)) rfl (fun w' hw' => by go_simp) ?_
                  (intro K hK; go_simp; refine hK _ ?_; clear hK K)
                  refine q_val (v := .int .i64 y2) rfl (fun w' hw' => by have h := (hQw.out w' (hbr.out.trans (hw'.below.mono hbr.out.size))).cell 1; go_simp) ?_
                  (intro K hK; go_simp; refine hK _ ?_; clear hK K)
                  refine q_val (v := .bool true) rfl (fun w' hw' => by go_simp) ?_
                  (intro K hK; go_simp; refine hK _ ?_; clear hK K)
                  refine q_val (v := .bool true) rfl (fun w' hw' => by go_simp) ?_
                  (intro K hK; go_simp; refine hK _ ?_; clear hK K)
                  refine q_val (v := .bool true) rfl (fun w' hw' => by go_simp) ?_
                  (intro K hK; go_simp; refine hK _ ?_; clear hK K)
                  refine q_move rfl (.tmp 2) rfl ?_
                  (intro K hK; go_simp; refine hK _ ?_; clear hK K)
                  refine q_move rfl (.tmp 4) rfl ?_
                  (intro K hK; go_simp; refine hK _ ?_; clear hK K)
                  refine q_fn (v := .bool false) (args := #[.slice A k c, .slice B l d]) rfl _ _ rfl rfl Tryd.func20 (by kernel_rfl) (by kernel_rfl) (fun w' hw' => (hSe2.out w' (hb6.out.trans ((hbr.out.trans (hw'.below.mono hbr.out.size)).mono hb6.out.size))).mono (fun e w'' ⟨he, n, hn⟩ => ⟨he, by subst hn; exact hw'.next (Go.Proofs.YtmdkfhfkdcbpgaaDoorR.Told20.below_drewN n)⟩)) ?_
                  (intro K hK; go_simp; refine hK _ ?_; clear hK K)
                  refine q_val (v := .bool true) rfl (fun w' hw' => by go_simp) ?_
                  (intro K hK; go_simp; refine hK _ ?_; clear hK K)
                  refine q_val (v := .bool true) rfl (fun w' hw' => by go_simp) ?_
                  (intro K hK; go_simp; refine hK _ ?_; clear hK K)
                  refine q_val (v := .bool true) rfl (fun w' hw' => by go_simp) ?_
                  (intro K hK; go_simp; refine hK _ ?_; clear hK K)
                  refine q_nil ?_
                  intro w7 hw7
                  have h7 : Hid (Below w6.heap.size w6 w7) := hbr.out.trans (hw7.below.mono hbr.out.size)
                  go_wp2_with fail
                  go_meet
                  case rel => exact ⟨rfl, h7.out⟩
              | false =>
                obtain rfl : false = want := hwant.out
                refine q_region (Class wr) (by kernel_rfl) (by kernel_rfl) (Class.mk_ ((Below.refl _ _).drew)) ?_
                refine q_move rfl (.tmp 0) rfl ?_
                (intro K hK; go_simp; refine hK _ ?_; clear hK K)
                refine q_move rfl (.tmp 14) rfl ?_
                (intro K hK; go_simp; refine hK _ ?_; clear hK K)
                refine q_move rfl (.tmp 15) rfl ?_
                (intro K hK; go_simp; refine hK _ ?_; clear hK K)
                refine q_val (v := .pointer (some ⟨g, i * 32, none⟩)) rfl (fun w' hw' => by go_simp) ?_
                (intro K hK; go_simp; refine hK _ ?_; clear hK K)
                refine q_part rfl 23 (.tmp 49) rfl g (i * 32) rfl (cells8 r) _ (fun w' hw' => hcr.out w' (hbr.out.trans (hw'.below.mono hbr.out.size))) Tryd.underlying23 rfl hrsz.out ?_
                (intro K hK; go_simp; refine hK _ ?_; clear hK K)
                refine q_move rfl (.tmp 2) rfl ?_
                (intro K hK; go_simp; refine hK _ ?_; clear hK K)
                refine q_row rfl 31 (.tmp 9) rfl (w.heap.size + 1) rfl 31 (#[Value.int .i64 x1, Value.int .i64 x2, Value.slice A2 n c2]) (0, 0) _ (fun w' hw' => hPw.out w' (hbr.out.trans (hw'.below.mono hbr.out.size))) Tryd.underlying31 rfl sizeI ?_
                (intro K hK; go_simp; refine hK _ ?_; clear hK K)
                refine q_fn (v := .int .i64 i1) (args := #[.int .i64 s, .agg (cells8 r).toArray, .slice A k c, .agg #[Value.int .i64 x1, Value.int .i64 x2, Value.slice A2 n c2]]) rfl _ _ rfl rfl Tryd.func41 (by kernel_rfl) (by kernel_rfl) (fun w' hw' => (hI1.out w' (hb6.out.trans ((hbr.out.trans (hw'.below.mono hbr.out.size)).mono hb6.out.size))).mono (fun e w'' ⟨he, hb⟩ => ⟨he, hw'.next hb⟩)) ?_
                (intro K hK; go_simp; refine hK _ ?_; clear hK K)
                refine q_val (v := .bool true) rfl (fun w' hw' => by go_simp) ?_
                (intro K hK; go_simp; refine hK _ ?_; clear hK K)
                refine q_val (v := .bool true) rfl (fun w' hw' => by go_simp) ?_
                (intro K hK; go_simp; refine hK _ ?_; clear hK K)
                refine q_move rfl (.tmp 0) rfl ?_
                (intro K hK; go_simp; refine hK _ ?_; clear hK K)
                refine q_move rfl (.tmp 14) rfl ?_
                (intro K hK; go_simp; refine hK _ ?_; clear hK K)
                refine q_move rfl (.tmp 15) rfl ?_
                (intro K hK; go_simp; refine hK _ ?_; clear hK K)
                refine q_val (v := .pointer (some ⟨g, i * 32, none⟩)) rfl (fun w' hw' => by go_simp) ?_
                (intro K hK; go_simp; refine hK _ ?_; clear hK K)
                refine q_part rfl 23 (.tmp 59) rfl g (i * 32) rfl (cells8 r) _ (fun w' hw' => hcr.out w' (hbr.out.trans (hw'.below.mono hbr.out.size))) Tryd.underlying23 rfl hrsz.out ?_
                (intro K hK; go_simp; refine hK _ ?_; clear hK K)
                refine q_move rfl (.tmp 4) rfl ?_
                (intro K hK; go_simp; refine hK _ ?_; clear hK K)
                refine q_row rfl 31 (.tmp 11) rfl (w.heap.size + 2) rfl 31 (#[Value.int .i64 y1, Value.int .i64 y2, Value.slice B2 m d2]) (0, 0) _ (fun w' hw' => hQw.out w' (hbr.out.trans (hw'.below.mono hbr.out.size))) Tryd.underlying31 rfl sizeI ?_
                (intro K hK; go_simp; refine hK _ ?_; clear hK K)
                refine q_fn (v := .int .i64 i2) (args := #[.int .i64 s, .agg (cells8 r).toArray, .slice B l d, .agg #[Value.int .i64 y1, Value.int .i64 y2, Value.slice B2 m d2]]) rfl _ _ rfl rfl Tryd.func41 (by kernel_rfl) (by kernel_rfl) (fun w' hw' => (hI2.out w' (hb6.out.trans ((hbr.out.trans (hw'.below.mono hbr.out.size)).mono hb6.out.size))).mono (fun e w'' ⟨he, hb⟩ => ⟨he, hw'.next hb⟩)) ?_
                (intro K hK; go_simp; refine hK _ ?_; clear hK K)
                refine q_val (v := .bool true) rfl (fun w' hw' => by go_simp) ?_
                (intro K hK; go_simp; refine hK _ ?_; clear hK K)
                refine q_val (v := .bool true) rfl (fun w' hw' => by go_simp) ?_
                (intro K hK; go_simp; refine hK _ ?_; clear hK K)
                refine q_val (v := .bool true) rfl (fun w' hw' => by go_simp) ?_
                (intro K hK; go_simp; refine hK _ ?_; clear hK K)
                refine q_val (v := .pointer (some ⟨w.heap.size + 1, 0, none⟩)) rfl (fun w' hw' => by go_simp) ?_
                (intro K hK; go_simp; refine hK _ ?_; clear hK K)
                refine q_val (v := .int .i64 x1) rfl (fun w' hw' => by have h := (hPw.out w' (hbr.out.trans (hw'.below.mono hbr.out.size))).cell 0; go_simp) ?_
                (intro K hK; go_simp; refine hK _ ?_; clear hK K)
                refine q_val (v := .pointer (some ⟨w.heap.size + 2, 0, none⟩)) rfl (fun w' hw' => by go_simp) ?_
                (intro K hK; go_simp; refine hK _ ?_; clear hK K)
                refine q_val (v := .int .i64 y1) rfl (fun w' hw' => by have h := (hQw.out w' (hbr.out.trans (hw'.below.mono hbr.out.size))).cell 0; go_simp) ?_
                (intro K hK; go_simp; refine hK _ ?_; clear hK K)
                refine q_val (v := .bool true) rfl (fun w' hw' => by go_simp) ?_
                (intro K hK; go_simp; refine hK _ ?_; clear hK K)
                refine q_val (v := .bool true) rfl (fun w' hw' => by go_simp) ?_
                (intro K hK; go_simp; refine hK _ ?_; clear hK K)
                refine q_val (v := .bool true) rfl (fun w' hw' => by go_simp) ?_
                (intro K hK; go_simp; refine hK _ ?_; clear hK K)
                refine q_val (v := .pointer (some ⟨w.heap.size + 1, 1, none⟩)) rfl (fun w' hw' => by go_simp) ?_
                (intro K hK; go_simp; refine hK _ ?_; clear hK K)
                refine q_val (v := .int .i64 x2) rfl (fun w' hw' => by have h := (hPw.out w' (hbr.out.trans (hw'.below.mono hbr.out.size))).cell 1; go_simp) ?_
                (intro K hK; go_simp; refine hK _ ?_; clear hK K)
                refine q_val (v := .pointer (some ⟨w.heap.size + 2, 1, none⟩)) rfl (fun w' hw' => by go_simp) ?_
                (intro K hK; go_simp; refine hK _ ?_; clear hK K)
                refine q_val (v := .int .i64 y2) rfl (fun w' hw' => by have h := (hQw.out w' (hbr.out.trans (hw'.below.mono hbr.out.size))).cell 1; go_simp) ?_
                (intro K hK; go_simp; refine hK _ ?_; clear hK K)
                refine q_val (v := .bool false) rfl (fun w' hw' => by go_simp) ?_
                (intro K hK; go_simp; refine hK _ ?_; clear hK K)
                refine q_val (v := .bool false) rfl (fun w' hw' => by go_simp) ?_
                (intro K hK; go_simp; refine hK _ ?_; clear hK K)
                refine q_val (v := .bool false) rfl (fun w' hw' => by go_simp) ?_
                (intro K hK; go_simp; refine hK _ ?_; clear hK K)
                refine q_skip rfl ?_
                (intro K hK; go_simp; refine hK _ ?_; clear hK K)
                refine q_skip rfl ?_
                (intro K hK; go_simp; refine hK _ ?_; clear hK K)
                refine q_skip rfl ?_
                (intro K hK; go_simp; refine hK _ ?_; clear hK K)
                refine q_skip rfl ?_
                (intro K hK; go_simp; refine hK _ ?_; clear hK K)
                refine q_val (v := .bool false) rfl (fun w' hw' => by go_simp) ?_
                (intro K hK; go_simp; refine hK _ ?_; clear hK K)
                refine q_val (v := .bool false) rfl (fun w' hw' => by go_simp) ?_
                (intro K hK; go_simp; refine hK _ ?_; clear hK K)
                refine q_nil ?_
                intro w7 hw7
                have h7 : Hid (Below w6.heap.size w6 w7) := hbr.out.trans (hw7.below.mono hbr.out.size)
                go_wp2_with fail
                go_meet
                case rel => exact ⟨rfl, h7.out⟩
            | false =>
              obtain rfl : false = want := hwant.out
              refine q_region (Class wr) (by kernel_rfl) (by kernel_rfl) (Class.mk_ ((Below.refl _ _).drew)) ?_
              refine q_move rfl (.tmp 0) rfl ?_
              (intro K hK; go_simp; refine hK _ ?_; clear hK K)
              refine q_move rfl (.tmp 14) rfl ?_
              (intro K hK; go_simp; refine hK _ ?_; clear hK K)
              refine q_move rfl (.tmp 15) rfl ?_
              (intro K hK; go_simp; refine hK _ ?_; clear hK K)
              refine q_val (v := .pointer (some ⟨g, i * 32, none⟩)) rfl (fun w' hw' => by go_simp) ?_
              (intro K hK; go_simp; refine hK _ ?_; clear hK K)
              refine q_part rfl 23 (.tmp 49) rfl g (i * 32) rfl (cells8 r) _ (fun w' hw' => hcr.out w' (hbr.out.trans (hw'.below.mono hbr.out.size))) Tryd.underlying23 rfl hrsz.out ?_
              (intro K hK; go_simp; refine hK _ ?_; clear hK K)
              refine q_move rfl (.tmp 2) rfl ?_
              (intro K hK; go_simp; refine hK _ ?_; clear hK K)
              refine q_row rfl 31 (.tmp 9) rfl (w.heap.size + 1) rfl 31 (#[Value.int .i64 x1, Value.int .i64 x2, Value.slice A2 n c2]) (0, 0) _ (fun w' hw' => hPw.out w' (hbr.out.trans (hw'.below.mono hbr.out.size))) Tryd.underlying31 rfl sizeI ?_
              (intro K hK; go_simp; refine hK _ ?_; clear hK K)
              refine q_fn (v := .int .i64 i1) (args := #[.int .i64 s, .agg (cells8 r).toArray, .slice A k c, .agg #[Value.int .i64 x1, Value.int .i64 x2, Value.slice A2 n c2]]) rfl _ _ rfl rfl Tryd.func41 (by kernel_rfl) (by kernel_rfl) (fun w' hw' => (hI1.out w' (hb6.out.trans ((hbr.out.trans (hw'.below.mono hbr.out.size)).mono hb6.out.size))).mono (fun e w'' ⟨he, hb⟩ => ⟨he, hw'.next hb⟩)) ?_
              (intro K hK; go_simp; refine hK _ ?_; clear hK K)
              refine q_val (v := .bool true) rfl (fun w' hw' => by go_simp) ?_
              (intro K hK; go_simp; refine hK _ ?_; clear hK K)
              refine q_val (v := .bool true) rfl (fun w' hw' => by go_simp) ?_
              (intro K hK; go_simp; refine hK _ ?_; clear hK K)
              refine q_move rfl (.tmp 0) rfl ?_
              (intro K hK; go_simp; refine hK _ ?_; clear hK K)
              refine q_move rfl (.tmp 14) rfl ?_
              (intro K hK; go_simp; refine hK _ ?_; clear hK K)
              refine q_move rfl (.tmp 15) rfl ?_
              (intro K hK; go_simp; refine hK _ ?_; clear hK K)
              refine q_val (v := .pointer (some ⟨g, i * 32, none⟩)) rfl (fun w' hw' => by go_simp) ?_
              (intro K hK; go_simp; refine hK _ ?_; clear hK K)
              refine q_part rfl 23 (.tmp 59) rfl g (i * 32) rfl (cells8 r) _ (fun w' hw' => hcr.out w' (hbr.out.trans (hw'.below.mono hbr.out.size))) Tryd.underlying23 rfl hrsz.out ?_
              (intro K hK; go_simp; refine hK _ ?_; clear hK K)
              refine q_move rfl (.tmp 4) rfl ?_
              (intro K hK; go_simp; refine hK _ ?_; clear hK K)
              refine q_row rfl 31 (.tmp 11) rfl (w.heap.size + 2) rfl 31 (#[Value.int .i64 y1, Value.int .i64 y2, Value.slice B2 m d2]) (0, 0) _ (fun w' hw' => hQw.out w' (hbr.out.trans (hw'.below.mono hbr.out.size))) Tryd.underlying31 rfl sizeI ?_
              (intro K hK; go_simp; refine hK _ ?_; clear hK K)
              refine q_fn (v := .int .i64 i2) (args := #[.int .i64 s, .agg (cells8 r).toArray, .slice B l d, .agg #[Value.int .i64 y1, Value.int .i64 y2, Value.slice B2 m d2]]) rfl _ _ rfl rfl Tryd.func41 (by kernel_rfl) (by kernel_rfl) (fun w' hw' => (hI2.out w' (hb6.out.trans ((hbr.out.trans (hw'.below.mono hbr.out.size)).mono hb6.out.size))).mono (fun e w'' ⟨he, hb⟩ => ⟨he, hw'.next hb⟩)) ?_
              (intro K hK; go_simp; refine hK _ ?_; clear hK K)
              refine q_val (v := .bool true) rfl (fun w' hw' => by go_simp) ?_
              (intro K hK; go_simp; refine hK _ ?_; clear hK K)
              refine q_val (v := .bool true) rfl (fun w' hw' => by go_simp) ?_
              (intro K hK; go_simp; refine hK _ ?_; clear hK K)
              refine q_val (v := .bool true) rfl (fun w' hw' => by go_simp) ?_
              (intro K hK; go_simp; refine hK _ ?_; clear hK K)
              refine q_val (v := .pointer (some ⟨w.heap.size + 1, 0, none⟩)) rfl (fun w' hw' => by go_simp) ?_
              (intro K hK; go_simp; refine hK _ ?_; clear hK K)
              refine q_val (v := .int .i64 x1) rfl (fun w' hw' => by have h := (hPw.out w' (hbr.out.trans (hw'.below.mono hbr.out.size))).cell 0; go_simp) ?_
              (intro K hK; go_simp; refine hK _ ?_; clear hK K)
              refine q_val (v := .pointer (some ⟨w.heap.size + 2, 0, none⟩)) rfl (fun w' hw' => by go_simp) ?_
              (intro K hK; go_simp; refine hK _ ?_; clear hK K)
              refine q_val (v := .int .i64 y1) rfl (fun w' hw' => by have h := (hQw.out w' (hbr.out.trans (hw'.below.mono hbr.out.size))).cell 0; go_simp) ?_
              (intro K hK; go_simp; refine hK _ ?_; clear hK K)
              refine q_val (v := .bool false) rfl (fun w' hw' => by go_simp) ?_
              (intro K hK; go_simp; refine hK _ ?_; clear hK K)
              refine q_val (v := .bool false) rfl (fun w' hw' => by go_simp) ?_
              (intro K hK; go_simp; refine hK _ ?_; clear hK K)
              refine q_val (v := .bool false) rfl (fun w' hw' => by go_simp) ?_
              (intro K hK; go_simp; refine hK _ ?_; clear hK K)
              refine q_skip rfl ?_
              (intro K hK; go_simp; refine hK _ ?_; clear hK K)
              refine q_skip rfl ?_
              (intro K hK; go_simp; refine hK _ ?_; clear hK K)
              refine q_skip rfl ?_
              (intro K hK; go_simp; refine hK _ ?_; clear hK K)
              refine q_skip rfl ?_
              (intro K hK; go_simp; refine hK _ ?_; clear hK K)
              refine q_skip rfl ?_
              (intro K hK; go_simp; refine hK _ ?_; clear hK K)
              refine q_val (v := .bool false) rfl (fun w' hw' => by go_simp) ?_
              (intro K hK; go_simp; refine hK _ ?_; clear hK K)
              refine q_val (v := .bool false) rfl (fun w' hw' => by go_simp) ?_
              (intro K hK; go_simp; refine hK _ ?_; clear hK K)
              refine q_skip rfl ?_
              (intro K hK; go_simp; refine hK _ ?_; clear hK K)
              refine q_skip rfl ?_
              (intro K hK; go_simp; refine hK _ ?_; clear hK K)
              refine q_skip rfl ?_
              (intro K hK; go_simp; refine hK _ ?_; clear hK K)
              refine q_skip rfl ?_
              (intro K hK; go_simp; refine hK _ ?_; clear hK K)
              refine q_val (v := .bool false) rfl (fun w' hw' => by go_simp) ?_
              (intro K hK; go_simp; refine hK _ ?_; clear hK K)
              refine q_val (v := .bool false) rfl (fun w' hw' => by go_simp) ?_
              (intro K hK; go_simp; refine hK _ ?_; clear hK K)
              refine q_nil ?_
              intro w7 hw7
              have h7 : Hid (Below w6.heap.size w6 w7) := hbr.out.trans (hw7.below.mono hbr.out.size)
              go_wp2_with fail
              go_meet
              case rel => exact ⟨rfl, h7.out⟩
          | false =>
            obtain rfl : false = want := hwant.out
            refine q_region (Class wr) (by kernel_rfl) (by kernel_rfl) (Class.mk_ ((Below.refl _ _).drew)) ?_
            refine q_move rfl (.tmp 0) rfl ?_
            (intro K hK; go_simp; refine hK _ ?_; clear hK K)
            refine q_move rfl (.tmp 14) rfl ?_
            (intro K hK; go_simp; refine hK _ ?_; clear hK K)
            refine q_move rfl (.tmp 15) rfl ?_
            (intro K hK; go_simp; refine hK _ ?_; clear hK K)
            refine q_val (v := .pointer (some ⟨g, i * 32, none⟩)) rfl (fun w' hw' => by go_simp) ?_
            (intro K hK; go_simp; refine hK _ ?_; clear hK K)
            refine q_part rfl 23 (.tmp 49) rfl g (i * 32) rfl (cells8 r) _ (fun w' hw' => hcr.out w' (hbr.out.trans (hw'.below.mono hbr.out.size))) Tryd.underlying23 rfl hrsz.out ?_
            (intro K hK; go_simp; refine hK _ ?_; clear hK K)
            refine q_move rfl (.tmp 2) rfl ?_
            (intro K hK; go_simp; refine hK _ ?_; clear hK K)
            refine q_row rfl 31 (.tmp 9) rfl (w.heap.size + 1) rfl 31 (#[Value.int .i64 x1, Value.int .i64 x2, Value.slice A2 n c2]) (0, 0) _ (fun w' hw' => hPw.out w' (hbr.out.trans (hw'.below.mono hbr.out.size))) Tryd.underlying31 rfl sizeI ?_
            (intro K hK; go_simp; refine hK _ ?_; clear hK K)
            refine q_fn (v := .int .i64 i1) (args := #[.int .i64 s, .agg (cells8 r).toArray, .slice A k c, .agg #[Value.int .i64 x1, Value.int .i64 x2, Value.slice A2 n c2]]) rfl _ _ rfl rfl Tryd.func41 (by kernel_rfl) (by kernel_rfl) (fun w' hw' => (hI1.out w' (hb6.out.trans ((hbr.out.trans (hw'.below.mono hbr.out.size)).mono hb6.out.size))).mono (fun e w'' ⟨he, hb⟩ => ⟨he, hw'.next hb⟩)) ?_
            (intro K hK; go_simp; refine hK _ ?_; clear hK K)
            refine q_val (v := .bool true) rfl (fun w' hw' => by go_simp) ?_
            (intro K hK; go_simp; refine hK _ ?_; clear hK K)
            refine q_val (v := .bool true) rfl (fun w' hw' => by go_simp) ?_
            (intro K hK; go_simp; refine hK _ ?_; clear hK K)
            refine q_move rfl (.tmp 0) rfl ?_
            (intro K hK; go_simp; refine hK _ ?_; clear hK K)
            refine q_move rfl (.tmp 14) rfl ?_
            (intro K hK; go_simp; refine hK _ ?_; clear hK K)
            refine q_move rfl (.tmp 15) rfl ?_
            (intro K hK; go_simp; refine hK _ ?_; clear hK K)
            refine q_val (v := .pointer (some ⟨g, i * 32, none⟩)) rfl (fun w' hw' => by go_simp) ?_
            (intro K hK; go_simp; refine hK _ ?_; clear hK K)
            refine q_part rfl 23 (.tmp 59) rfl g (i * 32) rfl (cells8 r) _ (fun w' hw' => hcr.out w' (hbr.out.trans (hw'.below.mono hbr.out.size))) Tryd.underlying23 rfl hrsz.out ?_
            (intro K hK; go_simp; refine hK _ ?_; clear hK K)
            refine q_move rfl (.tmp 4) rfl ?_
            (intro K hK; go_simp; refine hK _ ?_; clear hK K)
            refine q_row rfl 31 (.tmp 11) rfl (w.heap.size + 2) rfl 31 (#[Value.int .i64 y1, Value.int .i64 y2, Value.slice B2 m d2]) (0, 0) _ (fun w' hw' => hQw.out w' (hbr.out.trans (hw'.below.mono hbr.out.size))) Tryd.underlying31 rfl sizeI ?_
            (intro K hK; go_simp; refine hK _ ?_; clear hK K)
            refine q_fn (v := .int .i64 i2) (args := #[.int .i64 s, .agg (cells8 r).toArray, .slice B l d, .agg #[Value.int .i64 y1, Value.int .i64 y2, Value.slice B2 m d2]]) rfl _ _ rfl rfl Tryd.func41 (by kernel_rfl) (by kernel_rfl) (fun w' hw' => (hI2.out w' (hb6.out.trans ((hbr.out.trans (hw'.below.mono hbr.out.size)).mono hb6.out.size))).mono (fun e w'' ⟨he, hb⟩ => ⟨he, hw'.next hb⟩)) ?_
            (intro K hK; go_simp; refine hK _ ?_; clear hK K)
            refine q_val (v := .bool false) rfl (fun w' hw' => by go_simp) ?_
            (intro K hK; go_simp; refine hK _ ?_; clear hK K)
            refine q_val (v := .bool false) rfl (fun w' hw' => by go_simp) ?_
            (intro K hK; go_simp; refine hK _ ?_; clear hK K)
            refine q_val (v := .bool false) rfl (fun w' hw' => by go_simp) ?_
            (intro K hK; go_simp; refine hK _ ?_; clear hK K)
            refine q_skip rfl ?_
            (intro K hK; go_simp; refine hK _ ?_; clear hK K)
            refine q_skip rfl ?_
            (intro K hK; go_simp; refine hK _ ?_; clear hK K)
            refine q_skip rfl ?_
            (intro K hK; go_simp; refine hK _ ?_; clear hK K)
            refine q_skip rfl ?_
            (intro K hK; go_simp; refine hK _ ?_; clear hK K)
            refine q_skip rfl ?_
            (intro K hK; go_simp; refine hK _ ?_; clear hK K)
            refine q_val (v := .bool false) rfl (fun w' hw' => by go_simp) ?_
            (intro K hK; go_simp; refine hK _ ?_; clear hK K)
            refine q_val (v := .bool false) rfl (fun w' hw' => by go_simp) ?_
            (intro K hK; go_simp; refine hK _ ?_; clear hK K)
            refine q_skip rfl ?_
            (intro K hK; go_simp; refine hK _ ?_; clear hK K)
            refine q_skip rfl ?_
            (intro K hK; go_simp; refine hK _ ?_; clear hK K)
            refine q_skip rfl ?_
            (intro K hK; go_simp; refine hK _ ?_; clear hK K)
            refine q_skip rfl ?_
            (intro K hK; go_simp; refine hK _ ?_; clear hK K)
            refine q_skip rfl ?_
            (intro K hK; go_simp; refine hK _ ?_; clear hK K)
            refine q_val (v := .bool false) rfl (fun w' hw' => by go_simp) ?_
            (intro K hK; go_simp; refine hK _ ?_; clear hK K)
            refine q_val (v := .bool false) rfl (fun w' hw' => by go_simp) ?_
            (intro K hK; go_simp; refine hK _ ?_; clear hK K)
            refine q_skip rfl ?_
            (intro K hK; go_simp; refine hK _ ?_; clear hK K)
            refine q_skip rfl ?_
            (intro K hK; go_simp; refine hK _ ?_; clear hK K)
            refine q_skip rfl ?_
            (intro K hK; go_simp; refine hK _ ?_; clear hK K)
            refine q_skip rfl ?_
            (intro K hK; go_simp; refine hK _ ?_; clear hK K)
            refine q_val (v := .bool false) rfl (fun w' hw' => by go_simp) ?_
            (intro K hK; go_simp; refine hK _ ?_; clear hK K)
            refine q_val (v := .bool false) rfl (fun w' hw' => by go_simp) ?_
            (intro K hK; go_simp; refine hK _ ?_; clear hK K)
            refine q_nil ?_
            intro w7 hw7
            have h7 : Hid (Below w6.heap.size w6 w7) := hbr.out.trans (hw7.below.mono hbr.out.size)
            go_wp2_with fail
            go_meet
            case rel => exact ⟨rfl, h7.out⟩
        | false =>
          obtain rfl : false = want := hwant.out
          refine q_region (Class wr) (by kernel_rfl) (by kernel_rfl) (Class.mk_ ((Below.refl _ _).drew)) ?_
          refine q_move rfl (.tmp 0) rfl ?_
          (intro K hK; go_simp; refine hK _ ?_; clear hK K)
          refine q_move rfl (.tmp 14) rfl ?_
          (intro K hK; go_simp; refine hK _ ?_; clear hK K)
          refine q_move rfl (.tmp 15) rfl ?_
          (intro K hK; go_simp; refine hK _ ?_; clear hK K)
          refine q_val (v := .pointer (some ⟨g, i * 32, none⟩)) rfl (fun w' hw' => by go_simp) ?_
          (intro K hK; go_simp; refine hK _ ?_; clear hK K)
          refine q_part rfl 23 (.tmp 49) rfl g (i * 32) rfl (cells8 r) _ (fun w' hw' => hcr.out w' (hbr.out.trans (hw'.below.mono hbr.out.size))) Tryd.underlying23 rfl hrsz.out ?_
          (intro K hK; go_simp; refine hK _ ?_; clear hK K)
          refine q_move rfl (.tmp 2) rfl ?_
          (intro K hK; go_simp; refine hK _ ?_; clear hK K)
          refine q_row rfl 31 (.tmp 9) rfl (w.heap.size + 1) rfl 31 (#[Value.int .i64 x1, Value.int .i64 x2, Value.slice A2 n c2]) (0, 0) _ (fun w' hw' => hPw.out w' (hbr.out.trans (hw'.below.mono hbr.out.size))) Tryd.underlying31 rfl sizeI ?_
          (intro K hK; go_simp; refine hK _ ?_; clear hK K)
          refine q_fn (v := .int .i64 i1) (args := #[.int .i64 s, .agg (cells8 r).toArray, .slice A k c, .agg #[Value.int .i64 x1, Value.int .i64 x2, Value.slice A2 n c2]]) rfl _ _ rfl rfl Tryd.func41 (by kernel_rfl) (by kernel_rfl) (fun w' hw' => (hI1.out w' (hb6.out.trans ((hbr.out.trans (hw'.below.mono hbr.out.size)).mono hb6.out.size))).mono (fun e w'' ⟨he, hb⟩ => ⟨he, hw'.next hb⟩)) ?_
          (intro K hK; go_simp; refine hK _ ?_; clear hK K)
          refine q_val (v := .bool false) rfl (fun w' hw' => by go_simp) ?_
          (intro K hK; go_simp; refine hK _ ?_; clear hK K)
          refine q_val (v := .bool false) rfl (fun w' hw' => by go_simp) ?_
          (intro K hK; go_simp; refine hK _ ?_; clear hK K)
          refine q_skip rfl ?_
          (intro K hK; go_simp; refine hK _ ?_; clear hK K)
          refine q_skip rfl ?_
          (intro K hK; go_simp; refine hK _ ?_; clear hK K)
          refine q_skip rfl ?_
          (intro K hK; go_simp; refine hK _ ?_; clear hK K)
          refine q_skip rfl ?_
          (intro K hK; go_simp; refine hK _ ?_; clear hK K)
          refine q_skip rfl ?_
          (intro K hK; go_simp; refine hK _ ?_; clear hK K)
          refine q_skip rfl ?_
          (intro K hK; go_simp; refine hK _ ?_; clear hK K)
          refine q_skip rfl ?_
          (intro K hK; go_simp; refine hK _ ?_; clear hK K)
          refine q_skip rfl ?_
          (intro K hK; go_simp; refine hK _ ?_; clear hK K)
          refine q_skip rfl ?_
          (intro K hK; go_simp; refine hK _ ?_; clear hK K)
          refine q_val (v := .bool false) rfl (fun w' hw' => by go_simp) ?_
          (intro K hK; go_simp; refine hK _ ?_; clear hK K)
          refine q_val (v := .bool false) rfl (fun w' hw' => by go_simp) ?_
          (intro K hK; go_simp; refine hK _ ?_; clear hK K)
          refine q_skip rfl ?_
          (intro K hK; go_simp; refine hK _ ?_; clear hK K)
          refine q_skip rfl ?_
          (intro K hK; go_simp; refine hK _ ?_; clear hK K)
          refine q_skip rfl ?_
          (intro K hK; go_simp; refine hK _ ?_; clear hK K)
          refine q_skip rfl ?_
          (intro K hK; go_simp; refine hK _ ?_; clear hK K)
          refine q_skip rfl ?_
          (intro K hK; go_simp; refine hK _ ?_; clear hK K)
          refine q_val (v := .bool false) rfl (fun w' hw' => by go_simp) ?_
          (intro K hK; go_simp; refine hK _ ?_; clear hK K)
          refine q_val (v := .bool false) rfl (fun w' hw' => by go_simp) ?_
          (intro K hK; go_simp; refine hK _ ?_; clear hK K)
          refine q_skip rfl ?_
          (intro K hK; go_simp; refine hK _ ?_; clear hK K)
          refine q_skip rfl ?_
          (intro K hK; go_simp; refine hK _ ?_; clear hK K)
          refine q_skip rfl ?_
          (intro K hK; go_simp; refine hK _ ?_; clear hK K)
          refine q_skip rfl ?_
          (intro K hK; go_simp; refine hK _ ?_; clear hK K)
          refine q_skip rfl ?_
          (intro K hK; go_simp; refine hK _ ?_; clear hK K)
          refine q_val (v := .bool false) rfl (fun w' hw' => by go_simp) ?_
          (intro K hK; go_simp; refine hK _ ?_; clear hK K)
          refine q_val (v := .bool false) rfl (fun w' hw' => by go_simp) ?_
          (intro K hK; go_simp; refine hK _ ?_; clear hK K)
          refine q_skip rfl ?_
          (intro K hK; go_simp; refine hK _ ?_; clear hK K)
          refine q_skip rfl ?_
          (intro K hK; go_simp; refine hK _ ?_; clear hK K)
          refine q_skip rfl ?_
          (intro K hK; go_simp; refine hK _ ?_; clear hK K)
          refine q_skip rfl ?_
          (intro K hK; go_simp; refine hK _ ?_; clear hK K)
          refine q_val (v := .bool false) rfl (fun w' hw' => by go_simp) ?_
          (intro K hK; go_simp; refine hK _ ?_; clear hK K)
          refine q_val (v := .bool false) rfl (fun w' hw' => by go_simp) ?_
          (intro K hK; go_simp; refine hK _ ?_; clear hK K)
          refine q_nil ?_
          intro w7 hw7
          have h7 : Hid (Below w6.heap.size w6 w7) := hbr.out.trans (hw7.below.mono hbr.out.size)
          go_wp2_with fail
          go_meet
          case rel => exact ⟨rfl, h7.out⟩
      case rest =>
        obtain ⟨rfl, hbc⟩ := hcut
        obtain ⟨wq, rfl⟩ : ∃ wq, wq = wc := ⟨_, rfl⟩
        have hbwc : Hid (Below w.heap.size w wq) := hb6.out.trans (hbc.out.mono hb6.out.size)
        clear hI1 hI2 hSe2 hwant
        go_wp2_with fail
        go_cut [17, 18] from 86 to 114 (fun v u wr' => ∃ (mb : Nat) (xa xb : Value) (ok : Bool), v = .pointer (some ⟨mb, 0, none⟩) ∧ u = .bool ok ∧ Hid (Blk wr' mb 82 #[xa, xb]) ∧ Hid (XR wr' s want (T1 ++ T2) xa xb ok) ∧ Hid (Below wq.heap.size wq wr'))
        case first =>
          have s0 : Hid (Below wq.heap.size wq wq.drew) := (Below.refl _ _).drew
          refine held_start (fun w' => Below wq.heap.size wq w') 16 rfl (by kernel_rfl) ?_
          refine held_take (i := 0) (v := .int .i64 s) rfl (by kernel_rfl) (by kernel_rfl) (by kernel_rfl) (fun _ _ _ h => h) s0.out (by rfl) (fun w' hw' => run_mv (.tmp 0) rfl w') ?_
          (intro K hK; go_simp; refine hK _ ?_; clear hK K)
          refine held_take (i := 1) (v := .slice (some ⟨g, 0, none⟩) 2 2) rfl (by kernel_rfl) (by kernel_rfl) (by kernel_rfl) (fun _ _ _ h => h) s0.out (by rfl) (fun w' hw' => run_mv (.tmp 14) rfl w') ?_
          (intro K hK; go_simp; refine hK _ ?_; clear hK K)
          refine held_take (i := 2) (v := .int .i64 (i : Int)) rfl (by kernel_rfl) (by kernel_rfl) (by kernel_rfl) (fun _ _ _ h => h) s0.out (by rfl) (fun w' hw' => run_mv (.tmp 15) rfl w') ?_
          (intro K hK; go_simp; refine hK _ ?_; clear hK K)
          refine held_take (i := 3) (v := .pointer (some ⟨g, i * 32, none⟩)) rfl (by kernel_rfl) (by kernel_rfl) (by kernel_rfl) (fun _ _ _ h => h) s0.out (by rfl) (fun w' hw' => by go_simp) ?_
          (intro K hK; go_simp; refine hK _ ?_; clear hK K)
          refine held_take (i := 4) (v := .agg (cells8 r).toArray) rfl (by kernel_rfl) (by kernel_rfl) (by kernel_rfl) (fun _ _ _ h => h) s0.out (by rfl) (fun w' hw' => exec_part 23 (.tmp 90) rfl (g) (i * 32) rfl (cells8 r) _ (hcr.out w' (hbc.out.trans (hw'.mono hbc.out.size))) Tryd.underlying23 rfl hrsz.out) ?_
          (intro K hK; go_simp; refine hK _ ?_; clear hK K)
          refine held_take (i := 5) (v := .slice A k c) rfl (by kernel_rfl) (by kernel_rfl) (by kernel_rfl) (fun _ _ _ h => h) s0.out (by rfl) (fun w' hw' => run_mv (.tmp 2) rfl w') ?_
          (intro K hK; go_simp; refine hK _ ?_; clear hK K)
          refine held_take (i := 6) (v := .agg (#[Value.int .i64 x1, Value.int .i64 x2, Value.slice A2 n c2])) rfl (by kernel_rfl) (by kernel_rfl) (by kernel_rfl) (fun _ _ _ h => h) s0.out (by rfl) (fun w' hw' => exec_row 31 (.tmp 9) rfl ((w.heap.size + 1)) rfl 31 (#[Value.int .i64 x1, Value.int .i64 x2, Value.slice A2 n c2]) (0, 0) _ (hPw.out w' (hbc.out.trans (hw'.mono hbc.out.size))) Tryd.underlying31 rfl sizeI) ?_
          (intro K hK; go_simp; refine hK _ ?_; clear hK K)
          refine held_take (i := 7) (v := .slice B l d) rfl (by kernel_rfl) (by kernel_rfl) (by kernel_rfl) (fun _ _ _ h => h) s0.out (by rfl) (fun w' hw' => run_mv (.tmp 4) rfl w') ?_
          (intro K hK; go_simp; refine hK _ ?_; clear hK K)
          refine held_take (i := 8) (v := .agg (#[Value.int .i64 y1, Value.int .i64 y2, Value.slice B2 m d2])) rfl (by kernel_rfl) (by kernel_rfl) (by kernel_rfl) (fun _ _ _ h => h) s0.out (by rfl) (fun w' hw' => exec_row 31 (.tmp 11) rfl ((w.heap.size + 2)) rfl 31 (#[Value.int .i64 y1, Value.int .i64 y2, Value.slice B2 m d2]) (0, 0) _ (hQw.out w' (hbc.out.trans (hw'.mono hbc.out.size))) Tryd.underlying31 rfl sizeI) ?_
          (intro K hK; go_simp; refine hK _ ?_; clear hK K)
          refine held_two (i := 9) (j := 13) rfl rfl (by kernel_rfl) (by rfl) (by rfl) (fun K hK => ?_) (fun K hK => ?_)
          · refine wp_fn (R := fun v w'' => ∃ xa xb ok, v = .tuple #[.agg #[xa, xb], .bool ok] ∧ XR w'' s want (T1 ++ T2) xa xb ok ∧ Below wq.heap.size wq w'' ∧ Below (wq.drew).heap.size (wq.drew) w'') (args := #[.int .i64 s, .agg (cells8 r).toArray, .slice A k c, .agg #[Value.int .i64 x1, Value.int .i64 x2, Value.slice A2 n c2], .slice B l d, .agg #[Value.int .i64 y1, Value.int .i64 y2, Value.slice B2 m d2]]) _ _ rfl rfl Tryd.func42 (by kernel_rfl) (by kernel_rfl) ((hTXr.out _ (hbwc.out.trans ((s0.out).mono hbwc.out.size))).mono fun e w'' ⟨hb, xa, xb, ok, he, hx⟩ => ⟨_, he, xa, xb, ok, rfl, hx, s0.out.trans (hb.mono s0.out.size), hb⟩) ?_
            rintro qq w5 ⟨xa, xb, ok, rfl, hXR, h5, kk1⟩
            replace h5 := Lib.hid h5
            replace kk1 := Lib.hid kk1
            replace hXR := Lib.hid hXR
            have hFE : Hid (FitE #[xa, xb]) := XR.fit hXR.out
            clear kk1
            go_simp
            refine hK _ _ h5.out ?_
            clear hK K
            refine held_take (i := 10) (v := .tuple #[.agg #[xa, xb], .bool ok]) rfl (by kernel_rfl) (by kernel_rfl) (by kernel_rfl) (fun _ _ _ h => h) h5.out (by rfl) (fun w' hw' => run_mv (.tmp 96) rfl w') ?_
            (intro K hK; go_simp; refine hK _ ?_; clear hK K)
            refine held_take (i := 11) (v := .agg #[xa, xb]) rfl (by kernel_rfl) (by kernel_rfl) (by kernel_rfl) (fun _ _ _ h => h) h5.out (by rfl) (fun w' hw' => by go_simp) ?_
            (intro K hK; go_simp; refine hK _ ?_; clear hK K)
            refine held_take (i := 12) (v := .bool ok) rfl (by kernel_rfl) (by kernel_rfl) (by kernel_rfl) (fun _ _ _ h => h) h5.out (by rfl) (fun w' hw' => by go_simp) ?_
            (intro K hK; go_simp; refine hK _ ?_; clear hK K)
            refine held_only (i := 13) rfl (by kernel_rfl) (by rfl) (fun K hK => ?_)
            have h6 := Lib.hid (h5.out.alloc h5.out.size (.cells #[Value.slice none 0 0, Value.slice none 0 0] 82))
            have bb : Hid (Blk (w5.alloc (.cells #[Value.slice none 0 0, Value.slice none 0 0] 82)) w5.heap.size 82 #[Value.slice none 0 0, Value.slice none 0 0]) := Blk.new _ _ _
            replace hXR := Lib.hid (hXR.out.below (Below.heap_below _ (.cells #[Value.slice none 0 0, Value.slice none 0 0] 82)))
            go_simp
            refine hK _ _ h6.out ?_
            clear hK K
            refine held_only (i := 14) rfl (by kernel_rfl) (by rfl) (fun K hK => ?_)
            refine wp_store_whole 82 (.tmp 17) (.tmp 97) rfl (w5.heap.size) (#[xa, xb]) rfl rfl 82 (#[Value.slice none 0 0, Value.slice none 0 0]) (bb.out) hFE.out.size hFE.out.zero hFE.out.one ?_
            intro w99 B9 k9
            have b9 : Hid (Below wq.heap.size wq w99) := h6.out.trans (Kept.below_of k9 (h5.out.size) h6.out.size)
            replace hXR := Lib.hid (hXR.out.keptN bb.out k9)
            go_simp
            refine hK _ _ b9.out ?_
            clear hK K
            refine held_take (i := 15) (v := .bool ok) rfl (by kernel_rfl) (by kernel_rfl) (by kernel_rfl) (fun _ _ _ h => h) b9.out (by rfl) (fun w' hw' => by first | go_simp | rfl) ?_
            (intro K hK; go_simp; refine hK _ ?_; clear hK K)
            refine held_end (by kernel_rfl) ?_
            go_wp2_with fail
            go_meet
            case rel => exact ⟨_, _, _, _, rfl, rfl, B9, hXR.out, b9.out⟩
          · have h5 := Lib.hid (s0.out.alloc s0.out.size (.cells #[Value.slice none 0 0, Value.slice none 0 0] 82))
            have bb : Hid (Blk (wq.drew.alloc (.cells #[Value.slice none 0 0, Value.slice none 0 0] 82)) wq.heap.size 82 #[Value.slice none 0 0, Value.slice none 0 0]) := Blk.new _ _ _
            go_simp
            refine hK _ _ h5.out ?_
            clear hK K
            refine held_only (i := 9) rfl (by kernel_rfl) (by rfl) (fun K hK => ?_)
            refine wp_fn (R := fun v w'' => ∃ xa xb ok, v = .tuple #[.agg #[xa, xb], .bool ok] ∧ XR w'' s want (T1 ++ T2) xa xb ok ∧ Below wq.heap.size wq w'' ∧ Below ((wq.drew.alloc (.cells #[Value.slice none 0 0, Value.slice none 0 0] 82))).heap.size ((wq.drew.alloc (.cells #[Value.slice none 0 0, Value.slice none 0 0] 82))) w'') (args := #[.int .i64 s, .agg (cells8 r).toArray, .slice A k c, .agg #[Value.int .i64 x1, Value.int .i64 x2, Value.slice A2 n c2], .slice B l d, .agg #[Value.int .i64 y1, Value.int .i64 y2, Value.slice B2 m d2]]) _ _ rfl rfl Tryd.func42 (by kernel_rfl) (by kernel_rfl) ((hTXr.out _ (hbwc.out.trans ((h5.out).mono hbwc.out.size))).mono fun e w'' ⟨hb, xa, xb, ok, he, hx⟩ => ⟨_, he, xa, xb, ok, rfl, hx, h5.out.trans (hb.mono h5.out.size), hb⟩) ?_
            rintro qq w6 ⟨xa, xb, ok, rfl, hXR, h6, kk1⟩
            replace h6 := Lib.hid h6
            replace kk1 := Lib.hid kk1
            replace hXR := Lib.hid hXR
            have hFE : Hid (FitE #[xa, xb]) := XR.fit hXR.out
            replace bb := Lib.hid ((kk1.out.block _ (Blk.lt bb.out)).trans bb.out)
            clear kk1
            go_simp
            refine hK _ _ h6.out ?_
            clear hK K
            refine held_take (i := 10) (v := .tuple #[.agg #[xa, xb], .bool ok]) rfl (by kernel_rfl) (by kernel_rfl) (by kernel_rfl) (fun _ _ _ h => h) h6.out (by rfl) (fun w' hw' => run_mv (.tmp 96) rfl w') ?_
            (intro K hK; go_simp; refine hK _ ?_; clear hK K)
            refine held_take (i := 11) (v := .agg #[xa, xb]) rfl (by kernel_rfl) (by kernel_rfl) (by kernel_rfl) (fun _ _ _ h => h) h6.out (by rfl) (fun w' hw' => by go_simp) ?_
            (intro K hK; go_simp; refine hK _ ?_; clear hK K)
            refine held_take (i := 12) (v := .bool ok) rfl (by kernel_rfl) (by kernel_rfl) (by kernel_rfl) (fun _ _ _ h => h) h6.out (by rfl) (fun w' hw' => by go_simp) ?_
            (intro K hK; go_simp; refine hK _ ?_; clear hK K)
            refine held_only (i := 14) rfl (by kernel_rfl) (by rfl) (fun K hK => ?_)
            refine wp_store_whole 82 (.tmp 17) (.tmp 97) rfl (wq.heap.size) (#[xa, xb]) rfl rfl 82 (#[Value.slice none 0 0, Value.slice none 0 0]) (bb.out) hFE.out.size hFE.out.zero hFE.out.one ?_
            intro w99 B9 k9
            have b9 : Hid (Below wq.heap.size wq w99) := h6.out.trans (Kept.below_of k9 (s0.out.size) h6.out.size)
            replace hXR := Lib.hid (hXR.out.keptN bb.out k9)
            go_simp
            refine hK _ _ b9.out ?_
            clear hK K
            refine held_take (i := 15) (v := .bool ok) rfl (by kernel_rfl) (by kernel_rfl) (by kernel_rfl) (fun _ _ _ h => h) b9.out (by rfl) (fun w' hw' => by first | go_simp | rfl) ?_
            (intro K hK; go_simp; refine hK _ ?_; clear hK K)
            refine held_end (by kernel_rfl) ?_
            go_wp2_with fail
            go_meet
            case rel => exact ⟨_, _, _, _, rfl, rfl, B9, hXR.out, b9.out⟩
        case rest =>
          obtain ⟨mb, xa, xb, ok, rfl, rfl, hM, hXR, hb9c⟩ := hcut
          obtain ⟨wd, rfl⟩ : ∃ wd, wd = wc := ⟨_, rfl⟩
          have hbd : Hid (Below w6.heap.size w6 wd) := hbc.out.trans (hb9c.out.mono hbc.out.size)
          have hbwd : Hid (Below w.heap.size w wd) := hb6.out.trans (hbd.out.mono hb6.out.size)
          clear hb9c hbc hbwc hTXr
          go_wp2_with fail
          have s0 : Hid (Below wd.heap.size wd wd.drew) := (Below.refl _ _).drew
          refine held_start (fun w' => Below wd.heap.size wd w') 15 rfl (by kernel_rfl) ?_
          refine held_take (i := 0) (v := .int .i64 s) rfl (by kernel_rfl) (by kernel_rfl) (by kernel_rfl) (fun _ _ _ h => h) s0.out (by rfl) (fun w' hw' => run_mv (.tmp 0) rfl w') ?_
          (intro K hK; go_simp; refine hK _ ?_; clear hK K)
          refine held_take (i := 1) (v := .agg (#[xa, xb])) rfl (by kernel_rfl) (by kernel_rfl) (by kernel_rfl) (fun _ _ _ h => h) s0.out (by rfl) (fun w' hw' => exec_row 82 (.tmp 17) rfl (mb) rfl 82 (#[xa, xb]) (0, 0) _ ((show Blk w' mb 82 #[xa, xb] from (hw'.block _ hM.out.lt).trans hM.out)) Tryd.underlying82 rfl sizeE2) ?_
          (intro K hK; go_simp; refine hK _ ?_; clear hK K)
          refine held_take (i := 2) (v := .bool ok) rfl (by kernel_rfl) (by kernel_rfl) (by kernel_rfl) (fun _ _ _ h => h) s0.out (by rfl) (fun w' hw' => run_mv (.tmp 18) rfl w') ?_
          (intro K hK; go_simp; refine hK _ ?_; clear hK K)
          refine held_take (i := 3) (v := .bool want) rfl (by kernel_rfl) (by kernel_rfl) (by kernel_rfl) (fun _ _ _ h => h) s0.out (by rfl) (fun w' hw' => run_mv (.tmp 16) rfl w') ?_
          (intro K hK; go_simp; refine hK _ ?_; clear hK K)
          refine held_take (i := 4) (v := .int .i64 s) rfl (by kernel_rfl) (by kernel_rfl) (by kernel_rfl) (fun _ _ _ h => h) s0.out (by rfl) (fun w' hw' => run_mv (.tmp 0) rfl w') ?_
          (intro K hK; go_simp; refine hK _ ?_; clear hK K)
          refine held_take (i := 5) (v := .slice A k c) rfl (by kernel_rfl) (by kernel_rfl) (by kernel_rfl) (fun _ _ _ h => h) s0.out (by rfl) (fun w' hw' => run_mv (.tmp 2) rfl w') ?_
          (intro K hK; go_simp; refine hK _ ?_; clear hK K)
          refine held_take (i := 6) (v := .agg (#[Value.int .i64 x1, Value.int .i64 x2, Value.slice A2 n c2])) rfl (by kernel_rfl) (by kernel_rfl) (by kernel_rfl) (fun _ _ _ h => h) s0.out (by rfl) (fun w' hw' => exec_row 31 (.tmp 9) rfl ((w.heap.size + 1)) rfl 31 (#[Value.int .i64 x1, Value.int .i64 x2, Value.slice A2 n c2]) (0, 0) _ (hPw.out w' (hbd.out.trans (hw'.mono hbd.out.size))) Tryd.underlying31 rfl sizeI) ?_
          (intro K hK; go_simp; refine hK _ ?_; clear hK K)
          refine held_take (i := 8) (v := .int .i64 s) rfl (by kernel_rfl) (by kernel_rfl) (by kernel_rfl) (fun _ _ _ h => h) s0.out (by rfl) (fun w' hw' => run_mv (.tmp 0) rfl w') ?_
          (intro K hK; go_simp; refine hK _ ?_; clear hK K)
          refine held_take (i := 9) (v := .slice B l d) rfl (by kernel_rfl) (by kernel_rfl) (by kernel_rfl) (fun _ _ _ h => h) s0.out (by rfl) (fun w' hw' => run_mv (.tmp 4) rfl w') ?_
          (intro K hK; go_simp; refine hK _ ?_; clear hK K)
          refine held_take (i := 10) (v := .agg (#[Value.int .i64 y1, Value.int .i64 y2, Value.slice B2 m d2])) rfl (by kernel_rfl) (by kernel_rfl) (by kernel_rfl) (fun _ _ _ h => h) s0.out (by rfl) (fun w' hw' => exec_row 31 (.tmp 11) rfl ((w.heap.size + 2)) rfl 31 (#[Value.int .i64 y1, Value.int .i64 y2, Value.slice B2 m d2]) (0, 0) _ (hQw.out w' (hbd.out.trans (hw'.mono hbd.out.size))) Tryd.underlying31 rfl sizeI) ?_
          (intro K hK; go_simp; refine hK _ ?_; clear hK K)
          refine held_only (i := 7) rfl (by kernel_rfl) (by rfl) (fun K hK => ?_)
          refine wp_fn (R := fun v w'' => ∃ xs, w''.ownsRow wd.heap.size 27 1 v (1 + m4) xs ∧ Ty w'' xs T1 ∧ Below (wd.drew).heap.size (wd.drew) w'') (args := #[.int .i64 s, .slice A k c, .agg #[Value.int .i64 x1, Value.int .i64 x2, Value.slice A2 n c2]]) _ _ rfl rfl Tryd.func38 (by kernel_rfl) (by kernel_rfl) ((hWa1.out _ (hbwd.out.trans (s0.out.mono hbwd.out.size))).mono fun e w'' ⟨v, xs, he, ho, hty, hb⟩ => ⟨_, he, xs, own_down ho s0.out.size, hty, hb⟩) ?_
          rintro vF w8 ⟨xsF, hoF, tyF, kk1⟩
          have h8 : Hid (Below wd.heap.size wd w8) := s0.out.trans (kk1.mono s0.out.size)
          replace hoF := Lib.hid hoF
          replace tyF := Lib.hid tyF
          clear kk1
          go_simp
          refine hK _ _ h8.out ?_
          clear hK K
          refine held_only (i := 11) rfl (by kernel_rfl) (by rfl) (fun K hK => ?_)
          refine wp_fn (R := fun v w'' => ∃ xs, w''.ownsRow wd.heap.size 27 1 v N2 xs ∧ Ty w'' xs T2 ∧ Below (w8).heap.size (w8) w'') (args := #[.int .i64 s, .slice B l d, .agg #[Value.int .i64 y1, Value.int .i64 y2, Value.slice B2 m d2]]) _ _ rfl rfl Tryd.func38 (by kernel_rfl) (by kernel_rfl) ((hWa2.out _ (hbwd.out.trans (h8.out.mono hbwd.out.size))).mono fun e w'' ⟨v, xs, he, ho, hty, hb⟩ => ⟨_, he, xs, own_down ho h8.out.size, hty, hb⟩) ?_
          rintro vS w9 ⟨xsS, hoS, tyS, kk1⟩
          have h9 : Hid (Below wd.heap.size wd w9) := h8.out.trans (kk1.mono h8.out.size)
          replace hoF := Lib.hid (Own.own_below hoF.out kk1)
          replace tyF := Lib.hid (tyF.out.below kk1)
          replace hoS := Lib.hid hoS
          replace tyS := Lib.hid tyS
          clear kk1
          go_simp
          refine hK _ _ h9.out ?_
          clear hK K
          obtain ⟨A1', c1', e1', -, -, -, -, hA1'⟩ := Append.Own.reads hoF.out
          obtain ⟨A2', c2', e2', -, -, hnil2', hr2', -⟩ := Append.Own.reads hoS.out
          subst e1' e2'
          have hone := Lib.hid (Ty.one hoS.out tyS.out hN2h.out)
          have hmx : Hid (1 + m4 + N2 ≤ maxLen) := by have := hm4s.out; have := hN2s.out; show _ ≤ _; unfold maxLen; omega
          have hmb : Hid ((1 + m4 + N2) * 24 ≤ 140737488355328) := by have := hm4s.out; have := hN2s.out; show _ ≤ _; omega
          refine held_only (i := 12) rfl (by kernel_rfl) (by rfl) (fun K hK => ?_)
          refine Append.wp_append_src _ (.tmp 106) (.tmp 110) 24 rfl wd.heap.size 27 i0 (.slice none 0 0) 1 24 Tryd.underlying24 ii iz0 iz1 iz2 rfl (by decide) (.slice A1' (1 + m4) c1') (1 + m4) xsF rfl hoF.out A2' N2 c2' xsS rfl hr2' hnil2' hone.out hmx.out hmb.out h9.out.size (fun v10 w10 hGr => ?_)
          obtain ⟨q1', q2', -⟩ := ty_cat2 hm4h.out hoF.out tyF.out tyS.out (fun h => by omega) hGr
          have h10 : Hid (Below wd.heap.size wd w10) := hGr.below h9.out h9.out.size (fun k hk => own_base hoF.out k hk)
          have hkG : Kept (fun k => some k = Value.ownBlock (.slice A1' (1 + m4) c1')) w9 w10 := (Kept.refl _ w9).grown hGr.grow (fun k e => .inl e.symm)
          have ho1l := hoF.out
          rw [← hm4h.out] at ho1l
          have hXR10 : Hid (XR w10 s want (T1 ++ T2) xa xb ok) := (hXR.out.below h9.out).keep hkG (fun g hg => own_frontY ho1l tyF.out (by rw [hm4h.out]; omega) g (by rw [hm4h.out]; exact hg))
          have hlen2 : (T1 ++ T2).length = 1 + m4 + N2 := by rw [List.length_append, hm4h.out, hN2h.out]
          rw [← hlen2] at q2'
          obtain ⟨A9, c9, e9, -, -, hp9⟩ := Ty.pieces q2' q1'
          subst e9
          rw [hlen2]
          replace hp9 := Lib.hid hp9
          clear q1' q2' hkG ho1l hlen2 hnil2' hr2' hA1'
          go_simp
          refine hK _ _ h10.out ?_
          clear hK K
          refine held_only (i := 13) rfl (by kernel_rfl) (by rfl) (fun K hK => ?_)
          refine wp_fn (R := fun v w'' => v = .bool true ∧ Below wd.heap.size wd w'') (args := #[.int .i64 s, .agg #[xa, xb], .bool ok, .bool want, .slice A9 (1 + m4 + N2) c9]) _ _ rfl rfl Tryd.func43 (by kernel_rfl) (by kernel_rfl) ((hTo.out w10 want A9 c9 xa xb ok hp9.out hXR10.out).mono fun e w'' ⟨he, hb⟩ => ⟨_, he, rfl, h10.out.trans (hb.mono h10.out.size)⟩) ?_
          rintro qq w11 ⟨rfl, h11⟩
          replace h11 := Lib.hid h11
          go_simp
          refine hK _ _ h11.out ?_
          clear hK K
          refine held_take (i := 14) (v := .bool false) rfl (by kernel_rfl) (by kernel_rfl) (by kernel_rfl) (fun _ _ _ h => h) h11.out (by rfl) (fun w' hw' => by go_simp) ?_
          (intro K hK; go_simp; refine hK _ ?_; clear hK K)
          refine held_end (by kernel_rfl) ?_
          have h12 : Hid (Below w6.heap.size w6 w11) := hbd.out.trans (h11.out.mono hbd.out.size)
          go_wp2_with fail
          exact ⟨⟨i + 1, by push_cast; rfl, (show i + 1 ≤ 2 by omega), h12.out⟩, by simp [intOf]; omega⟩
    · have hi2 : i = 2 := by have := hi.out; omega
      subst hi2
      go_wp2_with fail
      go_ret
      exact ⟨rfl, hb6.out.trans (hbr.out.mono hb6.out.size)⟩
end Go.Proofs.YtmdkfhfkdcbpgaaDoorR.AuditTwoEvents
