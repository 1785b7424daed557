/-
  Texts of the claim, put into one file: ReadIdx.
-/
import Derived.Test.YtmdkfhfkdcbpgaaZ24
import Derived.Test.YtmdkfhfkdcbpgaaZ38
import Derived.Test.YtmdkfhfkdcbpgaaZ26
import Derived.Test.YtmdkfhfkdcbpgaaZ5

namespace Go.Proofs.Ytmdkfhfkdcbpgaa.ReadIdx
open Go Go.RowKit Go.Proofs.Ytmdkfhfkdcbpgaa Go.Proofs.Ytmdkfhfkdcbpgaa.Mem Go.Proofs.Ytmdkfhfkdcbpgaa.Sha Go.Proofs.Ytmdkfhfkdcbpgaa.Bytes Go.Proofs.Ytmdkfhfkdcbpgaa.Append Go.Proofs.Ytmdkfhfkdcbpgaa.Octet Go.Proofs.Ytmdkfhfkdcbpgaa.TreeMath Go.Proofs.Ytmdkfhfkdcbpgaa.TreeMem Go.Proofs.Ytmdkfhfkdcbpgaa.TreeRoot Go.Proofs.Ytmdkfhfkdcbpgaa.Held Go.Proofs.Ytmdkfhfkdcbpgaa.Own Go.Proofs.Ytmdkfhfkdcbpgaa.Reader Go.Proofs.Ytmdkfhfkdcbpgaa.Reader4 Go.Proofs.Ytmdkfhfkdcbpgaa.ProofBeside Go.Proofs.Ytmdkfhfkdcbpgaa.ProofEnc Go.Proofs.Ytmdkfhfkdcbpgaa.ProofIdx Go.Proofs.Ytmdkfhfkdcbpgaa.ProofIdx2 Go.Proofs.Ytmdkfhfkdcbpgaa.ProofIdx3 Go.Proofs.Ytmdkfhfkdcbpgaa.StructEq Go.Proofs.Ytmdkfhfkdcbpgaa.IdxAny Go.Proofs.Ytmdkfhfkdcbpgaa.IdxEnc Go.Proofs.Ytmdkfhfkdcbpgaa.IdxRef0 Go.Proofs.Ytmdkfhfkdcbpgaa.IdxRef Go.Proofs.Ytmdkfhfkdcbpgaa.IdxRef2 Go.Proofs.Ytmdkfhfkdcbpgaa.IdxMem Go.Proofs.Ytmdkfhfkdcbpgaa.IdxDec Go.Proofs.Ytmdkfhfkdcbpgaa.Flag Go.Proofs.Ytmdkfhfkdcbpgaa.DecIncl Go.Proofs.Ytmdkfhfkdcbpgaa.Bytes17 Go.Proofs.Ytmdkfhfkdcbpgaa.Way17 Go.Proofs.Ytmdkfhfkdcbpgaa.Same17 Go.Proofs.Ytmdkfhfkdcbpgaa.Book Go.Proofs.Ytmdkfhfkdcbpgaa.Guard Go.Proofs.Ytmdkfhfkdcbpgaa.ReadIncl Go.Proofs.Ytmdkfhfkdcbpgaa.ReadIdx0 Go.Proofs.Ytmdkfhfkdcbpgaa.DecIdx Go.Proofs.Ytmdkfhfkdcbpgaa.DecIdx2

theorem num1 {q : Text} {m : Nat} (h : m + 1 ≤ q.length) : num ((q.drop m).take 1) = (q.getD m 0).toNat := by
  have e : (q.drop m).take 1 = [q.getD m 0] := by
    rw [List.getD_eq_getElem?_getD, List.getElem?_eq_getElem (show m < q.length by omega), List.drop_eq_getElem_cons (show m < q.length by omega)]
    rfl
  rw [e]
  simp [num]
theorem lg1 (r : Text) (h : r.length ≤ 1) : ∃ L : Nat, L < 256 ∧ lgInt (num r) = (L : Int) := by
  match r, h with
  | [], _ => exact ⟨0, by omega, lg_nil⟩
  | [a], _ =>
    have := a.isLt
    have e : num [a] = a.toNat := by simp [num]
    exact ⟨a.toNat, this, by rw [e]; exact lgInt_le (by omega)⟩
theorem set_cnt {s : ByteArray} {f : Bool} {cnt cnt' : Int} {ch d : Text} {A : Option Addr} {n c : Nat} : (idxCells s f (entC cnt ch) d A n c).toArray.setIfInBounds 2 (.int .i64 cnt') = (idxCells s f (entC cnt' ch) d A n c).toArray := by
  rw [List.setIfInBounds_toArray]
  rfl
theorem set_ch {s : ByteArray} {f : Bool} {cnt : Int} {ch ch' d : Text} {A : Option Addr} {n c : Nat} (h : ch.length = 32) (h' : ch'.length = 32) : (((idxCells s f (entC cnt ch) d A n c).toArray.toList.take 3 ++ (cells8 ch').toArray.toList ++ (idxCells s f (entC cnt ch) d A n c).toArray.toList.drop (3 + (cells8 ch').toArray.size)).toArray : Array Value) = (idxCells s f (entC cnt ch') d A n c).toArray := by
  have hz : (cells8 ch').toArray.size = 32 := by rw [List.size_toArray, cells8_len, h']
  rw [hz]
  congr 1
  have e : idxCells s f (entC cnt ch) d A n c = [Value.string s, Value.bool f, Value.int .i64 cnt] ++ cells8 ch ++ (cells8 d ++ [Value.slice A n c]) := by simp [idxCells, entC]
  have e' : idxCells s f (entC cnt ch') d A n c = [Value.string s, Value.bool f, Value.int .i64 cnt] ++ cells8 ch' ++ (cells8 d ++ [Value.slice A n c]) := by simp [idxCells, entC]
  show (idxCells s f (entC cnt ch) d A n c).take 3 ++ cells8 ch' ++ (idxCells s f (entC cnt ch) d A n c).drop (3 + 32) = _
  rw [e, e']
  have t1 : ([Value.string s, .bool f, .int .i64 cnt] ++ cells8 ch ++ (cells8 d ++ [Value.slice A n c])).take 3 = [.string s, .bool f, .int .i64 cnt] := by simp
  have t2 : ([Value.string s, .bool f, .int .i64 cnt] ++ cells8 ch ++ (cells8 d ++ [Value.slice A n c])).drop (3 + 32) = cells8 d ++ [Value.slice A n c] := by
    rw [List.drop_left' (by simp [cells8_len, h])]
  rw [t1, t2]
theorem fit3 {nm : ByteArray} {f : Bool} {cnt : Int} {ch d : Text} {A : Option Addr} {n c : Nat} (hd : d.length = 32) (hch : ch.length = 32) : 3 + 32 ≤ (idxCells nm f (entC cnt ch) d A n c).toArray.size := by
  simp [idxCells, entC, cells8_len, hd, hch]
theorem refidx17_any (s : ByteArray) (f : Bool) (cnt : Int) (ch : Text) (hch : ch.length = 32) (d : Text) (hd : d.length = 32) (l : List Text) (A : Option Addr) (n c : Nat) (w : World) (hr : RdD w A n l) :
    Calls Try.prog 9 #[.agg (idxCells s f (entC cnt ch) d A n c).toArray] w fun e w' => ∃ A4 c4 b, e = .returned (.slice A4 b.length c4) ∧ Reads w' 1 A4 b.length (cells8 b) ∧ (A4 = none → b.length = 0 ∧ c4 = 0) ∧ b.length ≤ c4 ∧ (idxWant s f cnt ch d l = some b ∨ (idxWant s f cnt ch d l = none ∧ A4 = none ∧ b = [])) ∧ Below w.heap.size w w' := by
  have hw : idxWant s f cnt ch d l = if okIx s f cnt ch d n = true then some (idxB s f cnt ch d l) else none := by unfold idxWant; rw [hr.1]
  cases hok : okIx s f cnt ch d n with
  | true =>
    refine (refidx_yes s f cnt ch hch d hd l A n c hok w hr).mono ?_
    rintro e w' ⟨v, rfl, ho, hb⟩
    obtain ⟨A4, c4, rfl, hc4, hn4, hr4, -⟩ := own_reads ho
    exact ⟨A4, c4, idxB s f cnt ch d l, rfl, hr4, hn4, hc4, .inl (by rw [hw, if_pos hok]), hb⟩
  | false =>
    refine (refidx_no s f cnt ch hch d hd A n c hok w).mono ?_
    rintro e w' ⟨rfl, hb⟩
    exact ⟨none, 0, [], rfl, Reads.nil_ _ _ _, fun _ => ⟨rfl, rfl⟩, Nat.le_refl _, .inr ⟨by rw [hw, if_neg (by rw [hok]; decide)], rfl, rfl⟩, hb⟩
theorem want_len {s : ByteArray} {f : Bool} {cnt : Int} {ch d : Text} {l : List Text} {b : Text} (hch : ch.length = 32) (hd : d.length = 32) (hl : Digs l) (hn : l.length ≤ 256) (h : idxWant s f cnt ch d l = some b) : b.length < 9223372036854775807 := by
  unfold idxWant at h
  split at h
  · rename_i hok
    have h64 := okIx_64 hok
    rw [← Option.some.inj h, idxB_len hch hd hl]
    split <;> omega
  · cases h
set_option maxRecDepth 100000 in
set_option maxHeartbeats 1000000 in
theorem read_long (q : Text) (k : Nat) (hk : q.length = k) (h9 : 9000 < k) (A : Option Addr) (c : Nat) (w : World) :
    Calls Try.prog 36 #[.slice A k c] w (APostX w (ixAns q)) := by
  rw [ixAns_long (by omega)]
  have y1 : (9000 : Int) < (k : Int) := by omega
  have hB1 : Hid (Blk (w.alloc (.cells zI 28)) w.heap.size 28 zI) := Blk.new w _ _
  have hb1 : Hid (Below w.heap.size w (w.alloc (.cells zI 28))) := Below.heap_below w _
  clear hk h9
  go_enter Try.func36, Try.ntmps36
  go_wp2_with ((with_reducible change wpList _ _ _ ({ dst := none, op := Op.store 28 _ _, type := _, pos := _, after := _, guard := _ } :: _) _ _); refine wpList_store_row (o := ⟨none, _, _, _, _, _⟩) rfl 28 (.tmp 2) (.tmp 9) rfl (w.heap.size) (zI) rfl rfl 28 (zI) hB1.out sizeX rfl oneX ?_)
  refine bodyPost_ret (results_cell_row2 rfl _ _ w.heap.size 28 zI (0, 0) _ rfl (setRow_heap _ _ _ _ _ _ hB1.out) Try.underlying28 rfl sizeX) rfl ?_
  exact zpostX rfl (below_setRow hb1.out (Nat.le_refl _) _)

set_option maxRecDepth 100000 in
set_option maxHeartbeats 4000000 in
theorem read_main (q : Text) (k : Nat) (hk : q.length = k) (h9 : ¬ 9000 < k) (A : Option Addr) (c : Nat) (hkc : k ≤ c) (w : World) (hr : Reads w 1 A k (cells8 q)) (hnil : A = none → k = 0 ∧ c = 0) :
    Calls Try.prog 36 #[.slice A k c] w (APostX w (ixAns q)) := by
  obtain ⟨X, hX⟩ : ∃ X, Hid (ixAns q = X) := ⟨_, Lib.hid rfl⟩
  rw [hX.out]
  have y1 : decide ((9000 : Int) < (k : Int)) = false := decide_eq_false (by omega)
  have y2 : ¬ ((9000 : Int) < (k : Int)) := by omega
  have hz1 : (w.alloc (.cells zI 28)).heap.size = w.heap.size + 1 := by simp
  have hRes2 : Hid (Blk ((w.alloc (.cells zI 28)).alloc (.cells #[.slice A k c, .bool false] 108)) w.heap.size 28 zI) := (Blk.new w _ _).alloc _
  have hb2 : Hid (Below w.heap.size w ((w.alloc (.cells zI 28)).alloc (.cells #[.slice A k c, .bool false] 108))) := (Below.heap_below w _).alloc (by simp) _
  have hz2 : Hid (((w.alloc (.cells zI 28)).alloc (.cells #[.slice A k c, .bool false] 108)).heap.size = w.heap.size + 2) := by show _ = _; simp
  have hQ2 : Hid (RQ ((w.alloc (.cells zI 28)).alloc (.cells #[.slice A k c, .bool false] 108)) (w.heap.size + 1) w.heap.size q 0) := by
    refine ⟨q, false, ⟨Nat.le_succ _, A, c, ?_, by rw [hk]; exact (hr.alloc _).alloc _, by rw [hk]; exact hnil, fun h0 a e => ?_, by rw [hk]; exact hkc⟩, fun _ => ⟨rfl, rfl⟩, fun h => absurd h (Nat.not_lt_zero _), Nat.le_refl _⟩
    · rw [hk, ← hz1]; exact Blk.new _ _ _
    · obtain ⟨b, o, e', hlt, -⟩ := hr.2 (by omega)
      rw [e] at e'
      obtain rfl := Option.some.inj e'
      exact hlt
  have hq47 : Hid (q.length < 140737488355328) := by show _ < _; omega
  have hqk : Hid (¬ 9000 < q.length) := by show ¬ _; omega
  have hkk := Lib.hid hk
  have hrr := Lib.hid hr
  clear hk h9 hkc hr hnil hz1
  go_enter Try.func36, Try.ntmps36
  go_wp2_with fail
  refine (next_rq q hq47.out (w.heap.size + 1) w.heap.size 0 1 (by decide) _ hQ2.out).mono ?_
  rintro e w3 ⟨A1, c1, r1, rfl, -, -, -, -, hRQ3, hk3, hz3⟩
  have hRes3 : Hid (Blk w3 w.heap.size 28 zI) := hRes2.out.kept hk3 (by omega)
  have hb3 : Hid (Below w.heap.size w w3) := hb2.out.trans (Kept.below_of hk3 (by omega) (by have := hz2.out; omega))
  have hgp : Hid (w3.heap.size = w.heap.size + 2) := hz3.trans hz2.out
  have hRQ4 : Hid (RQ (w3.alloc (.cells zI 28)) (w.heap.size + 1) w.heap.size q 1) := RQ.kept (S := fun _ => False) hRQ3 ((Kept.refl _ w3).alloc _) (fun h => h) (fun _ _ h => h)
  have hRes4 : Hid (Blk (w3.alloc (.cells zI 28)) w.heap.size 28 zI) := hRes3.out.alloc _
  have hP4 : Hid (Blk (w3.alloc (.cells zI 28)) w3.heap.size 28 zI) := Blk.new w3 _ _
  have hb4 : Hid (Below w.heap.size w (w3.alloc (.cells zI 28))) := hb3.out.alloc hb3.out.size _
  clear hk3 hz3 hRQ3 hRes3 hb3 hRes2 hb2 hz2 hQ2
  go_wp2_with fail
  refine (number_rq q hq47.out (w.heap.size + 1) w.heap.size 1 1 (by decide) _ hRQ4.out).mono ?_
  rintro e w5 ⟨x, rfl, hx1, ⟨r, hr1, hxr⟩, hRQ5, hk5, hz5⟩
  obtain ⟨L, hL, hxL⟩ := lg1 r hr1
  rw [← hxr] at hxL
  subst hxL
  have hP5 : Hid (Blk w5 w3.heap.size 28 zI) := hP4.out.kept hk5 (by have := hgp.out; omega)
  have hRes5 : Hid (Blk w5 w.heap.size 28 zI) := hRes4.out.kept hk5 (by omega)
  have hb5 : Hid (Below w.heap.size w w5) := hb4.out.trans (Kept.below_of hk5 (by omega) hb4.out.size)
  have hL1 : Hid (2 ≤ q.length → L = (q.getD 1 0).toNat) := fun h => by
    have e := hx1 h
    rw [num1 h, lgInt_le (by have := (q.getD 1 0).isLt; omega)] at e
    omega
  generalize w3.heap.size = gp at *
  replace hL := Lib.hid hL
  replace hRQ5 : Hid (RQ w5 (w.heap.size + 1) w.heap.size q 2) := hRQ5
  clear hx1 hxr hr1 hk5 hz5 hP4 hRes4 hb4 hRQ4
  go_wp2_with fail
  refine (next_rq q hq47.out (w.heap.size + 1) w.heap.size 2 L (by have := hL.out; omega) _ hRQ5.out).mono ?_
  rintro e w6 ⟨A6, c6, p, rfl, hrd6, hpl, hp1, hp2, hRQ6, hk6, hz6⟩
  have hP6 : Hid (Blk w6 gp 28 zI) := hP5.out.kept hk6 (by have := hgp.out; omega)
  have hRes6 : Hid (Blk w6 w.heap.size 28 zI) := hRes5.out.kept hk6 (by omega)
  have hb6 : Hid (Below w.heap.size w w6) := hb5.out.trans (Kept.below_of hk6 (by omega) hb5.out.size)
  have hcv := Lib.hid (convAny p A6 c6 w6 hrd6)
  have cc6 : w6.cell? ⟨gp, 0, none⟩ = some (.string ByteArray.empty) := hP6.out.cell 0
  have ff6 := hP6.out.frozen 0
  replace hRQ6 := Lib.hid hRQ6
  replace hp1 := Lib.hid hp1
  replace hp2 := Lib.hid hp2
  replace hpl := Lib.hid hpl
  clear hrd6 hk6 hz6 hP5 hRes5 hb5 hRQ5
  go_wp2_with ((with_reducible change wpList _ _ _ ({ dst := some 19, op := _, type := _, pos := _, after := _, guard := _ } :: _) _ _); refine wpList_conv (o := ⟨some 19, _, _, _, _, _⟩) rfl 29 9 (.tmp 18) rfl _ _ rfl hcv.out ?_)
  have hk7 : Kept (· = gp) w6 (w6.setCell ⟨gp, 0, none⟩ (.string (strT p))) := (Kept.refl (· = gp) w6).setCell (.inl rfl) _
  have hP7 : Hid (Blk (w6.setCell ⟨gp, 0, none⟩ (.string (strT p))) gp 28 (idxCells (strT p) false (entC 0 (List.replicate 32 0)) (List.replicate 32 0) none 0 0).toArray) := by
    have := hP6.out.set_ 0 (.string (strT p))
    rw [zI_eq, set_name] at this
    exact this
  have hRes7 : Hid (Blk (w6.setCell ⟨gp, 0, none⟩ (.string (strT p))) w.heap.size 28 zI) := hRes6.out.kept hk7 (by have := hgp.out; omega)
  have hb7 : Hid (Below w.heap.size w (w6.setCell ⟨gp, 0, none⟩ (.string (strT p)))) := hb6.out.trans (Kept.below_of hk7 (by have := hgp.out; omega) hb6.out.size)
  have hRQ7 : Hid (RQ (w6.setCell ⟨gp, 0, none⟩ (.string (strT p))) (w.heap.size + 1) w.heap.size q (2 + L)) := hRQ6.out.kept hk7 (by have := hgp.out; omega) (fun a ha h => by have := hgp.out; omega)
  generalize w6.setCell ⟨gp, 0, none⟩ (.string (strT p)) = w7 at *
  clear hk7 hP6 hRes6 hb6 hRQ6 cc6 ff6 hcv
  refine (number_rq q hq47.out (w.heap.size + 1) w.heap.size (2 + L) 1 (by decide) _ hRQ7.out).mono ?_
  rintro e w8 ⟨x2, rfl, hx2, -, hRQ8, hk8, hz8⟩
  have hP8 : Hid (Blk w8 gp 28 (idxCells (strT p) false (entC 0 (List.replicate 32 0)) (List.replicate 32 0) none 0 0).toArray) := hP7.out.kept hk8 (by have := hgp.out; omega)
  have hRes8 : Hid (Blk w8 w.heap.size 28 zI) := hRes7.out.kept hk8 (by omega)
  have hb8 : Hid (Below w.heap.size w w8) := hb7.out.trans (Kept.below_of hk8 (by omega) hb7.out.size)
  have hF1 : Hid (3 + L ≤ q.length → (x2 == 1) = (b8 (q.getD (2 + L) 0) == 1)) := fun h => by
    have e := hx2 (by omega)
    rw [num1 (by omega), lgInt_le (by have := (q.getD (2 + L) 0).isLt; omega)] at e
    rw [e]
    rfl
  obtain ⟨fb, hfb⟩ : ∃ fb, (x2 == 1) = fb := ⟨_, rfl⟩
  rw [hfb] at hF1
  replace hRQ8 := Lib.hid hRQ8
  clear hx2 hk8 hz8 hP7 hRes7 hb7 hRQ7
  have c8 : w8.cell? ⟨gp, 1, none⟩ = some (.bool false) := hP8.out.cell 1
  have f8 := hP8.out.frozen 1
  have hk9 : Kept (· = gp) w8 (w8.setCell ⟨gp, 1, none⟩ (.bool fb)) := (Kept.refl (· = gp) w8).setCell (.inl rfl) _
  have hP9 : Hid (Blk (w8.setCell ⟨gp, 1, none⟩ (.bool fb)) gp 28 (idxCells (strT p) fb (entC 0 (List.replicate 32 0)) (List.replicate 32 0) none 0 0).toArray) := by
    have := hP8.out.set_ 1 (.bool fb)
    rw [set_found] at this
    exact this
  have c9 : (w8.setCell ⟨gp, 1, none⟩ (.bool fb)).cell? ⟨gp, 1, none⟩ = some (.bool fb) := hP9.out.cell 1
  have hRes9 : Hid (Blk (w8.setCell ⟨gp, 1, none⟩ (.bool fb)) w.heap.size 28 zI) := hRes8.out.kept hk9 (by have := hgp.out; omega)
  have hb9 : Hid (Below w.heap.size w (w8.setCell ⟨gp, 1, none⟩ (.bool fb))) := hb8.out.trans (Kept.below_of hk9 (by have := hgp.out; omega) hb8.out.size)
  have hRQ9 : Hid (RQ (w8.setCell ⟨gp, 1, none⟩ (.bool fb)) (w.heap.size + 1) w.heap.size q (2 + L + 1)) := hRQ8.out.kept hk9 (by have := hgp.out; omega) (fun a ha h => by have := hgp.out; omega)
  clear hk9 hP8 hRes8 hb8 hRQ8
  cases fb with
  | false =>
    go_wp2_with fail
    clear c8 f8 c9 hfb
    generalize w8.setCell ⟨gp, 1, none⟩ (.bool false) = w13 at *
    refine (digest_rq q hq47.out (w.heap.size + 1) w.heap.size (2 + L + 1) _ hRQ9.out).mono ?_
    rintro e w14 ⟨d, rfl, hdl, hdd, hRQ14, hk14⟩
    have hP14 : Hid (Blk w14 gp 28 (idxCells (strT p) false (entC 0 (List.replicate 32 0)) (List.replicate 32 0) none 0 0).toArray) := hP9.out.kept hk14 (by have := hgp.out; omega)
    have hRes14 : Hid (Blk w14 w.heap.size 28 zI) := hRes9.out.kept hk14 (by omega)
    have hb14 : Hid (Below w.heap.size w w14) := hb9.out.trans (Kept.below_of hk14 (by omega) hb9.out.size)
    have zd2 : (cells8 d).toArray.size = 32 := by rw [List.size_toArray, cells8_len, hdl]
    have zd1 : (cells8 d).length = 32 := by rw [cells8_len, hdl]
    have hdall : Hid (((cells8 d).toArray.all fun v => v.oneCell') = true) := by
      show _ = _
      rw [List.all_toArray]
      exact List.all_eq_true.2 fun v hv => cells8_one v hv
    have hdsz : Hid ((Try.prog.info? 23).map (·.size) = some (cells8 d).toArray.size) := by show _ = _; rw [zd2]; exact size31
    replace hdl := Lib.hid hdl
    replace hdd := Lib.hid hdd
    replace hRQ14 := Lib.hid hRQ14
    clear hk14 hP9 hRes9 hb9 hRQ9
    go_wp2_with ((with_reducible change wpList _ _ _ ({ dst := none, op := Op.store 23 _ _, type := _, pos := _, after := _, guard := _ } :: _) _ _); refine unhid ?_)
    refine Lib.hid ?_
    with_reducible change wpList _ _ _ ({ dst := none, op := Op.store 23 _ _, type := _, pos := _, after := _, guard := _ } :: _) _ _
    refine wpList_store_part (o := ⟨none, _, _, _, _, _⟩) rfl 23 (.tmp 37) (.tmp 36) rfl gp 35 (cells8 d).toArray rfl rfl 28 (idxCells (strT p) false (entC 0 (List.replicate 32 0)) (List.replicate 32 0) none 0 0).toArray hP14.out hdsz.out (by rw [zd2]; exact fit32 (entC_len (by rfl)) (by rfl)) hdall.out ?_
    rw [set_bm (entC_len (by rfl)) (by rfl) hdl.out]
    have hk15 : Kept (· = gp) w14 (w14.setRow gp (idxCells (strT p) false (entC 0 (List.replicate 32 0)) d none 0 0).toArray) := Bytes.Kept.setRow (S := (· = gp)) (Kept.refl _ _) rfl _
    have hP15 : Hid (Blk (w14.setRow gp (idxCells (strT p) false (entC 0 (List.replicate 32 0)) d none 0 0).toArray) gp 28 (idxCells (strT p) false (entC 0 (List.replicate 32 0)) d none 0 0).toArray) := setRow_heap _ _ _ _ _ _ hP14.out
    have hRes15 : Hid (Blk (w14.setRow gp (idxCells (strT p) false (entC 0 (List.replicate 32 0)) d none 0 0).toArray) w.heap.size 28 zI) := hRes14.out.kept hk15 (by have := hgp.out; omega)
    have hb15 : Hid (Below w.heap.size w (w14.setRow gp (idxCells (strT p) false (entC 0 (List.replicate 32 0)) d none 0 0).toArray)) := hb14.out.trans (Kept.below_of hk15 (by have := hgp.out; omega) hb14.out.size)
    have hRQ15 : Hid (RQ (w14.setRow gp (idxCells (strT p) false (entC 0 (List.replicate 32 0)) d none 0 0).toArray) (w.heap.size + 1) w.heap.size q (2 + L + 1 + 32)) := hRQ14.out.kept hk15 (by have := hgp.out; omega) (fun a ha h => by have := hgp.out; omega)
    generalize w14.setRow gp (idxCells (strT p) false (entC 0 (List.replicate 32 0)) d none 0 0).toArray = w15 at *
    clear hk15 hP14 hRes14 hb14 hRQ14 hdall hdsz
    go_wp2_with ((with_reducible change wpList _ _ _ ({ dst := some 40, op := _, type := _, pos := _, after := _, guard := _ } :: _) _ _); refine wpList_load_part (o := ⟨some 40, _, _, _, _, _⟩) rfl 23 (.tmp 39) rfl gp 35 rfl (cells8 d) _ (fun j v h => by rw [hP15.out.cell (35 + j), List.getElem?_toArray]; exact idx_bitmap (entC_len (by rfl)) j v h) Try.underlying23 rfl (by rw [zd1]; exact size31) ?_)
    refine (ones17_any d hdl.out w15).mono ?_
    rintro e w16 ⟨rfl, hk16⟩
    have hP16 : Hid (Blk w16 gp 28 (idxCells (strT p) false (entC 0 (List.replicate 32 0)) d none 0 0).toArray) := (hk16.block _ hP15.out.lt).trans hP15.out
    have hRes16 : Hid (Blk w16 w.heap.size 28 zI) := (hk16.block _ hRes15.out.lt).trans hRes15.out
    have hb16 : Hid (Below w.heap.size w w16) := hb15.out.trans (hk16.mono hb15.out.size)
    have hRQ16 : Hid (RQ w16 (w.heap.size + 1) w.heap.size q (2 + L + 1 + 32)) := by
      obtain ⟨p', s', r1, r2⟩ := hRQ15.out
      exact ⟨p', s', r1.below hk16, r2⟩
    clear hk16 hP15 hRes15 hb15 hRQ15 zd2
    obtain ⟨n, hn⟩ : ∃ n, Hid (onesOf d = n) := ⟨_, Lib.hid rfl⟩
    have hn256 : Hid (n ≤ 256) := by have := onesOf_le d; have h1 := hn.out; have h2 := hdl.out; show _ ≤ _; omega
    rw [hn.out]
    go_wp2_with fail
    refine (way_rq q hq47.out (w.heap.size + 1) w.heap.size (2 + L + 1 + 32) n (by have := hn256.out; omega) _ hRQ16.out).mono ?_
    rintro e w17 ⟨l, A3, c3, rfl, hl17, hn17, hc17, hlN, hlf, hnew, hk17⟩
    have hGot : Hid (Got q L p false 0 (List.replicate 32 0) d l) := ⟨hL1.out, fun _ h => hp1.out h, fun h1 h2 => hp2.out h1 h2, hF1.out, (fun h => by cases h), (fun h => by cases h), fun _ => rfl, fun _ => rfl, fun h => by rw [hdd.out (by simp at h; omega)]; congr 2; simp; omega, fun h => by rw [hn.out] at h ⊢; rw [hlf (by simp at h; omega)]; congr 2; simp; omega, (by rfl), hdl.out, hl17.2.1⟩
    have hP17 : Hid (Blk w17 gp 28 (idxCells (strT p) false (entC 0 (List.replicate 32 0)) d none 0 0).toArray) := hP16.out.kept hk17 (by have := hgp.out; omega)
    have hRes17 : Hid (Blk w17 w.heap.size 28 zI) := hRes16.out.kept hk17 (by omega)
    have hb17 : Hid (Below w.heap.size w w17) := hb16.out.trans (Kept.below_of hk17 (by omega) hb16.out.size)
    have hnewg : Hid (∀ a, A3 = some a → gp < a.block) := fun a e => Nat.lt_of_lt_of_le hP16.out.lt (hnew a e)
    have c17 : w17.cell? ⟨gp, 67, none⟩ = some (.slice none 0 0) := by rw [hP17.out.cell 67, List.getElem?_toArray]; exact idx_way (entC_len (by rfl)) hdl.out
    have f17 := hP17.out.frozen 67
    have hk18 : Kept (· = gp) w17 (w17.setCell ⟨gp, 67, none⟩ (.slice A3 l.length c3)) := (Kept.refl (· = gp) w17).setCell (.inl rfl) _
    have hP18 : Hid (Blk (w17.setCell ⟨gp, 67, none⟩ (.slice A3 l.length c3)) gp 28 (idxCells (strT p) false (entC 0 (List.replicate 32 0)) d A3 l.length c3).toArray) := by
      have := hP17.out.set_ 67 (.slice A3 l.length c3)
      rw [set_way (entC_len (by rfl)) hdl.out] at this
      exact this
    have hRes18 : Hid (Blk (w17.setCell ⟨gp, 67, none⟩ (.slice A3 l.length c3)) w.heap.size 28 zI) := hRes17.out.kept hk18 (by have := hgp.out; omega)
    have hb18 : Hid (Below w.heap.size w (w17.setCell ⟨gp, 67, none⟩ (.slice A3 l.length c3))) := hb17.out.trans (Kept.below_of hk18 (by have := hgp.out; omega) hb17.out.size)
    have hl18 : Hid (RdD (w17.setCell ⟨gp, 67, none⟩ (.slice A3 l.length c3)) A3 l.length l) := ⟨rfl, hl17.2.1, hl17.2.2.kept hk18 (fun b o e h => by have h3 := hnewg.out _ e; have h : b = gp := h; have h3 : gp < b := h3; omega)⟩
    have hl256 : Hid (l.length ≤ 256) := by have := hn256.out; show _ ≤ _; omega
    replace hn17 := Lib.hid hn17
    replace hc17 := Lib.hid hc17
    clear hl17 hlN hlf hnew hk17 hk18 hP17 hRes17 hb17 hP16 hRes16 hb16 hRQ16
    by_cases hk0 : k = 0
    · have hXX : X = zAns 8 := by
        rw [← hX.out]
        exact ixAns_no hqk.out (fun h => by have h1 := h.2.2.1; have h2 := hkk.out; omega)
      have y3 : ((k : Int) == 0) = true := by rw [hk0]; rfl
      clear hk0
      go_wp2_with ((with_reducible change wpList _ _ _ ({ dst := none, op := Op.store 28 _ _, type := _, pos := _, after := _, guard := _ } :: _) _ _); refine wpList_store_row (o := ⟨none, _, _, _, _, _⟩) rfl 28 (.tmp 2) (.tmp 54) rfl (w.heap.size) (zI) rfl rfl 28 (zI) hRes18.out sizeX rfl oneX ?_)
      refine bodyPost_ret (results_cell_row2 rfl _ _ w.heap.size 28 zI (0, 0) _ rfl (setRow_heap _ _ _ _ _ _ hRes18.out) Try.underlying28 rfl sizeX) rfl ?_
      rw [hXX]
      exact zpostX rfl (below_setRow hb18.out (Nat.le_refl _) _)
    · have y3 : ((k : Int) == 0) = false := beq_eq_false_iff_ne.2 (by omega)
      have hkn : Hid (k ≠ 0) := hk0
      clear hk0
      have hI := Lib.hid (fun w' (h : RdD w' A3 l.length l) => refidx17_any (strT p) false 0 (List.replicate 32 0) (by rfl) d hdl.out l A3 l.length c3 w' h)
      go_wp2_with ((with_reducible change wpList _ _ _ ({ dst := some 48, op := _, type := _, pos := _, after := _, guard := _ } :: _) _ _); refine wpList_load_rowG (o := ⟨some 48, _, _, _, _, _⟩) rfl 28 (.tmp 5) rfl (gp) rfl 28 ((idxCells (strT p) false (entC 0 (List.replicate 32 0)) d A3 l.length c3).toArray) (0, 0) _ hP18.out Try.underlying28 rfl (size_idx (by rfl) hdl.out) ?_)
      clear c17 f17
      generalize w17.setCell ⟨gp, 67, none⟩ (.slice A3 l.length c3) = w18 at *
      refine (hI.out _ hl18.out).mono ?_
      rintro e w19 ⟨A4, c4, b, rfl, hb19r, -, -, hwant, hbl19⟩
      have hP19 : Hid (Blk w19 gp 28 (idxCells (strT p) false (entC 0 (List.replicate 32 0)) d A3 l.length c3).toArray) := (hbl19.block _ hP18.out.lt).trans hP18.out
      have hRes19 : Hid (Blk w19 w.heap.size 28 zI) := (hbl19.block _ hRes18.out.lt).trans hRes18.out
      have hl19 : Hid (RdD w19 A3 l.length l) := hl18.out.below hbl19
      have hb19 : Hid (Below w.heap.size w w19) := hb18.out.trans (hbl19.mono hb18.out.size)
      have hb47 : b.length < 9223372036854775807 := by
        rcases hwant with h | ⟨-, -, rfl⟩
        · exact want_len (by rfl) hdl.out hl19.out.2.1 hl256.out h
        · simp
      have hS := Lib.hid (same17_any b q b.length k rfl hkk.out hb47 A4 A c4 c w19 hb19r (hrr.out.below hb19.out))
      replace hwant := Lib.hid hwant
      clear hb19r hbl19 hb47 hP18 hRes18 hl18 hb18 hI
      by_cases hbq : b = q
      · have hwq : idxWant (strT p) false 0 (List.replicate 32 0) d l = some q := by
          rcases hwant.out with h | ⟨-, -, h⟩
          · rw [h, hbq]
          · have hq0 : q = [] := by rw [← hbq, h]
            have h1 := hkk.out
            rw [hq0] at h1
            exact absurd h1.symm hkn.out
        have hXX : X = (strT p, false, 0, (List.replicate 32 0), d, l, 0) := by
          rw [← hX.out]
          exact read_ok hqk.out hGot.out hwq
        rw [decide_eq_true hbq] at hS
        clear hbq hwq
        go_wp2_with fail
        refine hS.out.mono ?_
        rintro e w20 ⟨rfl, m, rfl⟩
        have hP20 : Hid (Blk (w19.drewN m) gp 28 (idxCells (strT p) false (entC 0 (List.replicate 32 0)) d A3 l.length c3).toArray) := hP19.out.drewN m
        have hRes20 : Hid (Blk (w19.drewN m) w.heap.size 28 zI) := hRes19.out.drewN m
        have hb20 : Hid (Below w.heap.size w (w19.drewN m)) := below_drawn hb19.out m
        have hl20 : Hid (RdD (w19.drewN m) A3 l.length l) := hl19.out.drewN m
        clear hP19 hRes19 hb19 hl19 hS
        go_wp2_with (first
          | ((with_reducible change wpList _ _ _ ({ dst := some 55, op := _, type := _, pos := _, after := _, guard := _ } :: _) _ _); refine wpList_load_row (o := ⟨some 55, _, _, _, _, _⟩) rfl 28 (.tmp 5) rfl (gp) rfl 28 ((idxCells (strT p) false (entC 0 (List.replicate 32 0)) d A3 l.length c3).toArray) (0, 0) _ hP20.out Try.underlying28 rfl (size_idx (by rfl) hdl.out) ?_)
          | ((with_reducible change wpList _ _ _ ({ dst := none, op := Op.store 28 _ _, type := _, pos := _, after := _, guard := _ } :: _) _ _); refine wpList_store_row (o := ⟨none, _, _, _, _, _⟩) rfl 28 (.tmp 2) (.tmp 55) rfl (w.heap.size) ((idxCells (strT p) false (entC 0 (List.replicate 32 0)) d A3 l.length c3).toArray) rfl rfl 28 (zI) hRes20.out (size_idx (by rfl) hdl.out) (eq_idx (by rfl) hdl.out) one_idx ?_))
        refine bodyPost_ret (results_cell_row2 rfl _ _ w.heap.size 28 (idxCells (strT p) false (entC 0 (List.replicate 32 0)) d A3 l.length c3).toArray (0, 0) _ rfl (setRow_heap _ _ _ _ _ _ hRes20.out) Try.underlying28 rfl (size_idx (by rfl) hdl.out)) rfl ?_
        rw [hXX]
        exact ⟨A3, l.length, c3, rfl, ⟨rfl, hl20.out.2.1, hl20.out.2.2.kept (Bytes.Kept.setRow (S := (· = w.heap.size)) (Kept.refl _ _) rfl _) (fun b o e h => by have h3 := hnewg.out _ e; have h1 := hgp.out; have h : b = w.heap.size := h; have h3 : gp < b := h3; omega)⟩, hn17.out, hc17.out, hl256.out, below_setRow hb20.out (Nat.le_refl _) _⟩
      · have hwq : idxWant (strT p) false 0 (List.replicate 32 0) d l ≠ some q := fun e => by
          rcases hwant.out with h | ⟨h, -, -⟩
          · rw [h] at e; exact hbq (Option.some.inj e)
          · rw [h] at e; cases e
        have hXX : X = zAns 8 := by
          rw [← hX.out]
          exact read_no hqk.out hGot.out hwq
        rw [decide_eq_false hbq] at hS
        clear hbq hwq
        go_wp2_with fail
        refine hS.out.mono ?_
        rintro e w20 ⟨rfl, m, rfl⟩
        have hRes20 : Hid (Blk (w19.drewN m) w.heap.size 28 zI) := hRes19.out.drewN m
        have hb20 : Hid (Below w.heap.size w (w19.drewN m)) := below_drawn hb19.out m
        clear hP19 hRes19 hb19 hl19 hS
        go_wp2_with ((with_reducible change wpList _ _ _ ({ dst := none, op := Op.store 28 _ _, type := _, pos := _, after := _, guard := _ } :: _) _ _); refine wpList_store_row (o := ⟨none, _, _, _, _, _⟩) rfl 28 (.tmp 2) (.tmp 54) rfl (w.heap.size) (zI) rfl rfl 28 (zI) hRes20.out sizeX rfl oneX ?_)
        refine bodyPost_ret (results_cell_row2 rfl _ _ w.heap.size 28 zI (0, 0) _ rfl (setRow_heap _ _ _ _ _ _ hRes20.out) Try.underlying28 rfl sizeX) rfl ?_
        rw [hXX]
        exact zpostX rfl (below_setRow hb20.out (Nat.le_refl _) _)
  | true =>
    go_wp2_with fail
    clear c8 f8 c9 hfb
    generalize w8.setCell ⟨gp, 1, none⟩ (.bool true) = w9 at *
    refine (number_rq q hq47.out (w.heap.size + 1) w.heap.size (2 + L + 1) 8 (by decide) _ hRQ9.out).mono ?_
    rintro e w10 ⟨xn, rfl, hxn, -, hRQ10, hk10, hz10⟩
    have hP10 : Hid (Blk w10 gp 28 (idxCells (strT p) true (entC 0 (List.replicate 32 0)) (List.replicate 32 0) none 0 0).toArray) := hP9.out.kept hk10 (by have := hgp.out; omega)
    have hRes10 : Hid (Blk w10 w.heap.size 28 zI) := hRes9.out.kept hk10 (by omega)
    have hb10 : Hid (Below w.heap.size w w10) := hb9.out.trans (Kept.below_of hk10 (by omega) hb9.out.size)
    have c10 : w10.cell? ⟨gp, 2, none⟩ = some (.int .i64 0) := hP10.out.cell 2
    have f10 := hP10.out.frozen 2
    have hk11 : Kept (· = gp) w10 (w10.setCell ⟨gp, 2, none⟩ (.int .i64 xn)) := (Kept.refl (· = gp) w10).setCell (.inl rfl) _
    have hP11 : Hid (Blk (w10.setCell ⟨gp, 2, none⟩ (.int .i64 xn)) gp 28 (idxCells (strT p) true (entC xn (List.replicate 32 0)) (List.replicate 32 0) none 0 0).toArray) := by
      have := hP10.out.set_ 2 (.int .i64 xn)
      rw [set_cnt] at this
      exact this
    have hRes11 : Hid (Blk (w10.setCell ⟨gp, 2, none⟩ (.int .i64 xn)) w.heap.size 28 zI) := hRes10.out.kept hk11 (by have := hgp.out; omega)
    have hb11 : Hid (Below w.heap.size w (w10.setCell ⟨gp, 2, none⟩ (.int .i64 xn))) := hb10.out.trans (Kept.below_of hk11 (by have := hgp.out; omega) hb10.out.size)
    have hRQ11 : Hid (RQ (w10.setCell ⟨gp, 2, none⟩ (.int .i64 xn)) (w.heap.size + 1) w.heap.size q (2 + L + 1 + 8)) := RQ.kept hRQ10 hk11 (by have := hgp.out; omega) (fun a ha h => by have := hgp.out; omega)
    replace hxn := Lib.hid hxn
    clear hk10 hz10 hk11 hP10 hRes10 hb10 hRQ10 hP9 hRes9 hb9 hRQ9
    go_wp2_with fail
    clear c10 f10
    generalize w10.setCell ⟨gp, 2, none⟩ (.int .i64 xn) = w11 at *
    refine (digest_rq q hq47.out (w.heap.size + 1) w.heap.size (2 + L + 1 + 8) _ hRQ11.out).mono ?_
    rintro e w12 ⟨ch, rfl, hchl, hch, hRQ12, hk12⟩
    have hP12 : Hid (Blk w12 gp 28 (idxCells (strT p) true (entC xn (List.replicate 32 0)) (List.replicate 32 0) none 0 0).toArray) := hP11.out.kept hk12 (by have := hgp.out; omega)
    have hRes12 : Hid (Blk w12 w.heap.size 28 zI) := hRes11.out.kept hk12 (by omega)
    have hb12 : Hid (Below w.heap.size w w12) := hb11.out.trans (Kept.below_of hk12 (by omega) hb11.out.size)
    have zd2 : (cells8 ch).toArray.size = 32 := by rw [List.size_toArray, cells8_len, hchl]
    have zd1 : (cells8 ch).length = 32 := by rw [cells8_len, hchl]
    have hdall : Hid (((cells8 ch).toArray.all fun v => v.oneCell') = true) := by
      show _ = _
      rw [List.all_toArray]
      exact List.all_eq_true.2 fun v hv => cells8_one v hv
    have hdsz : Hid ((Try.prog.info? 23).map (·.size) = some (cells8 ch).toArray.size) := by show _ = _; rw [zd2]; exact size31
    replace hchl := Lib.hid hchl
    replace hch := Lib.hid hch
    replace hRQ12 := Lib.hid hRQ12
    clear hk12 hP11 hRes11 hb11 hRQ11
    go_wp2_with ((with_reducible change wpList _ _ _ ({ dst := none, op := Op.store 23 _ _, type := _, pos := _, after := _, guard := _ } :: _) _ _); refine unhid ?_)
    refine Lib.hid ?_
    with_reducible change wpList _ _ _ ({ dst := none, op := Op.store 23 _ _, type := _, pos := _, after := _, guard := _ } :: _) _ _
    refine wpList_store_part (o := ⟨none, _, _, _, _, _⟩) rfl 23 (.tmp 34) (.tmp 32) rfl gp 3 (cells8 ch).toArray rfl rfl 28 (idxCells (strT p) true (entC xn (List.replicate 32 0)) (List.replicate 32 0) none 0 0).toArray hP12.out hdsz.out (by rw [zd2]; exact fit3 (by rfl) (by rfl)) hdall.out ?_
    rw [set_ch (by rfl) hchl.out]
    have hk13 : Kept (· = gp) w12 (w12.setRow gp (idxCells (strT p) true (entC xn ch) (List.replicate 32 0) none 0 0).toArray) := Bytes.Kept.setRow (S := (· = gp)) (Kept.refl _ _) rfl _
    have hP9 : Hid (Blk (w12.setRow gp (idxCells (strT p) true (entC xn ch) (List.replicate 32 0) none 0 0).toArray) gp 28 (idxCells (strT p) true (entC xn ch) (List.replicate 32 0) none 0 0).toArray) := setRow_heap _ _ _ _ _ _ hP12.out
    have hRes9 : Hid (Blk (w12.setRow gp (idxCells (strT p) true (entC xn ch) (List.replicate 32 0) none 0 0).toArray) w.heap.size 28 zI) := hRes12.out.kept hk13 (by have := hgp.out; omega)
    have hb9 : Hid (Below w.heap.size w (w12.setRow gp (idxCells (strT p) true (entC xn ch) (List.replicate 32 0) none 0 0).toArray)) := hb12.out.trans (Kept.below_of hk13 (by have := hgp.out; omega) hb12.out.size)
    have hRQ9 : Hid (RQ (w12.setRow gp (idxCells (strT p) true (entC xn ch) (List.replicate 32 0) none 0 0).toArray) (w.heap.size + 1) w.heap.size q (2 + L + 1 + 8 + 32)) := hRQ12.out.kept hk13 (by have := hgp.out; omega) (fun a ha h => by have := hgp.out; omega)
    generalize w12.setRow gp (idxCells (strT p) true (entC xn ch) (List.replicate 32 0) none 0 0).toArray = w13 at *
    clear hk13 hP12 hRes12 hb12 hRQ12 hdall hdsz zd1 zd2
    go_wp2_with fail
    refine (digest_rq q hq47.out (w.heap.size + 1) w.heap.size (2 + L + 1 + 8 + 32) _ hRQ9.out).mono ?_
    rintro e w14 ⟨d, rfl, hdl, hdd, hRQ14, hk14⟩
    have hP14 : Hid (Blk w14 gp 28 (idxCells (strT p) true (entC xn ch) (List.replicate 32 0) none 0 0).toArray) := hP9.out.kept hk14 (by have := hgp.out; omega)
    have hRes14 : Hid (Blk w14 w.heap.size 28 zI) := hRes9.out.kept hk14 (by omega)
    have hb14 : Hid (Below w.heap.size w w14) := hb9.out.trans (Kept.below_of hk14 (by omega) hb9.out.size)
    have zd2 : (cells8 d).toArray.size = 32 := by rw [List.size_toArray, cells8_len, hdl]
    have zd1 : (cells8 d).length = 32 := by rw [cells8_len, hdl]
    have hdall : Hid (((cells8 d).toArray.all fun v => v.oneCell') = true) := by
      show _ = _
      rw [List.all_toArray]
      exact List.all_eq_true.2 fun v hv => cells8_one v hv
    have hdsz : Hid ((Try.prog.info? 23).map (·.size) = some (cells8 d).toArray.size) := by show _ = _; rw [zd2]; exact size31
    replace hdl := Lib.hid hdl
    replace hdd := Lib.hid hdd
    replace hRQ14 := Lib.hid hRQ14
    clear hk14 hP9 hRes9 hb9 hRQ9
    go_wp2_with ((with_reducible change wpList _ _ _ ({ dst := none, op := Op.store 23 _ _, type := _, pos := _, after := _, guard := _ } :: _) _ _); refine unhid ?_)
    refine Lib.hid ?_
    with_reducible change wpList _ _ _ ({ dst := none, op := Op.store 23 _ _, type := _, pos := _, after := _, guard := _ } :: _) _ _
    refine wpList_store_part (o := ⟨none, _, _, _, _, _⟩) rfl 23 (.tmp 37) (.tmp 36) rfl gp 35 (cells8 d).toArray rfl rfl 28 (idxCells (strT p) true (entC xn ch) (List.replicate 32 0) none 0 0).toArray hP14.out hdsz.out (by rw [zd2]; exact fit32 (entC_len hchl.out) (by rfl)) hdall.out ?_
    rw [set_bm (entC_len hchl.out) (by rfl) hdl.out]
    have hk15 : Kept (· = gp) w14 (w14.setRow gp (idxCells (strT p) true (entC xn ch) d none 0 0).toArray) := Bytes.Kept.setRow (S := (· = gp)) (Kept.refl _ _) rfl _
    have hP15 : Hid (Blk (w14.setRow gp (idxCells (strT p) true (entC xn ch) d none 0 0).toArray) gp 28 (idxCells (strT p) true (entC xn ch) d none 0 0).toArray) := setRow_heap _ _ _ _ _ _ hP14.out
    have hRes15 : Hid (Blk (w14.setRow gp (idxCells (strT p) true (entC xn ch) d none 0 0).toArray) w.heap.size 28 zI) := hRes14.out.kept hk15 (by have := hgp.out; omega)
    have hb15 : Hid (Below w.heap.size w (w14.setRow gp (idxCells (strT p) true (entC xn ch) d none 0 0).toArray)) := hb14.out.trans (Kept.below_of hk15 (by have := hgp.out; omega) hb14.out.size)
    have hRQ15 : Hid (RQ (w14.setRow gp (idxCells (strT p) true (entC xn ch) d none 0 0).toArray) (w.heap.size + 1) w.heap.size q (2 + L + 1 + 8 + 32 + 32)) := hRQ14.out.kept hk15 (by have := hgp.out; omega) (fun a ha h => by have := hgp.out; omega)
    generalize w14.setRow gp (idxCells (strT p) true (entC xn ch) d none 0 0).toArray = w15 at *
    clear hk15 hP14 hRes14 hb14 hRQ14 hdall hdsz
    go_wp2_with ((with_reducible change wpList _ _ _ ({ dst := some 40, op := _, type := _, pos := _, after := _, guard := _ } :: _) _ _); refine wpList_load_part (o := ⟨some 40, _, _, _, _, _⟩) rfl 23 (.tmp 39) rfl gp 35 rfl (cells8 d) _ (fun j v h => by rw [hP15.out.cell (35 + j), List.getElem?_toArray]; exact idx_bitmap (entC_len hchl.out) j v h) Try.underlying23 rfl (by rw [zd1]; exact size31) ?_)
    refine (ones17_any d hdl.out w15).mono ?_
    rintro e w16 ⟨rfl, hk16⟩
    have hP16 : Hid (Blk w16 gp 28 (idxCells (strT p) true (entC xn ch) d none 0 0).toArray) := (hk16.block _ hP15.out.lt).trans hP15.out
    have hRes16 : Hid (Blk w16 w.heap.size 28 zI) := (hk16.block _ hRes15.out.lt).trans hRes15.out
    have hb16 : Hid (Below w.heap.size w w16) := hb15.out.trans (hk16.mono hb15.out.size)
    have hRQ16 : Hid (RQ w16 (w.heap.size + 1) w.heap.size q (2 + L + 1 + 8 + 32 + 32)) := by
      obtain ⟨p', s', r1, r2⟩ := hRQ15.out
      exact ⟨p', s', r1.below hk16, r2⟩
    clear hk16 hP15 hRes15 hb15 hRQ15 zd2
    obtain ⟨n, hn⟩ : ∃ n, Hid (onesOf d = n) := ⟨_, Lib.hid rfl⟩
    have hn256 : Hid (n ≤ 256) := by have := onesOf_le d; have h1 := hn.out; have h2 := hdl.out; show _ ≤ _; omega
    rw [hn.out]
    go_wp2_with fail
    refine (way_rq q hq47.out (w.heap.size + 1) w.heap.size (2 + L + 1 + 8 + 32 + 32) n (by have := hn256.out; omega) _ hRQ16.out).mono ?_
    rintro e w17 ⟨l, A3, c3, rfl, hl17, hn17, hc17, hlN, hlf, hnew, hk17⟩
    have hGot : Hid (Got q L p true xn ch d l) := ⟨hL1.out, fun _ h => hp1.out h, fun h1 h2 => hp2.out h1 h2, hF1.out, fun _ h => by rw [hxn.out (by omega)]; congr 4; omega, fun _ h => by rw [hch.out (by omega)]; congr 2; omega, (fun h => by cases h), (fun h => by cases h), fun h => by rw [hdd.out (by simp at h; omega)]; congr 2; simp; omega, fun h => by rw [hn.out] at h ⊢; rw [hlf (by simp at h; omega)]; congr 2; simp; omega, hchl.out, hdl.out, hl17.2.1⟩
    have hP17 : Hid (Blk w17 gp 28 (idxCells (strT p) true (entC xn ch) d none 0 0).toArray) := hP16.out.kept hk17 (by have := hgp.out; omega)
    have hRes17 : Hid (Blk w17 w.heap.size 28 zI) := hRes16.out.kept hk17 (by omega)
    have hb17 : Hid (Below w.heap.size w w17) := hb16.out.trans (Kept.below_of hk17 (by omega) hb16.out.size)
    have hnewg : Hid (∀ a, A3 = some a → gp < a.block) := fun a e => Nat.lt_of_lt_of_le hP16.out.lt (hnew a e)
    have c17 : w17.cell? ⟨gp, 67, none⟩ = some (.slice none 0 0) := by rw [hP17.out.cell 67, List.getElem?_toArray]; exact idx_way (entC_len hchl.out) hdl.out
    have f17 := hP17.out.frozen 67
    have hk18 : Kept (· = gp) w17 (w17.setCell ⟨gp, 67, none⟩ (.slice A3 l.length c3)) := (Kept.refl (· = gp) w17).setCell (.inl rfl) _
    have hP18 : Hid (Blk (w17.setCell ⟨gp, 67, none⟩ (.slice A3 l.length c3)) gp 28 (idxCells (strT p) true (entC xn ch) d A3 l.length c3).toArray) := by
      have := hP17.out.set_ 67 (.slice A3 l.length c3)
      rw [set_way (entC_len hchl.out) hdl.out] at this
      exact this
    have hRes18 : Hid (Blk (w17.setCell ⟨gp, 67, none⟩ (.slice A3 l.length c3)) w.heap.size 28 zI) := hRes17.out.kept hk18 (by have := hgp.out; omega)
    have hb18 : Hid (Below w.heap.size w (w17.setCell ⟨gp, 67, none⟩ (.slice A3 l.length c3))) := hb17.out.trans (Kept.below_of hk18 (by have := hgp.out; omega) hb17.out.size)
    have hl18 : Hid (RdD (w17.setCell ⟨gp, 67, none⟩ (.slice A3 l.length c3)) A3 l.length l) := ⟨rfl, hl17.2.1, hl17.2.2.kept hk18 (fun b o e h => by have h3 := hnewg.out _ e; have h : b = gp := h; have h3 : gp < b := h3; omega)⟩
    have hl256 : Hid (l.length ≤ 256) := by have := hn256.out; show _ ≤ _; omega
    replace hn17 := Lib.hid hn17
    replace hc17 := Lib.hid hc17
    clear hl17 hlN hlf hnew hk17 hk18 hP17 hRes17 hb17 hP16 hRes16 hb16 hRQ16
    by_cases hk0 : k = 0
    · have hXX : X = zAns 8 := by
        rw [← hX.out]
        exact ixAns_no hqk.out (fun h => by have h1 := h.2.2.1; have h2 := hkk.out; omega)
      have y3 : ((k : Int) == 0) = true := by rw [hk0]; rfl
      clear hk0
      go_wp2_with ((with_reducible change wpList _ _ _ ({ dst := none, op := Op.store 28 _ _, type := _, pos := _, after := _, guard := _ } :: _) _ _); refine wpList_store_row (o := ⟨none, _, _, _, _, _⟩) rfl 28 (.tmp 2) (.tmp 54) rfl (w.heap.size) (zI) rfl rfl 28 (zI) hRes18.out sizeX rfl oneX ?_)
      refine bodyPost_ret (results_cell_row2 rfl _ _ w.heap.size 28 zI (0, 0) _ rfl (setRow_heap _ _ _ _ _ _ hRes18.out) Try.underlying28 rfl sizeX) rfl ?_
      rw [hXX]
      exact zpostX rfl (below_setRow hb18.out (Nat.le_refl _) _)
    · have y3 : ((k : Int) == 0) = false := beq_eq_false_iff_ne.2 (by omega)
      have hkn : Hid (k ≠ 0) := hk0
      clear hk0
      have hI := Lib.hid (fun w' (h : RdD w' A3 l.length l) => refidx17_any (strT p) true xn ch hchl.out d hdl.out l A3 l.length c3 w' h)
      go_wp2_with ((with_reducible change wpList _ _ _ ({ dst := some 48, op := _, type := _, pos := _, after := _, guard := _ } :: _) _ _); refine wpList_load_rowG (o := ⟨some 48, _, _, _, _, _⟩) rfl 28 (.tmp 5) rfl (gp) rfl 28 ((idxCells (strT p) true (entC xn ch) d A3 l.length c3).toArray) (0, 0) _ hP18.out Try.underlying28 rfl (size_idx hchl.out hdl.out) ?_)
      clear c17 f17
      generalize w17.setCell ⟨gp, 67, none⟩ (.slice A3 l.length c3) = w18 at *
      refine (hI.out _ hl18.out).mono ?_
      rintro e w19 ⟨A4, c4, b, rfl, hb19r, -, -, hwant, hbl19⟩
      have hP19 : Hid (Blk w19 gp 28 (idxCells (strT p) true (entC xn ch) d A3 l.length c3).toArray) := (hbl19.block _ hP18.out.lt).trans hP18.out
      have hRes19 : Hid (Blk w19 w.heap.size 28 zI) := (hbl19.block _ hRes18.out.lt).trans hRes18.out
      have hl19 : Hid (RdD w19 A3 l.length l) := hl18.out.below hbl19
      have hb19 : Hid (Below w.heap.size w w19) := hb18.out.trans (hbl19.mono hb18.out.size)
      have hb47 : b.length < 9223372036854775807 := by
        rcases hwant with h | ⟨-, -, rfl⟩
        · exact want_len hchl.out hdl.out hl19.out.2.1 hl256.out h
        · simp
      have hS := Lib.hid (same17_any b q b.length k rfl hkk.out hb47 A4 A c4 c w19 hb19r (hrr.out.below hb19.out))
      replace hwant := Lib.hid hwant
      clear hb19r hbl19 hb47 hP18 hRes18 hl18 hb18 hI
      by_cases hbq : b = q
      · have hwq : idxWant (strT p) true xn ch d l = some q := by
          rcases hwant.out with h | ⟨-, -, h⟩
          · rw [h, hbq]
          · have hq0 : q = [] := by rw [← hbq, h]
            have h1 := hkk.out
            rw [hq0] at h1
            exact absurd h1.symm hkn.out
        have hXX : X = (strT p, true, xn, ch, d, l, 0) := by
          rw [← hX.out]
          exact read_ok hqk.out hGot.out hwq
        rw [decide_eq_true hbq] at hS
        clear hbq hwq
        go_wp2_with fail
        refine hS.out.mono ?_
        rintro e w20 ⟨rfl, m, rfl⟩
        have hP20 : Hid (Blk (w19.drewN m) gp 28 (idxCells (strT p) true (entC xn ch) d A3 l.length c3).toArray) := hP19.out.drewN m
        have hRes20 : Hid (Blk (w19.drewN m) w.heap.size 28 zI) := hRes19.out.drewN m
        have hb20 : Hid (Below w.heap.size w (w19.drewN m)) := below_drawn hb19.out m
        have hl20 : Hid (RdD (w19.drewN m) A3 l.length l) := hl19.out.drewN m
        clear hP19 hRes19 hb19 hl19 hS
        go_wp2_with (first
          | ((with_reducible change wpList _ _ _ ({ dst := some 55, op := _, type := _, pos := _, after := _, guard := _ } :: _) _ _); refine wpList_load_row (o := ⟨some 55, _, _, _, _, _⟩) rfl 28 (.tmp 5) rfl (gp) rfl 28 ((idxCells (strT p) true (entC xn ch) d A3 l.length c3).toArray) (0, 0) _ hP20.out Try.underlying28 rfl (size_idx hchl.out hdl.out) ?_)
          | ((with_reducible change wpList _ _ _ ({ dst := none, op := Op.store 28 _ _, type := _, pos := _, after := _, guard := _ } :: _) _ _); refine wpList_store_row (o := ⟨none, _, _, _, _, _⟩) rfl 28 (.tmp 2) (.tmp 55) rfl (w.heap.size) ((idxCells (strT p) true (entC xn ch) d A3 l.length c3).toArray) rfl rfl 28 (zI) hRes20.out (size_idx hchl.out hdl.out) (eq_idx hchl.out hdl.out) one_idx ?_))
        refine bodyPost_ret (results_cell_row2 rfl _ _ w.heap.size 28 (idxCells (strT p) true (entC xn ch) d A3 l.length c3).toArray (0, 0) _ rfl (setRow_heap _ _ _ _ _ _ hRes20.out) Try.underlying28 rfl (size_idx hchl.out hdl.out)) rfl ?_
        rw [hXX]
        exact ⟨A3, l.length, c3, rfl, ⟨rfl, hl20.out.2.1, hl20.out.2.2.kept (Bytes.Kept.setRow (S := (· = w.heap.size)) (Kept.refl _ _) rfl _) (fun b o e h => by have h3 := hnewg.out _ e; have h1 := hgp.out; have h : b = w.heap.size := h; have h3 : gp < b := h3; omega)⟩, hn17.out, hc17.out, hl256.out, below_setRow hb20.out (Nat.le_refl _) _⟩
      · have hwq : idxWant (strT p) true xn ch d l ≠ some q := fun e => by
          rcases hwant.out with h | ⟨h, -, -⟩
          · rw [h] at e; exact hbq (Option.some.inj e)
          · rw [h] at e; cases e
        have hXX : X = zAns 8 := by
          rw [← hX.out]
          exact read_no hqk.out hGot.out hwq
        rw [decide_eq_false hbq] at hS
        clear hbq hwq
        go_wp2_with fail
        refine hS.out.mono ?_
        rintro e w20 ⟨rfl, m, rfl⟩
        have hRes20 : Hid (Blk (w19.drewN m) w.heap.size 28 zI) := hRes19.out.drewN m
        have hb20 : Hid (Below w.heap.size w (w19.drewN m)) := below_drawn hb19.out m
        clear hP19 hRes19 hb19 hl19 hS
        go_wp2_with ((with_reducible change wpList _ _ _ ({ dst := none, op := Op.store 28 _ _, type := _, pos := _, after := _, guard := _ } :: _) _ _); refine wpList_store_row (o := ⟨none, _, _, _, _, _⟩) rfl 28 (.tmp 2) (.tmp 54) rfl (w.heap.size) (zI) rfl rfl 28 (zI) hRes20.out sizeX rfl oneX ?_)
        refine bodyPost_ret (results_cell_row2 rfl _ _ w.heap.size 28 zI (0, 0) _ rfl (setRow_heap _ _ _ _ _ _ hRes20.out) Try.underlying28 rfl sizeX) rfl ?_
        rw [hXX]
        exact zpostX rfl (below_setRow hb20.out (Nat.le_refl _) _)
end Go.Proofs.Ytmdkfhfkdcbpgaa.ReadIdx
