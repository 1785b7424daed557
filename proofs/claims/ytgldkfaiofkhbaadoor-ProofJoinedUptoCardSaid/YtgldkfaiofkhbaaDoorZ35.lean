/-
  Texts of the claim, put into one file: SpeltFn, ProofJoined.
-/
import Derived.Test.YtgldkfaiofkhbaaDoorZ34
import Derived.Test.YtgldkfaiofkhbaaDoorZ30
import Derived.Test.YtgldkfaiofkhbaaDoorZ33
import Derived.Test.YtgldkfaiofkhbaaDoorZ29
import Derived.Test.YtgldkfaiofkhbaaDoorZ31
import Derived.Test.YtgldkfaiofkhbaaDoorZ24
import Derived.Test.YtgldkfaiofkhbaaDoorZ17
import Derived.Test.YtgldkfaiofkhbaaDoorZ3

namespace Go.Proofs.YtgldkfaiofkhbaaDoor.SpeltFn
open Go Go.RowKit Go.Proofs.YtgldkfaiofkhbaaDoor Go.Proofs.YtgldkfaiofkhbaaDoor.Mem Go.Proofs.YtgldkfaiofkhbaaDoor.Sha Go.Proofs.YtgldkfaiofkhbaaDoor.Bytes Go.Proofs.YtgldkfaiofkhbaaDoor.TreeMem Go.Proofs.YtgldkfaiofkhbaaDoor.Held Go.Proofs.YtgldkfaiofkhbaaDoor.Own Go.Proofs.YtgldkfaiofkhbaaDoor.Book Go.Proofs.YtgldkfaiofkhbaaDoor.Book2 Go.Proofs.YtgldkfaiofkhbaaDoor.Ref17 Go.Proofs.YtgldkfaiofkhbaaDoor.Ref17b Go.Proofs.YtgldkfaiofkhbaaDoor.DecIncl Go.Proofs.YtgldkfaiofkhbaaDoor.DecIncl2 Go.Proofs.YtgldkfaiofkhbaaDoor.RefCons Go.Proofs.YtgldkfaiofkhbaaDoor.DecCons Go.Proofs.YtgldkfaiofkhbaaDoor.SpeltP Go.Proofs.YtgldkfaiofkhbaaDoor.Spelt

set_option maxRecDepth 100000 in
set_option maxHeartbeats 1000000 in
theorem sameIncl_all (x y x' y' : Int) (l l' : List Text) (n m : Nat) (hn : n < 140737488355328) (A B : Option Addr) (c d : Nat) (w : World) (ha : RdD w A n l) (hb : RdD w B m l') :
    Calls Tryd.prog 21 #[.agg (inclCells x y A n c), .agg (inclCells x' y' B m d)] w fun e w' => e = .returned (.bool (decide (x = x' ∧ y = y' ∧ l = l'))) ∧ Below w.heap.size w w' := by
  unfold inclCells
  have hb2 : Hid (Below w.heap.size w ((w.alloc (.cells #[.int .i64 x, .int .i64 y, .slice A n c] 51)).alloc (.cells #[.int .i64 x', .int .i64 y', .slice B m d] 51))) := (Below.heap_below w _).alloc (by simp) _
  have hS : Hid (∀ w', Below w.heap.size w w' → Calls Tryd.prog 43 #[.slice A n c, .slice B m d] w' fun e w'' => e = .returned (.bool (decide (l = l'))) ∧ Below w'.heap.size w' w'') := fun w' h => sameD_any n m hn l l' A B c d w' (ha.below h) (hb.below h)
  obtain ⟨r, hr⟩ : ∃ r, Hid (decide (l = l') = r) := ⟨_, Lib.hid rfl⟩
  clear ha hb hn
  by_cases hx : x = x'
  · subst hx
    have y1 : (x == x) = true := beq_self_eq_true _
    by_cases hy : y = y'
    · subst hy
      have y2 : (y == y) = true := beq_self_eq_true _
      have hv : decide (x = x ∧ y = y ∧ l = l') = r := by rw [← hr.out]; simp
      rw [hr.out] at hS
      rw [hv]
      clear hv hr
      go_enter Tryd.func21, Tryd.ntmps21
      go_wp2_with (go_at_call 43; refine (hS.out _ hb2.out).mono ?_; rintro e w3 ⟨rfl, hk⟩; have hb3 : Hid (Below w.heap.size w w3) := hb2.out.trans (hk.mono hb2.out.size); clear hk)
      go_ret
      exact ⟨rfl, hb3.out⟩
    · have y2 : (y == y') = false := beq_eq_false_iff_ne.2 hy
      rw [decide_eq_false (fun h => hy h.2.1)]
      clear hS hr hy
      go_enter Tryd.func21, Tryd.ntmps21
      go_wp2_with fail
      go_ret
      exact ⟨rfl, hb2.out⟩
  · have y1 : (x == x') = false := beq_eq_false_iff_ne.2 hx
    rw [decide_eq_false (fun h => hx h.1)]
    clear hS hr hx
    go_enter Tryd.func21, Tryd.ntmps21
    go_wp2_with fail
    go_ret
    exact ⟨rfl, hb2.out⟩
end Go.Proofs.YtgldkfaiofkhbaaDoor.SpeltFn

namespace Go.Proofs.YtgldkfaiofkhbaaDoor.ProofJoined
open Go Go.RowKit Go.Proofs.YtgldkfaiofkhbaaDoor Go.Proofs.YtgldkfaiofkhbaaDoor.HeadMem Go.Proofs.YtgldkfaiofkhbaaDoor.Mem Go.Proofs.YtgldkfaiofkhbaaDoor.Sha Go.Proofs.YtgldkfaiofkhbaaDoor.Bytes Go.Proofs.YtgldkfaiofkhbaaDoor.HashMem Go.Proofs.YtgldkfaiofkhbaaDoor.DigestMem Go.Proofs.YtgldkfaiofkhbaaDoor.Digest Go.Proofs.YtgldkfaiofkhbaaDoor.DigestTop Go.Proofs.YtgldkfaiofkhbaaDoor.Chain Go.Proofs.YtgldkfaiofkhbaaDoor.Append Go.Proofs.YtgldkfaiofkhbaaDoor.TreeMem Go.Proofs.YtgldkfaiofkhbaaDoor.Held Go.Proofs.YtgldkfaiofkhbaaDoor.Own Go.Proofs.YtgldkfaiofkhbaaDoor.QuietTail Go.Proofs.YtgldkfaiofkhbaaDoor.Grown Go.Proofs.YtgldkfaiofkhbaaDoor.Guard Go.Proofs.YtgldkfaiofkhbaaDoor.Guard2 Go.Proofs.YtgldkfaiofkhbaaDoor.Want Go.Proofs.YtgldkfaiofkhbaaDoor.Plain Go.Proofs.YtgldkfaiofkhbaaDoor.ProofIdx Go.Proofs.YtgldkfaiofkhbaaDoor.Book Go.Proofs.YtgldkfaiofkhbaaDoor.PieceP Go.Proofs.YtgldkfaiofkhbaaDoor.PieceRow Go.Proofs.YtgldkfaiofkhbaaDoor.PieceBegins Go.Proofs.YtgldkfaiofkhbaaDoor.Prs Go.Proofs.YtgldkfaiofkhbaaDoor.Reach Go.Proofs.YtgldkfaiofkhbaaDoor.Reach2 Go.Proofs.YtgldkfaiofkhbaaDoor.PieceLay Go.Proofs.YtgldkfaiofkhbaaDoor.PieceMem Go.Proofs.YtgldkfaiofkhbaaDoor.PieceMem2 Go.Proofs.YtgldkfaiofkhbaaDoor.SamePiece Go.Proofs.YtgldkfaiofkhbaaDoor.Pcs Go.Proofs.YtgldkfaiofkhbaaDoor.CutP Go.Proofs.YtgldkfaiofkhbaaDoor.CutM Go.Proofs.YtgldkfaiofkhbaaDoor.CutQ Go.Proofs.YtgldkfaiofkhbaaDoor.PiecesW Go.Proofs.YtgldkfaiofkhbaaDoor.CutO Go.Proofs.YtgldkfaiofkhbaaDoor.CutWO Go.Proofs.YtgldkfaiofkhbaaDoor.PiecesO Go.Proofs.YtgldkfaiofkhbaaDoor.JoinM Go.Proofs.YtgldkfaiofkhbaaDoor.JoinQ Go.Proofs.YtgldkfaiofkhbaaDoor.DigEq Go.Proofs.YtgldkfaiofkhbaaDoor.EncPiece Go.Proofs.YtgldkfaiofkhbaaDoor.SpeltFn

theorem cutsW_len {wd : Int} {s : ByteArray} {F : Int} {b : Text} {es : List Text} {ps : List Pr} {ks : List Cut} (h : cutsW wd s F b es ps = some ks) (n : Nat) (hn : es.length = n) : ks.length ≤ n := by
  obtain ⟨hlen, -, -, hc⟩ := cutsW_some h
  have h2 : ∀ {F : Int} {b : Text} {lo : Nat} {ks : List Cut}, JoinP.Chn (firstSize ps) (54 + s.size) (Chain.chainOf wd) es (itemsOf es ps) F b lo ks → ks.length ≤ es.length - lo := fun h => by
    induction h with
    | done _ => exact Nat.zero_le _
    | more hlt hr hn h ih => rw [List.length_cons]; omega
  have := h2 hc
  omega
theorem alike_few {ps qs : List Pr} (h : SamePiece.Alike ps qs) (hq : ∀ p ∈ qs, p.n < 140737488355328) : ∀ p ∈ ps, p.n < 140737488355328 := fun p hp => by
  obtain ⟨i, hi, rfl⟩ := List.getElem_of_mem hp
  have hi2 : i < qs.length := by rw [← h.len]; exact hi
  obtain ⟨-, -, h3, -⟩ := h.at_ (List.getElem?_eq_getElem hi) (List.getElem?_eq_getElem hi2)
  rw [h3]
  exact hq _ (List.getElem_mem hi2)
theorem St.pcU {w0 W3 W : World} {q cl i k : Nat} {Al : Option Addr} {l : List Pc} {p : Pc} (h : St w0 W3 W q Al cl l i) (hik : i ≤ k) (hp : l[k]? = some p) : ∃ B, w0.heap.size + 1 ≤ B ∧ PcO W B p ∧ ∀ m p', l[m]? = some p' → m < k → CutO.under p' B := by
  obtain ⟨f, hf⟩ := h.lr.fi
  have hl := (List.getElem?_eq_some_iff.1 hp).1
  refine ⟨f k, hf.lo k hl, (hf.at_ k p (Nat.zero_le _) hp).keptS h.k (fun _ o g e s => ?_), fun m p' h1 h2 => hf.sep m p' k h1 h2 hl⟩
  obtain ⟨m, p', h1, h2, h3⟩ := s
  have hu := hf.sep m p' k h2 (by omega) hl
  have := (o.lt g e).1
  rcases h3 with h3 | h3
  · have := hu.1 g h3; omega
  · have := hu.2 g h3; omega
theorem run_cutG {P : Program} {t : TypeId} {A : Option Addr} {n c k sz : Nat} (h : P.underlying t = some (.slice (P.elem t))) (hs : ∀ w, (sizeOf (P.elem t)).run P w = .ok sz w) (hk : k ≤ n) (hn : n ≤ c) :
    ∃ B, (∀ w, (Instr.sliceAt t (.slice A n c) (some (.int .i64 (k : Int))) none none).run P w = .ok (.slice B (n - k) (c - k)) w) ∧ (k < n → B = dropA A k sz) := by
  refine ⟨if k = c then A else dropA A k sz, fun w => ?_, fun h => if_neg (by omega)⟩
  rw [run_sliceAt_slice w t _ _ _ _ h, run_slice_l w t A n c h .i64 (k : Int) (by omega) (by omega), hs]
  simp [Result.andThen, sliced, dropA, eq_comm (a := k) (b := c)]
theorem says_some {s : ByteArray} {es : List Text} {ps : List Pr} {l : List Pc} {ka : List Cut} {err : Int} (h : (∃ ks, some ka = some ks ∧ SaysR s es ps l ks ∧ err = 0) ∨ (some ka = none ∧ l = [] ∧ err = 170)) : SaysR s es ps l ka ∧ err = 0 := by
  rcases h with ⟨ks, e, h, rfl⟩ | ⟨e, -⟩
  · obtain rfl := Option.some.inj e
    exact ⟨h, rfl⟩
  · cases e
/-- Two rows of pieces put together. -/
theorem join_pcs {w0 w0' W W2 : World} {qa qb ca cb : Nat} {Aa Ab : Option Addr} {la lb : List Pc} {v : Value} (ha : LrO w0 W qa Aa ca la) (hb : LrO w0' W qb Ab cb lb) (hla : la.length = qa) (hlb : lb.length = qb) (hG : Grew W (w0.heap.size + 1) 83 36 (.slice Aa qa ca) qa qb (la.flatMap Pc.cells) (lb.flatMap Pc.cells) v W2) :
    ∃ A c, v = .slice A (qa + qb) c ∧ Pcs W2 A (la ++ lb) := by
  obtain ⟨A, c, e, -, -, -, hr, -⟩ := Append.Own.reads hG.own
  have hk : ∀ B, Kept (PX W B) W W2 := fun B => (grew_kept hG).mono (fun k _ s => own_px ha.ow _ k s)
  obtain ⟨f, hf⟩ := ha.fi
  obtain ⟨g, hg⟩ := hb.fi
  refine ⟨A, c, e, ?_, fun p hp => ?_⟩
  · rw [List.length_append, hla, hlb, List.flatMap_append]
    exact hr
  · rcases List.mem_append.1 hp with hp | hp
    · exact (hf.kept (hk _)).ok p hp
    · exact (hg.kept (hk _)).ok p hp
theorem says_sub {s : ByteArray} {es : List Text} {ps : List Pr} {l : List Pc} {ks : List Cut} (h : SaysR s es ps l ks) {p : Pc} (hp : p ∈ l) : ∀ e ∈ p.es, e ∈ es := fun e he => by
  obtain ⟨i, hi, rfl⟩ := List.getElem_of_mem hp
  obtain ⟨-, -, -, h4, -⟩ := h.2 i _ _ (List.getElem?_eq_getElem hi) (List.getElem?_eq_getElem (by rw [← h.1]; exact hi))
  rw [h4] at he
  exact List.mem_of_mem_drop (List.mem_of_mem_take he)
theorem sum_step {l : List Nat} {i k : Nat} (h : l[i]? = some k) : (l.take (i + 1)).sum = (l.take i).sum + k := by
  rw [List.take_add_one, h, List.sum_append]
  simp
theorem sum_le (l : List Nat) (i : Nat) : (l.take i).sum ≤ l.sum := by
  have h := congrArg List.sum (List.take_append_drop i l)
  rw [List.sum_append] at h
  omega
theorem LrO.addr {w0 W : World} {q cl : Nat} {Al : Option Addr} {l : List Pc} (h : LrO w0 W q Al cl l) (hq : q ≠ 0) : ∃ g, Al = some ⟨g, 0, none⟩ := by
  rcases h.ow.2 with ⟨-, h2⟩ | ⟨g, cap, cur, h2, -⟩
  · exact absurd h2 (by omega)
  · injection h2 with h2
    exact ⟨g, h2⟩
set_option maxRecDepth 100000 in
set_option maxHeartbeats 8000000 in
theorem proofJoined_any (wd : Int) (s : ByteArray) (hs : s.size ≤ 140737488355328) (F : Int) (b : Text) (hb : b.length = 32) (es0 : List Text) (n0 : Nat) (hn0 : es0.length = n0) (ps0 : List Pr) (m0 : Nat) (hm0 : ps0.length = m0) (A A2 : Option Addr) (c c2 : Nat) (hnc : n0 ≤ c) (hmc : m0 ≤ c2) (hsh0 : ∀ e ∈ es0, e.length < 140737488355328) (hnn0 : ∀ p ∈ ps0, p.n < 4398046511104) (hnil0 : ∀ p ∈ ps0, p.A = none → p.n = 0 ∧ p.c = 0) (at_ : Int) (w : World) (hBs : Base w) (hp0 : Pieces w A es0) (hq0 : Prs w A2 ps0) :
    Calls Tryd.prog 5 #[.int .i64 wd, .string s, .int .i64 F, .agg (cells8 b).toArray, .slice A n0 c, .slice A2 m0 c2, .int .i64 at_] w fun e w' => e = .returned (.bool true) ∧ Below w.heap.size w w' := by
  obtain ⟨n, hn'⟩ : ∃ n, min n0 2200 = n := ⟨_, rfl⟩
  obtain ⟨m, hm'⟩ : ∃ m, min m0 2200 = m := ⟨_, rfl⟩
  obtain ⟨es, hes⟩ : ∃ es, es0.take n = es := ⟨_, rfl⟩
  obtain ⟨ps, hps⟩ : ∃ ps, ps0.take m = ps := ⟨_, rfl⟩
  have hp : Pieces w A es := by rw [← hes]; exact Law17e.Pieces.take_ hp0 n
  have hq : Prs w A2 ps := by rw [← hps]; exact Law17e.Prs.take_ hq0 m
  have hn : es.length = n := by rw [← hes, List.length_take]; omega
  have hm : ps.length = m := by rw [← hps, List.length_take]; omega
  have hsh : ∀ e ∈ es, e.length < 140737488355328 := fun e he => hsh0 e (by rw [← hes] at he; exact List.mem_of_mem_take he)
  have hnn' : ∀ p ∈ ps, p.n < 140737488355328 := fun p he => by have := hnn0 p (by rw [← hps] at he; exact List.mem_of_mem_take he); omega
  have hnil : ∀ p ∈ ps, p.A = none → p.n = 0 ∧ p.c = 0 := fun p he => hnil0 p (by rw [← hps] at he; exact List.mem_of_mem_take he)
  have hn6 : n ≤ 1000000 := by omega
  have hm6 : m ≤ 1000000 := by omega
  have hn2 : (n : Int) ≤ 2200 := by omega
  have hnc' : n ≤ c := by omega
  have hmc' : m ≤ c2 := by omega
  have hFe : Hid (∀ w', Calls Tryd.prog 32 #[.slice A n0 c, .int .i64 2200] w' fun e w'' => e = .returned (.slice A n c) ∧ w' = w'') := fun w' => by
    have := Law17e.fewE_any A n0 c 2200 hnc w'
    rwa [hn'] at this
  have hFi : Hid (∀ w', Calls Tryd.prog 33 #[.slice A2 m0 c2, .int .i64 2200] w' fun e w'' => e = .returned (.slice A2 m c2) ∧ w' = w'') := fun w' => by
    have := Law17e.fewI_any A2 m0 c2 2200 hmc w'
    rwa [hm'] at this
  obtain ⟨W, hW⟩ : ∃ W, Hid (cutsW wd s F b es ps = W) := ⟨_, Lib.hid rfl⟩
  have hPi : Hid (∀ w', Below w.heap.size w w' → Calls Tryd.prog 34 #[.int .i64 wd, .string s, .int .i64 F, .agg (cells8 b).toArray, .slice A n c, .slice A2 m c2] w' (CPostO w' s es ps W)) := fun w' h => by
    have := piecesO_any wd s hs F b hb es n hn hn6 hsh ps m hm hm6 hnn' hnil A A2 c c2 hnc' hmc' w' (hBs.below h hBs.1) (hp.below h) (hq.below h)
    rw [hW.out] at this
    exact this
  have hPa : Hid (∀ (k : Nat), k ≤ n → n = m → ∀ w', Below w.heap.size w w' → Calls Tryd.prog 34 #[.int .i64 wd, .string s, .int .i64 F, .agg (cells8 b).toArray, .slice A k c, .slice A2 k c2] w' (CPostO w' s (es.take k) (ps.take k) (cutsW wd s F b (es.take k) (ps.take k)))) := fun k hk hnm w' h =>
    piecesO_any wd s hs F b hb (es.take k) k (by rw [List.length_take]; omega) (by omega) (fun e he => hsh e (List.mem_of_mem_take he)) (ps.take k) k (by rw [List.length_take]; omega) (by omega) (fun p hp => hnn' p (List.mem_of_mem_take hp)) (fun p hp => hnil p (List.mem_of_mem_take hp)) A A2 c c2 (by omega) (by omega) w' (hBs.below h hBs.1) (Law17e.Pieces.take_ (hp.below h) k) (Law17e.Prs.take_ (hq.below h) k)
  have hPb : Hid (∀ (k : Nat), k ≤ n → n = m → ∀ (F' : Int) (b' : Text), b'.length = 32 → ∀ Ax Ay, (k < n → Ax = dropA A k 1) → (k < n → Ay = dropA A2 k 3) → ∀ w', Below w.heap.size w w' → Calls Tryd.prog 34 #[.int .i64 wd, .string s, .int .i64 F', .agg (cells8 b').toArray, .slice Ax (n - k) (c - k), .slice Ay (n - k) (c2 - k)] w' (CPostO w' s (es.drop k) (ps.drop k) (cutsW wd s F' b' (es.drop k) (ps.drop k)))) := fun k hk hnm F' b' hb' Ax Ay hx hy w' h =>
    piecesO_any wd s hs F' b' hb' (es.drop k) (n - k) (by rw [List.length_drop]; omega) (by omega) (fun e he => hsh e (List.mem_of_mem_drop he)) (ps.drop k) (n - k) (by rw [List.length_drop]; omega) (by omega) (fun p hp => hnn' p (List.mem_of_mem_drop hp)) (fun p hp => hnil p (List.mem_of_mem_drop hp)) Ax Ay (c - k) (c2 - k) (by omega) (by omega) w' (hBs.below h hBs.1) (by
      rcases Nat.lt_or_ge k n with h1 | h1
      · rw [hx h1]; exact pieces_drop (hp.below h) k
      · rw [List.drop_of_length_le (by omega)]; exact fun h0 => absurd h0 (by simp)) (by
      rcases Nat.lt_or_ge k n with h1 | h1
      · rw [hy h1]; exact prs_drop (hq.below h) k
      · rw [List.drop_of_length_le (by omega)]; exact ⟨⟨rfl, fun h0 => absurd h0 (by simp)⟩, fun p hp => by cases hp⟩)
  have hB0 : Hid (Blk (w.alloc (.cells (cells8 b).toArray 23)) w.heap.size 23 (cells8 b).toArray) := Blk.new w _ _
  have hb0 : Hid (Below w.heap.size w (w.alloc (.cells (cells8 b).toArray 23))) := Below.heap_below w _
  have sD := Lib.hid (dig_size b hb)
  have hone := Lib.hid (dig_one b)
  have hz32 : Hid (Z32.size = (cells8 b).toArray.size) := by show Z32.size = (cells8 b).length; rw [cells8_len, hb]; rfl
  have hpk : Hid (∀ w', Below w.heap.size w w' → Pieces w' A es ∧ Prs w' A2 ps) := fun w' h => ⟨hp.below h, hq.below h⟩
  have hle : Hid (es.length = n) := hn
  have hlp : Hid (ps.length = m) := hm
  have hshH := Lib.hid hsh
  have hnnH := Lib.hid hnn'
  have hncH := Lib.hid hnc'
  have hmcH := Lib.hid hmc'
  replace hb := Lib.hid hb
  replace hBs := Lib.hid hBs
  replace hs := Lib.hid hs
  clear hp hq hp0 hq0 hn hm hn0 hm0 hes hps hn' hm' hsh hnn' hnil hsh0 hnn0 hnil0 hn6 hm6 hnc hmc hnc' hmc'
  go_enter Tryd.func5, Tryd.ntmps5
  go_wp2_with fail
  refine (hFe.out _).mono ?_
  rintro e w1 ⟨rfl, rfl⟩
  generalize w.alloc (.cells (cells8 b).toArray 23) = w1 at *
  clear hFe
  go_wp2_with fail
  refine (hFi.out _).mono ?_
  rintro e w2 ⟨rfl, rfl⟩
  clear hFi
  go_wp2_with ((with_reducible change wpList _ _ _ ({ dst := some 43, op := _, type := _, pos := _, after := _, guard := _ } :: _) _ _); refine wpList_load_row (o := ⟨some 43, _, _, _, _, _⟩) rfl 23 (.tmp 10) rfl (w.heap.size) rfl 23 ((cells8 b).toArray) (0, 0) _ hB0.out Tryd.underlying23 rfl sD.out ?_)
  refine (hPi.out w1 hb0.out).mono ?_
  rintro e w3 ⟨Al, cl, l, err, rfl, hsl, hLr, hk3⟩
  have hb3 : Hid (Below w.heap.size w w3) := hb0.out.trans (hk3.mono hb0.out.size)
  have hB3 : Hid (Blk w3 w.heap.size 23 (cells8 b).toArray) := (hk3.block _ hB0.out.lt).trans hB0.out
  have hg0 : Hid (w.heap.size ≤ w1.heap.size) := hb0.out.size
  have hg1 : Hid (w1.heap.size ≤ w3.heap.size) := hk3.size
  obtain ⟨q, hlq⟩ : ∃ q, Hid (l.length = q) := ⟨_, Lib.hid rfl⟩
  rw [hlq.out] at hLr
  rw [hlq.out]
  replace hLr := Lib.hid hLr
  clear hk3 hPi hB0 hb0
  rcases hsl with ⟨ks, hks, hsa, rfl⟩ | ⟨-, hl0, rfl⟩
  · replace hsa := Lib.hid hsa
    have hcu : Hid (cutsW wd s F b es ps = some ks) := hW.out.trans hks
    clear hks hW
    obtain ⟨hlen, hbg, hri, -⟩ := cutsW_some hcu.out
    have hnm : n = m := by rw [← hle.out, ← hlp.out]; exact hlen
    subst hnm
    replace hlen := Lib.hid hlen
    replace hbg := Lib.hid hbg
    replace hri := Lib.hid hri
    have hkq : Hid (ks.length = q) := hsa.out.1.symm.trans hlq.out
    have hqn : Hid (q ≤ n) := by have := cutsW_len hcu.out n hle.out; rw [hkq.out] at this; exact this
    have hq2 : (q : Int) ≤ 2200 := by have := hqn.out; omega
    go_upto_region 8 with (first
      | ((with_reducible change wpList _ _ _ ({ dst := some 58, op := _, type := _, pos := _, after := _, guard := _ } :: _) _ _); refine wpList_load_row (o := ⟨some 58, _, _, _, _, _⟩) rfl 23 (.tmp 10) rfl (w.heap.size) rfl 23 ((cells8 b).toArray) (0, 0) _ hB3.out Tryd.underlying23 rfl sD.out ?_)
      | ((with_reducible change wpList _ _ _ ({ dst := none, op := Op.store 23 (.tmp 18) _, type := _, pos := _, after := _, guard := _ } :: _) _ _); refine RefIncl0.wpList_store_whole0 rfl (o := ⟨none, _, _, _, _, _⟩) rfl 23 (.tmp 18) (.tmp 58) rfl (w3.heap.size) ((cells8 b).toArray) rfl rfl 23 (Z32) (Blk.new w3 _ _) sD.out hz32.out hone.out ?_; intro w4 hC4 hkx; have hk4 := Held.kept_fresh hkx; have hSt4 : Hid (St w1 w3 w4 q Al cl l 0) := (St.start hLr.out).below hk4; replace hC4 := Lib.hid hC4; clear hkx hk4; generalize hge : w3.heap.size = gc at *; replace hge := Lib.hid hge))
    have hJ0 : Hid (Jn wd s F b es ps ks 0 F b 0) := Jn.start hcu.out
    have hF40 : Hid (n ≠ 0 → F ≤ 1099511627776) := fun h0 => by
      have hk0 : 0 < ks.length := Nat.pos_of_ne_zero fun e => by
        obtain ⟨h1, -⟩ := hJ0.out.done e.symm
        have := hle.out
        omega
      obtain ⟨n1, -, h1, -, h2, -⟩ := hJ0.out.next hlen.out hk0
      have := reach_small h2 h1
      omega
    go_wp2_with fail
    go_loopw [17, 19] (fun u v wr => ∃ (i lo : Nat) (F' : Int) (b' : Text), u = .int .i64 (lo : Int) ∧ v = .int .i64 (i : Int) ∧ Hid (Jn wd s F b es ps ks i F' b' lo) ∧ Hid (b'.length = 32) ∧ Hid (Blk wr gc 23 (cells8 b').toArray) ∧ Hid (St w1 w3 wr q Al cl l i)) (fun _ v _ => q - (intOf v).toNat)
    case atStart => exact ⟨0, 0, F, b, rfl, rfl, hJ0.out, hb.out, hC4.out, hSt4.out⟩
    case round =>
      clear hC4 hSt4 hJ0
      obtain ⟨i, lo, F', b', rfl, rfl, hJ, hb', hC, hSt⟩ := hrel
      have hbr : Hid (Below w.heap.size w wr) := hSt.out.old_of hb3.out hg0.out hb3.out.size
      have hlo2 : (lo : Int) ≤ 2200 := by have := hJ.out.lo; have := hle.out; omega
      have hiq : Hid (i ≤ q) := by have := hJ.out.le; have := hkq.out; show _ ≤ _; omega
      have hi2 : (i : Int) ≤ 2200 := by have := hiq.out; omega
      by_cases hlt : i < q
      · have y1 : (i : Int) < (q : Int) := by omega
        have y0 : (0 : Int) ≤ (i : Int) := by omega
        obtain ⟨p, hpi⟩ : ∃ p, Hid (l[i]? = some p) := ⟨_, List.getElem?_eq_getElem (by rw [hlq.out]; exact hlt)⟩
        obtain ⟨nk, hki, hnk0, hnle, hre, hJ2⟩ := hJ.out.next hlen.out (by rw [hkq.out]; exact hlt)
        obtain ⟨gl, rfl⟩ := LrO.addr hSt.out.lr (by omega)
        obtain ⟨B, hBl, hPO⟩ := hSt.out.pc (Nat.le_refl _) hpi.out
        have hsy := hsa.out.2 i p _ hpi.out hki
        obtain ⟨s1, F1, b1, pes, pps, pA, pn, pc, pA2, pm, pc2⟩ := p
        obtain ⟨x1, x2, x3, x4, x5⟩ := hsy
        obtain rfl : s = s1 := x1.symm
        obtain rfl : F' = F1 := x2.symm
        obtain rfl : b' = b1 := x3.symm
        have hes : Hid (pes = (es.drop lo).take nk) := x4
        have hal : Hid (SamePiece.Alike pps ((ps.drop lo).take nk)) := x5
        have hln : pes.length = nk := by rw [hes.out, List.length_take, List.length_drop]; omega
        have hlm : pps.length = nk := by rw [hal.out.len, List.length_take, List.length_drop]; have := hlen.out; omega
        obtain rfl : nk = pn := by rw [← hln]; exact hPO.ok.he
        obtain rfl : nk = pm := by rw [← hlm]; exact hPO.ok.hp
        replace hln := Lib.hid hln
        replace hlm := Lib.hid hlm
        replace hPO := Lib.hid hPO
        replace hBl := Lib.hid hBl
        replace hJ2 := Lib.hid hJ2
        replace hre := Lib.hid hre
        replace hki := Lib.hid hki
        have hnk := Lib.hid hnk0
        have hnl : Hid (lo + nk ≤ n) := by show _ ≤ _; rw [← hle.out]; exact hnle
        have hlt' : Hid (i < q) := hlt
        have y2 : ¬ ((nk : Int) = 0) := by omega
        have hn2' : (nk : Int) ≤ 2200 := by have := hnl.out; omega
        have z1 : IntKind.i64.wrap ((lo : Int) + (nk : Int)) = ((lo + nk : Nat) : Int) := by rw [IntWalk.i64_in _ (by omega)]; omega
        have z2 : IntKind.i64.wrap (F + (lo : Int)) = F' := by rw [← hJ.out.F]; exact IntWalk.i64_in _ (by have := reach_small hre.out hnk.out; have := beg_pos hJ.out.beg; omega)
        have y3 : ¬ ((n : Int) < (lo : Int) + (nk : Int)) := by have := hnl.out; omega
        have y4 : ((nk : Int) == 0) = false := beq_eq_false_iff_ne.2 (by omega)
        clear x1 x2 x3 x4 x5 hlt hnk0 hnle
        obtain ⟨cs, hcs⟩ : ∃ cs, Hid (pieceCells s F' b' (.slice pA nk pc) (.slice pA2 nk pc2) = cs) := ⟨_, Lib.hid rfl⟩
        have sP : Hid ((Tryd.prog.info? 83).map (·.size) = some cs.toArray.size) := by show _ = _; rw [← hcs.out]; exact pc_info hb'.out
        have sPl : Hid ((Tryd.prog.info? 83).map (·.size) = some cs.length) := by have h := sP.out; rw [List.size_toArray] at h; exact h
        have zPs : Hid (zP.size = cs.toArray.size) := by show _ = _; rw [← hcs.out]; exact (pc_size hb'.out).symm
        have oP : Hid ((cs.toArray.all fun v => v.oneCell') = true) := by show _ = _; rw [← hcs.out]; exact pc_one rfl rfl
        have hat : Hid (∀ j u, cs[j]? = some u → wr.cell? ⟨gl, i * 36 + j, none⟩ = some u) := fun j u hu => hSt.out.cell hpi.out (by rw [← hcs.out] at hu; exact hu)
        obtain ⟨wA, rfl⟩ : ∃ wA, wA = wr := ⟨_, rfl⟩
        go_upto_region 12 with (first
          | ((with_reducible change wpList _ _ _ ({ dst := some 68, op := _, type := _, pos := _, after := _, guard := _ } :: _) _ _); refine wpList_load_part (o := ⟨some 68, _, _, _, _, _⟩) rfl 83 (.tmp 67) rfl (gl) ((i * 36)) rfl (cs) _ hat.out Tryd.underlying83 rfl sPl.out ?_)
          | ((with_reducible change wpList _ _ _ ({ dst := none, op := Op.store 83 (.tmp 20) _, type := _, pos := _, after := _, guard := _ } :: _) _ _); refine RefIncl0.wpList_store_whole0 rfl (o := ⟨none, _, _, _, _, _⟩) rfl 83 (.tmp 20) (.tmp 68) rfl (wA.heap.size) (cs.toArray) rfl rfl 83 (zP) (Blk.new wA _ _) sP.out zPs.out oP.out ?_; intro wP hP hkx; have hkP := Held.kept_fresh hkx; replace hP := Lib.hid hP; replace hkP := Lib.hid hkP; clear hkx; generalize hgpe : wA.heap.size = gp at *; replace hgpe := Lib.hid hgpe))
        have hbP : Hid (Below w.heap.size w wP) := hbr.out.trans (hkP.out.mono (by rw [← hgpe.out]; exact hbr.out.size))
        have hCP : Hid (Blk wP gc 23 (cells8 b').toArray) := (hkP.out.block _ (by rw [← hgpe.out]; exact hC.out.lt)).trans hC.out
        have hStP : Hid (St w1 w3 wP q (some ⟨gl, 0, none⟩) cl l i) := hSt.out.below (by rw [hgpe.out]; exact hkP.out)
        have hgc : Hid (w3.heap.size = gc) := hge.out
        have hgpc : Hid (gc < gp) := by show _ < _; rw [← hgpe.out]; exact hC.out.lt
        have c0 : wP.cell? ⟨gp, 0, none⟩ = some (.string s) := (hP.out.cell 0).trans (by rw [List.getElem?_toArray, ← hcs.out]; exact pc_name)
        have c1 : wP.cell? ⟨gp, 1, none⟩ = some (.int .i64 F') := (hP.out.cell 1).trans (by rw [List.getElem?_toArray, ← hcs.out]; exact pc_first)
        have c34 : wP.cell? ⟨gp, 34, none⟩ = some (.slice pA nk pc) := (hP.out.cell 34).trans (by rw [List.getElem?_toArray, ← hcs.out]; exact pc_events hb'.out)
        have hcb : Hid (∀ j v, (cells8 b')[j]? = some v → wP.cell? ⟨gp, 2 + j, none⟩ = some v) := fun j v hv => (hP.out.cell (2 + j)).trans (by rw [List.getElem?_toArray, ← hcs.out]; exact pc_before j v hv)
        have sDl : Hid ((Tryd.prog.info? 23).map (·.size) = some (cells8 b').length) := by show _ = _; rw [cells8_len, hb'.out]; exact size31
        have sDb := Lib.hid (dig_size b' hb'.out)
        have hcm : Hid ((binOp .neq 23 (.agg (cells8 b').toArray) (.agg (cells8 b').toArray)).run Tryd.prog wP = .ok (.bool false) wP) := by show _ = _; rw [neq_dig b' b' hb'.out hb'.out, decide_eq_true rfl]; rfl
        have hEn : Hid (Calls Tryd.prog 35 #[.agg cs.toArray] wP fun e w' => ∃ A4 c4 n4, e = .returned (.tuple #[.slice A4 n4 c4, .int .i64 0]) ∧ Below wP.heap.size wP w') := by
          show Calls _ _ _ _ _
          have hok : okP s F' b' pes pps := join_ok hlen.out hri.out hJ.out.beg (by rw [hle.out]; exact hnl.out) hnk.out hre.out hes.out hal.out
          have ho := (hPO.out.below (by rw [hgpe.out]; exact hkP.out)).ok
          rw [← hcs.out]
          refine (encPiece_any s hs.out F' b' hb'.out pes nk hln.out (by omega) pA pc pps nk hlm.out pA2 pc2 wP ho.e ho.p (fun e he => hshH.out e (List.mem_of_mem_drop (List.mem_of_mem_take (hes.out ▸ he)))) (alike_few hal.out (fun x hx => hnnH.out x (List.mem_of_mem_drop (List.mem_of_mem_take hx))))).mono ?_
          rintro e w' ⟨A4, c4, t4, err, rfl, -, h4, hk⟩
          unfold pieceWant at h4
          rw [if_pos hok] at h4
          rcases h4 with ⟨-, rfl⟩ | ⟨h4, -⟩
          · exact ⟨_, _, _, rfl, hk⟩
          · cases h4
        clear hC hSt hbr hat sPl zPs oP hkP
        go_upto_region 14 with (first
          | ((with_reducible change wpList _ _ _ ({ dst := some 83, op := _, type := _, pos := _, after := _, guard := _ } :: _) _ _); (with_reducible refine Veil.out ?_); refine wpList_partW (o := ⟨some 83, _, _, _, _, _⟩) rfl 23 (.tmp 82) rfl (gp) (2) rfl (cells8 b') _ hcb.out Tryd.underlying23 rfl sDl.out ?_)
          | ((with_reducible change wpList _ _ _ ({ dst := some 84, op := _, type := _, pos := _, after := _, guard := _ } :: _) _ _); (with_reducible refine Veil.out ?_); refine wpList_rowW (o := ⟨some 84, _, _, _, _, _⟩) rfl 23 (.tmp 18) rfl (gc) rfl 23 ((cells8 b').toArray) (0, 0) _ hCP.out Tryd.underlying23 rfl sDb.out ?_)
          | ((with_reducible change wpList _ _ _ ({ dst := some 85, op := _, type := _, pos := _, after := _, guard := _ } :: _) _ _); (with_reducible refine Veil.out ?_); refine CmpW.wpList_cmpW (o := ⟨some 85, _, _, _, _, _⟩) rfl .neq 23 23 (.tmp 83) (.tmp 84) rfl ((cells8 b').toArray) ((cells8 b').toArray) rfl rfl (by kernel_rfl) (_) (hcm.out) ?_))
        clear c0 c1 hcb sDl hcm z1 z2 y3 y4
        go_upto_region 15 with (first
          | ((with_reducible change wpList _ _ _ ({ dst := some 104, op := _, type := _, pos := _, after := _, guard := _ } :: _) _ _); refine wpList_load_row (o := ⟨some 104, _, _, _, _, _⟩) rfl 83 (.tmp 20) rfl (gp) rfl 83 (cs.toArray) (0, 0) _ hP.out Tryd.underlying83 rfl sP.out ?_)
          | (go_at_call 35; refine hEn.out.mono ?_; rintro e w8 ⟨A4, c4, n4, rfl, hk8⟩; clear c34; have hb8 : Hid (Below w.heap.size w w8) := hbP.out.trans (hk8.mono hbP.out.size); have hC8 : Hid (Blk w8 gc 23 (cells8 b').toArray) := (hk8.block _ hCP.out.lt).trans hCP.out; have hP8 : Hid (Blk w8 gp 83 cs.toArray) := (hk8.block _ hP.out.lt).trans hP.out; have hSt8 : Hid (St w1 w3 w8 q (some ⟨gl, 0, none⟩) cl l i) := hStP.out.below hk8; clear hk8 hEn hbP hCP hStP hP))
        go_wp2_with fail
        have hPc34 : Hid (∀ w', Kept (· = gc) w8 w' → w'.cell? ⟨gp, 34, none⟩ = some (.slice pA nk pc)) := fun w' hk => (hk.cell (p := ⟨gp, 34, none⟩) hP8.out.lt (by show ¬ gp = gc; have := hgpc.out; omega)).trans ((hP8.out.cell 34).trans (by rw [List.getElem?_toArray, ← hcs.out]; exact pc_events hb'.out))
        have hPc35 : Hid (∀ w', Kept (· = gc) w8 w' → w'.cell? ⟨gp, 35, none⟩ = some (.slice pA2 nk pc2)) := fun w' hk => (hk.cell (p := ⟨gp, 35, none⟩) hP8.out.lt (by show ¬ gp = gc; have := hgpc.out; omega)).trans ((hP8.out.cell 35).trans (by rw [List.getElem?_toArray, ← hcs.out]; exact pc_proofs hb'.out))
        clear hPO hBl
        go_loopw [17, 23] (fun u v wr => ∃ (j kk : Nat), u = .int .i64 (kk : Int) ∧ v = .int .i64 (j : Int) ∧ Hid (kk = lo + j) ∧ Hid (j ≤ nk) ∧ Hid (Blk wr gc 23 (cells8 (Chain.chainOf wd b' (pes.take j))).toArray) ∧ Hid (Kept (· = gc) w8 wr)) (fun _ v _ => nk - (intOf v).toNat)
        case atStart => exact ⟨0, lo, rfl, rfl, rfl, Nat.zero_le _, hC8.out, Kept.refl _ _⟩
        case round =>
          clear hC8
          obtain ⟨j, kk, rfl, rfl, hkk, hjn, hC9, hK9⟩ := hrel
          obtain ⟨w9, rfl⟩ : ∃ w9, w9 = wr := ⟨_, rfl⟩
          have hSt9 : Hid (St w1 w3 w9 q (some ⟨gl, 0, none⟩) cl l i) := hSt8.out.kept_ge hK9.out (Nat.le_of_eq hgc.out)
          have hb9 : Hid (Below w.heap.size w w9) := hSt9.out.old_of hb3.out hg0.out hb3.out.size
          have c34 := hPc34.out w9 hK9.out
          have hjI : (j : Int) ≤ 2200 := by have := hjn.out; omega
          have hkI : (kk : Int) ≤ 2200 := by have := hjn.out; have := hkk.out; have := hnl.out; omega
          by_cases hlt : j < nk
          · have u1 : (j : Int) < (nk : Int) := by omega
            have u0 : (0 : Int) ≤ (j : Int) := by omega
            have v1 : (kk : Int) < (n : Int) := by have := hkk.out; have := hnl.out; omega
            have v0 : (0 : Int) ≤ (kk : Int) := by omega
            obtain ⟨B9, -, hPO9⟩ := hSt9.out.pc (Nat.le_refl _) hpi.out
            have ho := hPO9.ok
            obtain ⟨qq, hqi⟩ : ∃ e, Hid (pes[j]? = some e) := ⟨_, List.getElem?_eq_getElem (by rw [hln.out]; exact hlt)⟩
            obtain ⟨x, hxi⟩ : ∃ e, Hid (pps[j]? = some e) := ⟨_, List.getElem?_eq_getElem (by rw [hlm.out]; exact hlt)⟩
            obtain ⟨y, hyi⟩ : ∃ e, Hid (ps[kk]? = some e) := ⟨_, List.getElem?_eq_getElem (by rw [hlp.out]; have := v1; omega)⟩
            have hqe : es[kk]? = some qq := by have h := hqi.out; rw [hes.out, List.getElem?_take, if_pos hlt, List.getElem?_drop, ← hkk.out] at h; exact h
            have hxy := hal.out.at_ hxi.out (show ((ps.drop lo).take nk)[j]? = some y by rw [List.getElem?_take, if_pos hlt, List.getElem?_drop, ← hkk.out]; exact hyi.out)
            obtain ⟨bE, oE, e1, hlE, hcE⟩ := ho.e (by have := hln.out; show 0 < pes.length; omega)
            obtain rfl : pA = some ⟨bE, oE, none⟩ := e1
            obtain ⟨Ai, ci, hc1, hc2, hc3, hc4⟩ := hcE j qq hqi.out
            obtain ⟨bA, oA, e2, hlA, hcA⟩ := (hpk.out w9 hb9.out).1 (by have := hle.out; omega)
            subst e2
            obtain ⟨Bi, di, hd1, hd2, hd3, hd4⟩ := hcA kk qq hqe
            obtain ⟨bP, oP, e3, hlP, hcP⟩ := Prs.at_ ho.p hxi.out
            obtain rfl : pA2 = some ⟨bP, oP, none⟩ := e3
            obtain ⟨bQ, oQ, e4, hlQ, hcQ⟩ := Prs.at_ (hpk.out w9 hb9.out).2 hyi.out
            subst e4
            obtain ⟨mq, hmq⟩ : ∃ m, Hid (qq.length = m) := ⟨_, Lib.hid rfl⟩
            rw [hmq.out] at hc1 hd1 hc2 hc3 hd3 hc4
            have hq47 : Hid (mq < 140737488355328) := by show _ < _; rw [← hmq.out]; exact hshH.out qq (List.mem_of_getElem? hqe)
            have hSm : Hid (∀ w', Below w9.heap.size w9 w' → Calls Tryd.prog 36 #[.slice Ai mq ci, .slice Bi mq di] w' fun e w'' => e = .returned (.bool true) ∧ Below w'.heap.size w' w'') := fun w' hb => Spelt.same_yes qq mq hmq.out hq47.out Ai Bi ci di w' (hc3.below hb) (hd3.below hb)
            have hSi : Hid (∀ w', Below w9.heap.size w9 w' → Calls Tryd.prog 21 #[.agg x.cells.toArray, .agg y.cells.toArray] w' fun e w'' => e = .returned (.bool true) ∧ Below w'.heap.size w' w'') := fun w' hb => by
              have h := sameIncl_all x.x x.y y.x y.y x.ds y.ds x.n y.n (alike_few hal.out (fun z hz => hnnH.out z (List.mem_of_mem_drop (List.mem_of_mem_take hz))) x (List.mem_of_getElem? hxi.out)) x.A y.A x.c y.c w' ((ho.p.2 x (List.mem_of_getElem? hxi.out)).1.below hb) (((hpk.out w9 hb9.out).2.2 y (List.mem_of_getElem? hyi.out)).1.below hb)
              rw [decide_eq_true ⟨hxy.1, hxy.2.1, hxy.2.2.2⟩] at h
              exact h
            have hLf : Hid (∀ w', Below w9.heap.size w9 w' → Calls Tryd.prog 38 #[.int .i64 wd, .slice Ai mq ci] w' fun e w'' => e = .returned (.agg (cells8 (Chain.leafOf wd qq)).toArray) ∧ Below w'.heap.size w' w'') := fun w' hb => leaf_any qq mq hmq.out Ai ci wd w' (hBs.out.below (hb9.out.trans (hb.mono hb9.out.size)) hBs.out.1) hq47.out (hc3.below hb) hc2 hc4
            have kE : Hid (∀ w', Below w9.heap.size w9 w' → w'.cell? ⟨bE, oE + j, none⟩ = some (.slice Ai mq ci)) := fun w' hb => (hb.cell (p := ⟨bE, oE + j, none⟩) hlE).trans hc1
            have kA : Hid (∀ w', Below w9.heap.size w9 w' → w'.cell? ⟨bA, oA + kk, none⟩ = some (.slice Bi mq di)) := fun w' hb => (hb.cell (p := ⟨bA, oA + kk, none⟩) hlA).trans hd1
            have kP : Hid (∀ w', Below w9.heap.size w9 w' → ∀ t u, x.cells[t]? = some u → w'.cell? ⟨bP, oP + j * 3 + t, none⟩ = some u) := fun w' hb t u hu => (hb.cell (p := ⟨bP, oP + j * 3 + t, none⟩) hlP).trans (by have h := hcP t u hu; rwa [show oP + (3 * j + t) = oP + j * 3 + t by omega] at h)
            have kQ : Hid (∀ w', Below w9.heap.size w9 w' → ∀ t u, y.cells[t]? = some u → w'.cell? ⟨bQ, oQ + kk * 3 + t, none⟩ = some u) := fun w' hb t u hu => (hb.cell (p := ⟨bQ, oQ + kk * 3 + t, none⟩) hlQ).trans (by have h := hcQ t u hu; rwa [show oQ + (3 * kk + t) = oQ + kk * 3 + t by omega] at h)
            have k34 : Hid (∀ w', Below w9.heap.size w9 w' → w'.cell? ⟨gp, 34, none⟩ = some (.slice (some ⟨bE, oE, none⟩) nk pc)) := fun w' hb => (hb.cell (p := ⟨gp, 34, none⟩) (Nat.lt_of_lt_of_le hP8.out.lt hK9.out.size)).trans c34
            have k35 : Hid (∀ w', Below w9.heap.size w9 w' → w'.cell? ⟨gp, 35, none⟩ = some (.slice (some ⟨bP, oP, none⟩) nk pc2)) := fun w' hb => (hb.cell (p := ⟨gp, 35, none⟩) (Nat.lt_of_lt_of_le hP8.out.lt hK9.out.size)).trans (hPc35.out w9 hK9.out)
            have hlt' : Hid (j < nk) := hlt
            have sI : Hid ((Tryd.prog.info? 51).map (·.size) = some x.cells.length) := by show _ = _; exact Hand.sizeIn
            have sI2 : Hid ((Tryd.prog.info? 51).map (·.size) = some y.cells.length) := by show _ = _; exact Hand.sizeIn
            clear hlt hcE hcA hcP hcQ hc1 hc2 hc3 hc4 hd1 hd2 hd3 hd4 hPO9 ho hqe hxy hlE hlA hlP hlQ
            go_wp2_with fail
            go_upto_region 20 with fail
            refine q_region (Class w9) (by kernel_rfl) (by kernel_rfl) (Class.mk_ ((Below.refl _ _).drew)) ?_
            refine q_val (v := .pointer (some ⟨gp, 34, none⟩)) rfl (fun w' hw' => by go_simp) ?_
            (intro K hK; go_simp; refine hK _ ?_; clear hK K)
            refine q_val (v := .slice (some ⟨bE, oE, none⟩) nk pc) rfl (fun w' hw' => by have hc := k34.out w' hw'.below; go_simp) ?_
            (intro K hK; go_simp; refine hK _ ?_; clear hK K)
            refine q_move rfl (.tmp 23) rfl ?_
            (intro K hK; go_simp; refine hK _ ?_; clear hK K)
            refine q_val (v := .pointer (some ⟨bE, oE + j, none⟩)) rfl (fun w' hw' => by go_simp) ?_
            (intro K hK; go_simp; refine hK _ ?_; clear hK K)
            refine q_val (v := .slice Ai mq ci) rfl (fun w' hw' => by have hc := kE.out w' hw'.below; go_simp) ?_
            (intro K hK; go_simp; refine hK _ ?_; clear hK K)
            refine q_move rfl (.tmp 4) rfl ?_
            (intro K hK; go_simp; refine hK _ ?_; clear hK K)
            refine q_move rfl (.tmp 17) rfl ?_
            (intro K hK; go_simp; refine hK _ ?_; clear hK K)
            refine q_val (v := .pointer (some ⟨bA, oA + kk, none⟩)) rfl (fun w' hw' => by go_simp) ?_
            (intro K hK; go_simp; refine hK _ ?_; clear hK K)
            refine q_val (v := .slice Bi mq di) rfl (fun w' hw' => by have hc := kA.out w' hw'.below; go_simp) ?_
            (intro K hK; go_simp; refine hK _ ?_; clear hK K)
            refine q_fn (v := .bool true) (args := #[.slice Ai mq ci, .slice Bi mq di]) rfl _ _ rfl rfl Tryd.func36 (by kernel_rfl) (by kernel_rfl) (fun w' hw' => (hSm.out w' hw'.below).mono (fun e w'' ⟨he, hw⟩ => ⟨he, hw'.next hw⟩)) ?_
            (intro K hK; go_simp; refine hK _ ?_; clear hK K)
            refine q_val (v := .bool false) rfl (fun w' hw' => by go_simp) ?_
            (intro K hK; go_simp; refine hK _ ?_; clear hK K)
            refine q_move rfl (.tmp 127) rfl ?_
            (intro K hK; go_simp; refine hK _ ?_; clear hK K)
            refine q_val (v := .pointer (some ⟨gp, 35, none⟩)) rfl (fun w' hw' => by go_simp) ?_
            (intro K hK; go_simp; refine hK _ ?_; clear hK K)
            refine q_val (v := .slice (some ⟨bP, oP, none⟩) nk pc2) rfl (fun w' hw' => by have hc := k35.out w' hw'.below; go_simp) ?_
            (intro K hK; go_simp; refine hK _ ?_; clear hK K)
            refine q_move rfl (.tmp 23) rfl ?_
            (intro K hK; go_simp; refine hK _ ?_; clear hK K)
            refine q_val (v := .pointer (some ⟨bP, oP + j * 3, none⟩)) rfl (fun w' hw' => by go_simp) ?_
            (intro K hK; go_simp; refine hK _ ?_; clear hK K)
            refine q_part rfl 51 (.tmp 132) rfl bP (oP + j * 3) rfl (x.cells) _ (fun w' hw' => kP.out w' hw'.below) Tryd.underlying51 rfl sI.out ?_
            (intro K hK; go_simp; refine hK _ ?_; clear hK K)
            refine q_move rfl (.tmp 5) rfl ?_
            (intro K hK; go_simp; refine hK _ ?_; clear hK K)
            refine q_move rfl (.tmp 17) rfl ?_
            (intro K hK; go_simp; refine hK _ ?_; clear hK K)
            refine q_val (v := .pointer (some ⟨bQ, oQ + kk * 3, none⟩)) rfl (fun w' hw' => by go_simp) ?_
            (intro K hK; go_simp; refine hK _ ?_; clear hK K)
            refine q_part rfl 51 (.tmp 136) rfl bQ (oQ + kk * 3) rfl (y.cells) _ (fun w' hw' => kQ.out w' hw'.below) Tryd.underlying51 rfl sI2.out ?_
            (intro K hK; go_simp; refine hK _ ?_; clear hK K)
            refine q_fn (v := .bool true) (args := #[.agg x.cells.toArray, .agg y.cells.toArray]) rfl _ _ rfl rfl Tryd.func21 (by kernel_rfl) (by kernel_rfl) (fun w' hw' => (hSi.out w' hw'.below).mono (fun e w'' ⟨he, hw⟩ => ⟨he, hw'.next hw⟩)) ?_
            (intro K hK; go_simp; refine hK _ ?_; clear hK K)
            refine q_val (v := .bool false) rfl (fun w' hw' => by go_simp) ?_
            (intro K hK; go_simp; refine hK _ ?_; clear hK K)
            refine q_val (v := .bool false) rfl (fun w' hw' => by go_simp) ?_
            (intro K hK; go_simp; refine hK _ ?_; clear hK K)
            refine q_nil ?_
            intro wa hwa
            have hba : Hid (Below w9.heap.size w9 wa) := hwa.below
            have hCa : Hid (Blk wa gc 23 (cells8 (Chain.chainOf wd b' (pes.take j))).toArray) := (hwa.below.block _ hC9.out.lt).trans hC9.out
            clear hwa hSm hSi kA kP kQ k35 sI sI2
            obtain ⟨cx, hcx⟩ : ∃ x, Hid (x = Chain.chainOf wd b' (pes.take j)) := ⟨_, Lib.hid rfl⟩
            have hxl : Hid (cx.length = 32) := by show _ = _; rw [hcx.out]; exact Chain.chainOf_len wd b' hb'.out _
            have hstc := Lib.hid (Chain.chainOf_step wd b' pes j qq hqi.out)
            rw [← hcx.out] at hCa hstc
            obtain ⟨cy, hcy⟩ : ∃ y, Hid (y = Chain.leafOf wd qq) := ⟨_, Lib.hid rfl⟩
            obtain ⟨cz, hcz⟩ : ∃ z, Hid (z = Chain.linkOf wd cx cy) := ⟨_, Lib.hid rfl⟩
            have hyl : Hid (cy.length = 32) := by show _ = _; rw [hcy.out]; exact Chain.leafOf_len _ _
            have hzl : Hid (cz.length = 32) := by show _ = _; rw [hcz.out]; exact Chain.linkOf_len _ _ _
            rw [← hcy.out, ← hcz.out] at hstc
            rw [← hcy.out] at hLf
            have hLk : Hid (∀ w', Below w9.heap.size w9 w' → Calls Tryd.prog 37 #[.int .i64 wd, .agg (cells8 cx).toArray, .agg (cells8 cy).toArray] w' fun e w'' => e = .returned (.agg (cells8 cz).toArray) ∧ Below w'.heap.size w' w'') := fun w' hb => by
              have h := link_any cx cy hxl.out hyl.out wd w' (hBs.out.below (hb9.out.trans (hb.mono hb9.out.size)) hBs.out.1)
              rw [hcz.out]
              exact h
            have sX : Hid ((Tryd.prog.info? 23).map (·.size) = some (cells8 cx).toArray.size) := dig_size cx hxl.out
            go_upto_region 22 with fail
            refine wp_region_class_tail 10 (Class wa) (by kernel_rfl) (by kernel_rfl) (Class.mk_ ((Below.refl _ _).drew)) ?_
            refine wpQuiet_move rfl (.tmp 0) rfl ?_
            (intro K hK; go_simp; refine hK _ ?_; clear hK K)
            refine wpQuiet_load_row rfl 23 (.tmp 18) rfl gc rfl 23 ((cells8 cx).toArray) (0, 0) _ (fun w' hw' => (hw'.below.block _ hCa.out.lt).trans hCa.out) Tryd.underlying23 rfl sX.out ?_
            (intro K hK; go_simp; refine hK _ ?_; clear hK K)
            refine wpQuiet_move rfl (.tmp 0) rfl ?_
            (intro K hK; go_simp; refine hK _ ?_; clear hK K)
            refine wpQuiet_val (v := .pointer (some ⟨gp, 34, none⟩)) rfl (fun w' hw' => by go_simp) ?_
            (intro K hK; go_simp; refine hK _ ?_; clear hK K)
            refine wpQuiet_val (v := .slice (some ⟨bE, oE, none⟩) nk pc) rfl (fun w' hw' => by have hc := k34.out w' (hba.out.trans (hw'.below.mono hba.out.size)); go_simp) ?_
            (intro K hK; go_simp; refine hK _ ?_; clear hK K)
            refine wpQuiet_move rfl (.tmp 23) rfl ?_
            (intro K hK; go_simp; refine hK _ ?_; clear hK K)
            refine wpQuiet_val (v := .pointer (some ⟨bE, oE + j, none⟩)) rfl (fun w' hw' => by go_simp) ?_
            (intro K hK; go_simp; refine hK _ ?_; clear hK K)
            refine wpQuiet_val (v := .slice Ai mq ci) rfl (fun w' hw' => by have hc := kE.out w' (hba.out.trans (hw'.below.mono hba.out.size)); go_simp) ?_
            (intro K hK; go_simp; refine hK _ ?_; clear hK K)
            refine wpQuiet_fn (v := .agg (cells8 cy).toArray) (args := #[.int .i64 wd, .slice Ai mq ci]) rfl _ _ rfl rfl Tryd.func38 (by kernel_rfl) (by kernel_rfl) (fun w' hw' => (hLf.out w' (hba.out.trans (hw'.below.mono hba.out.size))).mono (fun e w'' ⟨he, hw⟩ => ⟨he, hw'.next hw⟩)) ?_
            (intro K hK; go_simp; refine hK _ ?_; clear hK K)
            refine wpQuiet_fn (v := .agg (cells8 cz).toArray) (args := #[.int .i64 wd, .agg (cells8 cx).toArray, .agg (cells8 cy).toArray]) rfl _ _ rfl rfl Tryd.func37 (by kernel_rfl) (by kernel_rfl) (fun w' hw' => (hLk.out w' (hba.out.trans (hw'.below.mono hba.out.size))).mono (fun e w'' ⟨he, hw⟩ => ⟨he, hw'.next hw⟩)) ?_
            (intro K hK; go_simp; refine hK _ ?_; clear hK K)
            refine wpQuiet_nil ?_
            intro wb hwb
            have hCb := Lib.hid ((hwb.below.block _ hCa.out.lt).trans hCa.out)
            have hKb : Hid (Kept (· = gc) w8 wb) := (hK9.out.trans (Kept.of_below (S := (· = gc)) hba.out) (fun _ _ h => h)).trans (Kept.of_below (S := (· = gc)) hwb.below) (fun _ _ h => h)
            clear hwb
            simp only [List.drop]
            have sZ : Hid ((Tryd.prog.info? 23).map (·.size) = some (cells8 cz).toArray.size) := dig_size cz hzl.out
            have sXZ : Hid ((cells8 cx).toArray.size = (cells8 cz).toArray.size) := by show _ = _; simp [cells8_len, hxl.out, hzl.out]
            have oZ := Lib.hid (dig_one cz)
            go_wp2_with ((with_reducible change wpList _ _ _ ({ dst := none, op := Op.store 23 _ _, type := _, pos := _, after := _, guard := _ } :: _) _ _); refine wpList_store_row (o := ⟨none, _, _, _, _, _⟩) rfl 23 (.tmp 18) (.tmp 150) rfl (gc) ((cells8 cz).toArray) rfl rfl 23 ((cells8 cx).toArray) hCb.out sZ.out sXZ.out oZ.out ?_)
            go_roundw
            case rel => exact ⟨j + 1, kk + 1, by go_num, by go_num, (show kk + 1 = lo + (j + 1) by have := hkk.out; omega), hlt'.out, (show Blk _ _ _ _ by rw [hstc.out]; exact setRow_heap _ _ _ _ _ _ hCb.out), Bytes.Kept.setRow (S := (· = gc)) hKb.out rfl _⟩
            case measure => (have := hlt'.out; simp [intOf]; omega)
          · obtain rfl : j = nk := by have := hjn.out; omega
            have u1 : (j : Int) ≤ (j : Int) := Int.le_refl _
            rw [List.take_of_length_le (Nat.le_of_eq hln.out)] at hC9
            obtain ⟨cb, hcb⟩ : ∃ x, Hid (Chain.chainOf wd b' pes = x) := ⟨_, Lib.hid rfl⟩
            rw [hcb.out] at hC9
            have hcbl : Hid (cb.length = 32) := by show _ = _; rw [← hcb.out]; exact Chain.chainOf_len wd b' hb'.out _
            have hJb : Hid (begB s.data.toList F' b' = true) := hJ.out.beg
            have hJ3 : Hid (Jn wd s F b es ps ks (i + 1) (F' + (j : Nat)) cb kk) := by
              have h := hJ2.out
              rw [← hes.out, hcb.out, ← hkk.out] at h
              exact h
            have hkn : Hid (kk ≤ n) := by have := hkk.out; have := hnl.out; show _ ≤ _; omega
            have hP9 : Hid (Blk w9 gp 83 cs.toArray) := hP8.out.kept hK9.out (by show ¬ gp = gc; have := hgpc.out; omega)
            have w1I : IntKind.i64.wrap ((i : Int) + 1) = ((i + 1 : Nat) : Int) := by rw [IntWalk.i64_in _ (by omega)]; omega
            clear hP8 hSt8 hPc34 hPc35 hK9 hlt hJ hJ2 hjn hb8
            by_cases hlt2 : i + 1 < q
            · have u2 : ((i + 1 : Nat) : Int) < (q : Int) := by omega
              have u3 : ¬ ((i : Int) + 1 < 0) := by omega
              obtain ⟨p2, hpi2⟩ : ∃ p, Hid (l[i + 1]? = some p) := ⟨_, List.getElem?_eq_getElem (by rw [hlq.out]; exact hlt2)⟩
              obtain ⟨n2, hki2, hn20, hnle2, -, -⟩ := hJ3.out.next hlen.out (by rw [hkq.out]; exact hlt2)
              have hsy2 := hsa.out.2 (i + 1) p2 _ hpi2.out hki2
              have hb2l : Hid (p2.b.length = 32) := hSt9.out.lr.hb p2 (List.mem_of_getElem? hpi2.out)
              have hSt9' : Hid (St w1 w3 w9 q (some ⟨gl, 0, none⟩) cl l (i + 1)) := hSt9.out.step (S := fun _ => False) (Nat.le_succ _) (Kept.refl _ _) (fun _ h => h.elim)
              obtain ⟨B1, hB1, hPO1, -⟩ := St.pcU hSt9.out (Nat.le_refl _) hpi.out
              obtain ⟨B2, hB2, hPO2, hun2⟩ := St.pcU hSt9'.out (Nat.le_refl _) hpi2.out
              obtain ⟨s2, F2, b2, qes, qps, qA, qn, qc, qA2, qm, qc2⟩ := p2
              obtain ⟨-, -, -, x4, x5⟩ := hsy2
              have x4 : qes = (es.drop kk).take n2 := x4
              have x5 : SamePiece.Alike qps ((ps.drop kk).take n2) := x5
              have hkn2 : Hid (kk < n) := by have := hle.out; show _ < _; omega
              have hqn : qes.length = qn := hPO2.ok.he
              have hqm : qps.length = qm := hPO2.ok.hp
              have hq1 : qes.length = n2 := by rw [x4, List.length_take, List.length_drop]; omega
              have hq2 : qps.length = n2 := by rw [x5.len, List.length_take, List.length_drop]; have := hlen.out; omega
              obtain ⟨e2, he2⟩ : ∃ e, qes[0]? = some e := ⟨_, List.getElem?_eq_getElem (by omega)⟩
              obtain ⟨x2, hx2⟩ : ∃ e, Hid (qps[0]? = some e) := ⟨qps[0]'(by omega), Lib.hid (List.getElem?_eq_getElem _)⟩
              obtain ⟨y2, hy2⟩ : ∃ e, Hid (ps[kk]? = some e) := ⟨ps[kk]'(by have := hlp.out; have := hkn2.out; omega), Lib.hid (List.getElem?_eq_getElem _)⟩
              have he2k : Hid (es[kk]? = some e2) := by have h := he2; rw [x4, List.getElem?_take, if_pos (by omega), List.getElem?_drop, Nat.add_zero] at h; exact h
              have hxy2 : Hid (SamePiece.Alike [x2] [y2]) := by
                obtain ⟨a1, a2, a3, a4⟩ := x5.at_ hx2.out (show ((ps.drop kk).take n2)[0]? = some y2 by rw [List.getElem?_take, if_pos (by omega), List.getElem?_drop, Nat.add_zero]; exact hy2.out)
                show List.map _ _ = List.map _ _
                rw [List.map_singleton, List.map_singleton, a1, a2, a3, a4]
              obtain ⟨xs2, hoe2, htv2⟩ := hPO2.oe
              obtain ⟨xs, hoe, htv⟩ := hPO1.oe
              obtain ⟨v2, hv2⟩ : ∃ v, xs2[0]? = some v := ⟨_, List.getElem?_eq_getElem (by have h : xs2.length = qes.length := htv2.1; omega)⟩
              have hvo : Hid (w9.ownsRow (w1.heap.size + 1) 5 1 v2 e2.length (cells8 e2)) := own_mono (htv2.2 0 v2 e2 hv2 he2) hB2
              obtain ⟨Av, cv, rfl⟩ := Intact17.own_len hvo.out
              obtain ⟨bE2, oE2, c5, e5, hlE2, hcE2⟩ := Intact17.own_at (by decide) hoe2 (by show 0 < qn; omega)
              injection e5 with e5 _ e6
              subst e5 e6
              obtain ⟨me, hme⟩ : ∃ m, Hid (e2.length = m) := ⟨_, Lib.hid rfl⟩
              rw [hme.out] at hvo hv2
              have hqn0 : ¬ (qn = 0) := by omega
              have hqm0 : ¬ (qm = 0) := by omega
              have hE2B : B2 ≤ bE2 := (hoe2.lt bE2 rfl).1
              obtain ⟨hu1, hu2⟩ := hun2 i _ hpi.out (Nat.lt_succ_self i)
              obtain ⟨B0, hB0e⟩ : ∃ B, Hid (w1.heap.size + 1 = B) := ⟨_, Lib.hid rfl⟩
              rw [hB0e.out] at hvo hB1 hB2
              have hPOm : Hid (PcO w9 B0 ⟨s, F', b', pes, pps, pA, j, pc, pA2, j, pc2⟩) := hPO1.mono hB1
              have hoeM : Hid (w9.ownsRow B0 31 1 (.slice pA j pc) j xs) := own_mono hoe hB1
              have htvM : Hid (Tov w9 B0 xs pes) := Tov.mono htv hB1
              have hlg : Hid (gl < gp ∧ gl ≠ gp) := by
                have h := (hSt9.out.lr.ow.lt gl rfl).2
                have := hgc.out; have := hgpc.out
                show _ ∧ _
                omega
              have hglE : Hid (∀ k, some k = Value.ownBlock (.slice pA j pc) → k ≠ gl) := fun k e h => own_own hoe hSt9.out.row (by decide) k e.symm (by rw [h]; rfl)
              have hglP : Hid (∀ k, some k = Value.ownBlock (.slice pA2 j pc2) → k ≠ gl) := fun k e h => own_own hPO1.op hSt9.out.row (by decide) k e.symm (by rw [h]; rfl)
              obtain ⟨KS, hKS⟩ : ∃ K : Nat → Prop, Hid (K = fun k => some k = Value.ownBlock (.slice pA j pc) ∨ k = gp) := ⟨_, Lib.hid rfl⟩
              have hcg34 : w9.cell? ⟨gl, (i + 1) * 36 + 34, none⟩ = some (.slice (some ⟨bE2, oE2, none⟩) qn qc) := hSt9.out.cell hpi2.out (pc_events hb2l.out)
              have kG : Hid (∀ w', Kept KS w9 w' → w'.cell? ⟨gl, (i + 1) * 36 + 34, none⟩ = some (.slice (some ⟨bE2, oE2, none⟩) qn qc)) := fun w' hk => (hk.cell (p := ⟨gl, (i + 1) * 36 + 34, none⟩) (hSt9.out.row.lt gl rfl).2 (by rw [hKS.out]; rintro (h | h); exact hglE.out _ h rfl; exact hlg.out.2 h)).trans hcg34
              have kE2 : Hid (∀ w', Kept KS w9 w' → w'.cell? ⟨bE2, oE2, none⟩ = some (.slice Av me cv)) := fun w' hk => (hk.cell (p := ⟨bE2, oE2, none⟩) hlE2 (by rw [hKS.out]; rintro (h | h); (have h5 : bE2 < B2 := hu1 _ h.symm; omega); exact blk_own hP9.out hoe2 (by decide) (by rw [← show bE2 = gp from h]; rfl))).trans (by have h := hcE2 0 _ hv2; rwa [Nat.add_zero] at h)
              have cE0 : w9.cell? ⟨gp, 34, none⟩ = some (.slice pA j pc) := (hP9.out.cell 34).trans (by rw [List.getElem?_toArray, ← hcs.out]; exact pc_events hb'.out)
              obtain ⟨j0, hj0, jz0, jz1, jz2⟩ := info_partsN Hand.infoTx
              have hs1 : Hid (j + 1 ≤ maxLen) := by show _ ≤ _; unfold maxLen; omega
              have hs2 : Hid ((j + 1) * 24 ≤ 140737488355328) := by show _ ≤ _; omega
              have s0 : Hid (Kept KS w9 w9.drew) := Kept.of_below ((Below.refl _ _).drew)
              have hu1' := Lib.hid hu1
              have hu2' := Lib.hid hu2
              have hx2m : Hid (x2 ∈ qps) := List.mem_of_getElem? hx2.out
              have hlenE : Hid (me < 140737488355328) := by show _ < _; rw [← hme.out]; exact hshH.out e2 (List.mem_of_getElem? he2k.out)
              clear hu1 hu2 hun2 hoe htv hPO1 hoe2 htv2 hv2 he2 x4 x5 hn20 hnle2 hq1 hq2 hqn hqm hcg34 hlE2 hcE2 hE2B hB1 hki2 hPO2
              go_upto_region 25 with fail
              go_cut [17] from 153 to 170 (fun v wr' => ∃ (AE' : Option Addr) (cE' : Nat), v = .int .i64 (kk : Int) ∧ Hid (PcO wr' B0 (withE ⟨s, F', b', pes, pps, pA, j, pc, pA2, j, pc2⟩ e2 AE' cE')) ∧ Hid (Blk wr' gp 83 (pieceCells s F' b' (.slice AE' (j + 1) cE') (.slice pA2 j pc2)).toArray) ∧ Hid (Kept KS w9 wr'))
              case first =>
                refine held_start (fun w' => Kept KS w9 w') 14 rfl (by kernel_rfl) ?_
                refine held_take (i := 0) (v := .pointer (some ⟨gp, 34, none⟩)) rfl (by kernel_rfl) (by kernel_rfl) (by kernel_rfl) (fun _ _ _ h => h) s0.out (by rfl) (fun w' hw' => by go_simp) ?_
                (intro K hK; go_simp; refine hK _ ?_; clear hK K)
                refine held_take (i := 2) (v := .slice (some ⟨gl, 0, none⟩) q cl) rfl (by kernel_rfl) (by kernel_rfl) (by kernel_rfl) (fun _ _ _ h => h) s0.out (by rfl) (fun w' hw' => run_mv (.tmp 15) rfl w') ?_
                (intro K hK; go_simp; refine hK _ ?_; clear hK K)
                refine held_take (i := 3) (v := .int .i64 (i : Int)) rfl (by kernel_rfl) (by kernel_rfl) (by kernel_rfl) (fun _ _ _ h => h) s0.out (by rfl) (fun w' hw' => run_mv (.tmp 19) rfl w') ?_
                (intro K hK; go_simp; refine hK _ ?_; clear hK K)
                refine held_take (i := 4) (v := .int .i64 ((i + 1 : Nat) : Int)) rfl (by kernel_rfl) (by kernel_rfl) (by kernel_rfl) (fun _ _ _ h => h) s0.out (by rfl) (fun w' hw' => by go_simp) ?_
                (intro K hK; go_simp; refine hK _ ?_; clear hK K)
                refine held_take (i := 5) (v := .pointer (some ⟨gl, (i + 1) * 36, none⟩)) rfl (by kernel_rfl) (by kernel_rfl) (by kernel_rfl) (fun _ _ _ h => h) s0.out (by rfl) (fun w' hw' => by go_simp) ?_
                (intro K hK; go_simp; refine hK _ ?_; clear hK K)
                refine held_take (i := 6) (v := .pointer (some ⟨gl, (i + 1) * 36 + 34, none⟩)) rfl (by kernel_rfl) (by kernel_rfl) (by kernel_rfl) (fun _ _ _ h => h) s0.out (by rfl) (fun w' hw' => by go_simp) ?_
                (intro K hK; go_simp; refine hK _ ?_; clear hK K)
                refine held_take (i := 7) (v := .slice (some ⟨bE2, oE2, none⟩) qn qc) rfl (by kernel_rfl) (by kernel_rfl) (by kernel_rfl) (fun _ _ _ h => h) s0.out (by rfl) (fun w' hw' => by have hc := kG.out w' hw'; go_simp) ?_
                (intro K hK; go_simp; refine hK _ ?_; clear hK K)
                refine held_take (i := 8) (v := .pointer (some ⟨bE2, oE2, none⟩)) rfl (by kernel_rfl) (by kernel_rfl) (by kernel_rfl) (fun _ _ _ h => h) s0.out (by rfl) (fun w' hw' => by go_simp) ?_
                (intro K hK; go_simp; refine hK _ ?_; clear hK K)
                refine held_take (i := 9) (v := .slice Av me cv) rfl (by kernel_rfl) (by kernel_rfl) (by kernel_rfl) (fun _ _ _ h => h) s0.out (by rfl) (fun w' hw' => by have hc := kE2.out w' hw'; go_simp) ?_
                (intro K hK; go_simp; refine hK _ ?_; clear hK K)
                refine held_two (i := 1) (j := 10) rfl rfl (by kernel_rfl) (by rfl) (by rfl) (fun K hK => ?_) (fun K hK => ?_)
                · go_simp
                  refine hK _ _ s0.out ?_
                  clear hK K
                  refine held_only (i := 10) rfl (by kernel_rfl) (by rfl) (fun K hK => ?_)
                  go_simp
                  refine hK _ _ (s0.out.trans (Kept.of_below (Below.heap_below w9.drew (.cells #[.slice Av me cv] 31))) (fun _ _ h => h)) ?_
                  clear hK K
                  have hOE : Hid ((w9.drew.alloc (.cells #[.slice Av me cv] 31)).ownsRow B0 31 1 (.slice pA j pc) j xs) := own_keep hoeM.out (Kept.of_below (S := fun _ => False) ((Below.refl _ _).drew.trans (Below.heap_below w9.drew (.cells #[.slice Av me cv] 31)))) (fun _ _ x => x)
                  have hnE : Hid (Reads (w9.drew.alloc (.cells #[.slice Av me cv] 31)) 1 (some ⟨w9.heap.size, 0, none⟩) 1 [.slice Av me cv]) := Blk.reads (Blk.new w9.drew 31 #[.slice Av me cv]) 0 _ rfl (fun j u hu => by rw [Nat.zero_add]; simpa using hu)
                  have hs3 : Hid (B0 ≤ (w9.drew.alloc (.cells #[.slice Av me cv] 31)).heap.size) := by have h1 := hB0e.out; have h2 := hP9.out.lt; have h3 := hgpc.out; have h4 := hgc.out; have h5 := hg1.out; show _ ≤ _; simp; omega
                  refine held_only (i := 11) rfl (by kernel_rfl) (by rfl) (fun K hK => ?_)
                  refine wp_append_src _ (.tmp 159) (.tmp 168) 24 rfl B0 31 j0 (.slice none 0 0) 1 24 Tryd.underlying24 hj0 jz0 jz1 jz2 rfl (by decide) (.slice pA j pc) j xs rfl hOE.out (some ⟨w9.heap.size, 0, none⟩) 1 1 [.slice Av me cv] rfl hnE.out (fun e => by cases e) (by intro v hv; simp only [List.mem_singleton] at hv; rw [hv]; rfl) hs1.out hs2.out hs3.out ?_
                  intro v7 w7 hG
                  obtain ⟨AE7, cE7, rfl, -⟩ := Append.Own.reads hG.own
                  have hpk := Lib.hid (pushE hPOm.out hoeM.out htvM.out hP9.out ((Below.refl _ _).drew.trans (Below.heap_below w9.drew (.cells #[.slice Av me cv] 31))) hme.out hvo.out hG)
                  have k7 : Hid (Kept KS w9 w7) := by
                    show Kept _ _ _
                    rw [hKS.out]
                    exact (keptE ((Below.refl _ _).drew.trans (Below.heap_below w9.drew (.cells #[.slice Av me cv] 31))) (grew_kept hG)).mono (fun _ _ x => .inl x)
                  have cE34 : w7.cell? ⟨gp, 34, none⟩ = some (.slice pA j pc) := (hpk.out.2.1.cell 34).trans (by rw [List.getElem?_toArray, ← hcs.out]; exact pc_events hb'.out)
                  have fE34 := hpk.out.2.1.frozen 34
                  clear hG
                  go_simp
                  refine hK _ _ k7.out ?_
                  clear hK K
                  refine held_take (i := 12) (v := .pointer (some ⟨gp, 34, none⟩)) rfl (by kernel_rfl) (by kernel_rfl) (by kernel_rfl) (fun _ _ _ h => h) k7.out (by rfl) (fun w' hw' => by go_simp) ?_
                  (intro K hK; go_simp; refine hK _ ?_; clear hK K)
                  refine held_only (i := 13) rfl (by kernel_rfl) (by rfl) (fun K hK => ?_)
                  go_simp
                  refine hK _ _ (by have h := hpk.out.2.2; rw [hKS.out]; exact h) ?_
                  clear hK K
                  refine held_end (by kernel_rfl) ?_
                  go_wp2_with fail
                  go_meet
                  case rel => exact ⟨AE7, cE7, rfl, hpk.out.1, (by have h := hpk.out.2.1.set_ 34 (.slice AE7 (j + 1) cE7); rw [← hcs.out, pc_setE hb'.out] at h; exact h), (by have h := hpk.out.2.2; show Kept _ _ _; rw [hKS.out]; exact h)⟩
                · go_simp
                  refine hK _ _ (s0.out.trans (Kept.of_below (Below.heap_below w9.drew (.cells #[.slice Av me cv] 31))) (fun _ _ h => h)) ?_
                  clear hK K
                  refine held_only (i := 1) rfl (by kernel_rfl) (by rfl) (fun K hK => ?_)
                  have cE1 : (w9.alloc (.cells #[.slice Av me cv] 31)).drew.cell? ⟨gp, 34, none⟩ = some (.slice pA j pc) := (((Below.refl _ _).drew.trans (Below.heap_below w9.drew (.cells #[.slice Av me cv] 31))).cell (p := ⟨gp, 34, none⟩) hP9.out.lt).trans cE0
                  go_simp
                  refine hK _ _ (s0.out.trans (Kept.of_below (Below.heap_below w9.drew (.cells #[.slice Av me cv] 31))) (fun _ _ h => h)) ?_
                  clear hK K
                  have hOE : Hid ((w9.drew.alloc (.cells #[.slice Av me cv] 31)).ownsRow B0 31 1 (.slice pA j pc) j xs) := own_keep hoeM.out (Kept.of_below (S := fun _ => False) ((Below.refl _ _).drew.trans (Below.heap_below w9.drew (.cells #[.slice Av me cv] 31)))) (fun _ _ x => x)
                  have hnE : Hid (Reads (w9.drew.alloc (.cells #[.slice Av me cv] 31)) 1 (some ⟨w9.heap.size, 0, none⟩) 1 [.slice Av me cv]) := Blk.reads (Blk.new w9.drew 31 #[.slice Av me cv]) 0 _ rfl (fun j u hu => by rw [Nat.zero_add]; simpa using hu)
                  have hs3 : Hid (B0 ≤ (w9.drew.alloc (.cells #[.slice Av me cv] 31)).heap.size) := by have h1 := hB0e.out; have h2 := hP9.out.lt; have h3 := hgpc.out; have h4 := hgc.out; have h5 := hg1.out; show _ ≤ _; simp; omega
                  refine held_only (i := 11) rfl (by kernel_rfl) (by rfl) (fun K hK => ?_)
                  refine wp_append_src _ (.tmp 159) (.tmp 168) 24 rfl B0 31 j0 (.slice none 0 0) 1 24 Tryd.underlying24 hj0 jz0 jz1 jz2 rfl (by decide) (.slice pA j pc) j xs rfl hOE.out (some ⟨w9.heap.size, 0, none⟩) 1 1 [.slice Av me cv] rfl hnE.out (fun e => by cases e) (by intro v hv; simp only [List.mem_singleton] at hv; rw [hv]; rfl) hs1.out hs2.out hs3.out ?_
                  intro v7 w7 hG
                  obtain ⟨AE7, cE7, rfl, -⟩ := Append.Own.reads hG.own
                  have hpk := Lib.hid (pushE hPOm.out hoeM.out htvM.out hP9.out ((Below.refl _ _).drew.trans (Below.heap_below w9.drew (.cells #[.slice Av me cv] 31))) hme.out hvo.out hG)
                  have k7 : Hid (Kept KS w9 w7) := by
                    show Kept _ _ _
                    rw [hKS.out]
                    exact (keptE ((Below.refl _ _).drew.trans (Below.heap_below w9.drew (.cells #[.slice Av me cv] 31))) (grew_kept hG)).mono (fun _ _ x => .inl x)
                  have cE34 : w7.cell? ⟨gp, 34, none⟩ = some (.slice pA j pc) := (hpk.out.2.1.cell 34).trans (by rw [List.getElem?_toArray, ← hcs.out]; exact pc_events hb'.out)
                  have fE34 := hpk.out.2.1.frozen 34
                  clear hG
                  go_simp
                  refine hK _ _ k7.out ?_
                  clear hK K
                  refine held_take (i := 12) (v := .pointer (some ⟨gp, 34, none⟩)) rfl (by kernel_rfl) (by kernel_rfl) (by kernel_rfl) (fun _ _ _ h => h) k7.out (by rfl) (fun w' hw' => by go_simp) ?_
                  (intro K hK; go_simp; refine hK _ ?_; clear hK K)
                  refine held_only (i := 13) rfl (by kernel_rfl) (by rfl) (fun K hK => ?_)
                  go_simp
                  refine hK _ _ (by have h := hpk.out.2.2; rw [hKS.out]; exact h) ?_
                  clear hK K
                  refine held_end (by kernel_rfl) ?_
                  go_wp2_with fail
                  go_meet
                  case rel => exact ⟨AE7, cE7, rfl, hpk.out.1, (by have h := hpk.out.2.1.set_ 34 (.slice AE7 (j + 1) cE7); rw [← hcs.out, pc_setE hb'.out] at h; exact h), (by have h := hpk.out.2.2; show Kept _ _ _; rw [hKS.out]; exact h)⟩
              case rest =>
                obtain ⟨AE7, cE7, rfl, hPO10, hP10, hK10⟩ := hcut
                obtain ⟨w10, rfl⟩ : ∃ wm, wm = wc := ⟨_, rfl⟩
                have hSt10 : Hid (St w1 w3 w10 q (some ⟨gl, 0, none⟩) cl l (i + 1)) := hSt9.out.step (Nat.le_succ _) hK10.out (fun k h => by rw [hKS.out] at h; exact h.elim (fun h => .inl (sx_E hpi.out h.symm)) (fun h => .inr (by have := hgpc.out; have := hgc.out; omega)))
                have hC10 : Hid (Blk w10 gc 23 (cells8 cb).toArray) := hC9.out.kept hK10.out (by rw [hKS.out]; rintro (h | h); exact blk_own hC9.out hoeM.out (by decide) h; (have := hgpc.out; omega))
                have hlE7 : Hid (pps.length = j) := hlm.out
                obtain ⟨B3, -, hPO3, hun3⟩ := St.pcU hSt10.out (Nat.le_refl _) hpi2.out
                obtain ⟨-, hu3⟩ := hun3 i _ hpi.out (Nat.lt_succ_self i)
                obtain ⟨bP2, oP2, c6, e5, hlP2, hcP2⟩ := Intact17.own_at (by decide) hPO3.op (by have h := hPO3.ok.hp; have h2 := (List.getElem?_eq_some_iff.1 hx2.out).1; show 0 < qm; have h : qps.length = qm := h; omega)
                injection e5 with e5 _ e6
                subst e5 e6
                have hP2B : B3 ≤ bP2 := (hPO3.op.lt bP2 rfl).1
                obtain ⟨KP, hKP⟩ : ∃ K : Nat → Prop, Hid (K = fun k => some k = Value.ownBlock (.slice pA2 j pc2) ∨ k = gp) := ⟨_, Lib.hid rfl⟩
                have hcg35 : w10.cell? ⟨gl, (i + 1) * 36 + 35, none⟩ = some (.slice (some ⟨bP2, oP2, none⟩) qm qc2) := hSt10.out.cell hpi2.out (pc_proofs hb2l.out)
                have kG2 : Hid (∀ w', Kept KP w10 w' → w'.cell? ⟨gl, (i + 1) * 36 + 35, none⟩ = some (.slice (some ⟨bP2, oP2, none⟩) qm qc2)) := fun w' hk => (hk.cell (p := ⟨gl, (i + 1) * 36 + 35, none⟩) (hSt10.out.row.lt gl rfl).2 (by rw [hKP.out]; rintro (h | h); exact hglP.out _ h rfl; exact hlg.out.2 h)).trans hcg35
                have kP2 : Hid (∀ w', Kept KP w10 w' → ∀ t u, x2.cells[t]? = some u → w'.cell? ⟨bP2, oP2 + t, none⟩ = some u) := fun w' hk t u hu => (hk.cell (p := ⟨bP2, oP2 + t, none⟩) hlP2 (by rw [hKP.out]; rintro (h | h); (have h5 : bP2 < B3 := hu3 _ h.symm; omega); exact blk_own hP10.out hPO3.op (by decide) (by rw [← show bP2 = gp from h]; rfl))).trans (hcP2 t u (by have h := flat_at qps 0 x2 t hx2.out (List.getElem?_eq_some_iff.1 hu).1; rw [Nat.mul_zero, Nat.zero_add] at h; rw [h]; exact hu))
                have cP0 : w10.cell? ⟨gp, 35, none⟩ = some (.slice pA2 j pc2) := (hP10.out.cell 35).trans (by rw [List.getElem?_toArray]; exact pc_proofs hb'.out)
                have hoP : Hid (w10.ownsRow B0 51 3 (.slice pA2 j pc2) j (pps.flatMap Pr.cells)) := hPO10.out.op
                obtain ⟨n0, hn0, nz0, nz1, nz2⟩ := info_partsN Hand.infoIn
                have hs2 : Hid ((j + 1) * 40 ≤ 140737488355328) := by show _ ≤ _; omega
                have s0 : Hid (Kept KP w10 w10.drew) := Kept.of_below ((Below.refl _ _).drew)
                have q1 : Hid (∀ v ∈ [x2.cells], v.length = 3) := fun v hv => by
                  obtain rfl := List.mem_singleton.1 hv
                  rfl
                have x1 : Hid (([x2.cells].flatten).toArray = x2.cells.toArray) := by show _ = _; rw [List.flatten_singleton]
                have honx : Hid (∀ v ∈ x2.cells, v.oneCell' = true) := fun v hv => by
                  simp only [Pr.cells, List.mem_cons, List.not_mem_nil, or_false] at hv
                  rcases hv with rfl | rfl | rfl <;> rfl
                have sI : Hid ((Tryd.prog.info? 51).map (·.size) = some x2.cells.length) := by show _ = _; exact Hand.sizeIn
                have hP10s : Hid (gp < w10.heap.size) := hP10.out.lt
                have hPOx : Hid (PcO w10 B0 (withE ⟨s, F', b', pes, pps, pA, j, pc, pA2, j, pc2⟩ e2 AE7 cE7)) := hPO10
                replace hP10 := Lib.hid hP10.out
                clear hcg35 hcP2 hlP2 hun3 hu3 hP2B hPO3 cE0 hK10 hSt9 hSt9' hC9 hP9 kG kE2 hvo hoeM htvM hPOm hPO10
                go_upto_region 26 with fail
                go_cut [17] from 153 to 183 (fun v wr' => ∃ (AP' : Option Addr) (cP' : Nat), v = .int .i64 (kk : Int) ∧ Hid (∀ W4, Below wr'.heap.size wr' W4 → (RdD W4 x2.A x2.n x2.ds ∧ x2.n ≤ x2.c) → (withP (withE ⟨s, F', b', pes, pps, pA, j, pc, pA2, j, pc2⟩ e2 AE7 cE7) x2 AP' cP').Ok W4) ∧ Hid (Blk wr' gp 83 (pieceCells s F' b' (.slice AE7 (j + 1) cE7) (.slice AP' (j + 1) cP')).toArray) ∧ Hid (Kept KP w10 wr'))
                case first =>
                  refine held_start (fun w' => Kept KP w10 w') 14 rfl (by kernel_rfl) ?_
                  refine held_take (i := 0) (v := .pointer (some ⟨gp, 35, none⟩)) rfl (by kernel_rfl) (by kernel_rfl) (by kernel_rfl) (fun _ _ _ h => h) s0.out (by rfl) (fun w' hw' => by go_simp) ?_
                  (intro K hK; go_simp; refine hK _ ?_; clear hK K)
                  refine held_take (i := 2) (v := .slice (some ⟨gl, 0, none⟩) q cl) rfl (by kernel_rfl) (by kernel_rfl) (by kernel_rfl) (fun _ _ _ h => h) s0.out (by rfl) (fun w' hw' => run_mv (.tmp 15) rfl w') ?_
                  (intro K hK; go_simp; refine hK _ ?_; clear hK K)
                  refine held_take (i := 3) (v := .int .i64 (i : Int)) rfl (by kernel_rfl) (by kernel_rfl) (by kernel_rfl) (fun _ _ _ h => h) s0.out (by rfl) (fun w' hw' => run_mv (.tmp 19) rfl w') ?_
                  (intro K hK; go_simp; refine hK _ ?_; clear hK K)
                  refine held_take (i := 4) (v := .int .i64 ((i + 1 : Nat) : Int)) rfl (by kernel_rfl) (by kernel_rfl) (by kernel_rfl) (fun _ _ _ h => h) s0.out (by rfl) (fun w' hw' => by go_simp) ?_
                  (intro K hK; go_simp; refine hK _ ?_; clear hK K)
                  refine held_take (i := 5) (v := .pointer (some ⟨gl, (i + 1) * 36, none⟩)) rfl (by kernel_rfl) (by kernel_rfl) (by kernel_rfl) (fun _ _ _ h => h) s0.out (by rfl) (fun w' hw' => by go_simp) ?_
                  (intro K hK; go_simp; refine hK _ ?_; clear hK K)
                  refine held_take (i := 6) (v := .pointer (some ⟨gl, (i + 1) * 36 + 35, none⟩)) rfl (by kernel_rfl) (by kernel_rfl) (by kernel_rfl) (fun _ _ _ h => h) s0.out (by rfl) (fun w' hw' => by go_simp) ?_
                  (intro K hK; go_simp; refine hK _ ?_; clear hK K)
                  refine held_take (i := 7) (v := .slice (some ⟨bP2, oP2, none⟩) qm qc2) rfl (by kernel_rfl) (by kernel_rfl) (by kernel_rfl) (fun _ _ _ h => h) s0.out (by rfl) (fun w' hw' => by have hc := kG2.out w' hw'; go_simp) ?_
                  (intro K hK; go_simp; refine hK _ ?_; clear hK K)
                  refine held_take (i := 8) (v := .pointer (some ⟨bP2, oP2, none⟩)) rfl (by kernel_rfl) (by kernel_rfl) (by kernel_rfl) (fun _ _ _ h => h) s0.out (by rfl) (fun w' hw' => by go_simp) ?_
                  (intro K hK; go_simp; refine hK _ ?_; clear hK K)
                  refine held_take (i := 9) (v := .agg (x2.cells).toArray) rfl (by kernel_rfl) (by kernel_rfl) (by kernel_rfl) (fun _ _ _ h => h) s0.out (by rfl) (fun w' hw' => exec_part 51 (.tmp 179) rfl (bP2) (oP2) rfl (x2.cells) _ (kP2.out w' hw') Tryd.underlying51 rfl sI.out) ?_
                  (intro K hK; go_simp; refine hK _ ?_; clear hK K)
                  refine held_two (i := 1) (j := 10) rfl rfl (by kernel_rfl) (by rfl) (by rfl) (fun K hK => ?_) (fun K hK => ?_)
                  · go_simp
                    refine hK _ _ s0.out ?_
                    clear hK K
                    refine held_only (i := 10) rfl (by kernel_rfl) (by rfl) (fun K hK => ?_)
                    refine wp_buildAggs 77 51 1 _ rfl 3 (by decide) [x2.cells] Tryd.underlying77 Hand.sizeIn Hand.zeroIn rfl (by decide) (by decide) q1.out rfl ?_
                    rw [x1.out]
                    refine hK _ _ (s0.out.trans (Kept.of_below (Below.heap_below w10.drew (.cells x2.cells.toArray 51))) (fun _ _ h => h)) ?_
                    clear hK K
                    have hOP : Hid ((w10.drew.alloc (.cells x2.cells.toArray 51)).ownsRow B0 51 3 (.slice pA2 j pc2) j (pps.flatMap Pr.cells)) := own_keep hoP.out (Kept.of_below (S := fun _ => False) ((Below.refl _ _).drew.trans (Below.heap_below w10.drew (.cells x2.cells.toArray 51)))) (fun _ _ x => x)
                    have hnP : Hid (Reads (w10.drew.alloc (.cells x2.cells.toArray 51)) 3 (some ⟨w10.heap.size, 0, none⟩) 1 x2.cells) := Blk.reads (Blk.new w10.drew 51 x2.cells.toArray) 0 _ rfl (fun j u hu => by rw [Nat.zero_add, List.getElem?_toArray]; exact hu)
                    have hs3 : Hid (B0 ≤ (w10.drew.alloc (.cells x2.cells.toArray 51)).heap.size) := by have h1 := hB0e.out; have h2 := hP10s.out; have h3 := hgpc.out; have h4 := hgc.out; have h5 := hg1.out; show _ ≤ _; simp; omega
                    refine held_only (i := 11) rfl (by kernel_rfl) (by rfl) (fun K hK => ?_)
                    refine wp_append_src _ (.tmp 172) (.tmp 181) 77 rfl B0 51 n0 (.agg #[.int .i64 0, .int .i64 0, .slice none 0 0]) 3 40 Tryd.underlying77 hn0 nz0 nz1 nz2 rfl (by decide) (.slice pA2 j pc2) j (pps.flatMap Pr.cells) rfl hOP.out (some ⟨w10.heap.size, 0, none⟩) 1 1 x2.cells rfl hnP.out (fun e => by cases e) honx.out hs1.out hs2.out hs3.out ?_
                    intro v7 w7 hG
                    obtain ⟨AP7, cP7, rfl, -⟩ := Append.Own.reads hG.own
                    have hpk := Lib.hid (pushP hPOx.out hP10.out ((Below.refl _ _).drew.trans (Below.heap_below w10.drew (.cells x2.cells.toArray 51))) hG)
                    have k7 : Hid (Kept KP w10 w7) := by
                      show Kept _ _ _
                      rw [hKP.out]
                      exact (keptE ((Below.refl _ _).drew.trans (Below.heap_below w10.drew (.cells x2.cells.toArray 51))) (grew_kept hG)).mono (fun _ _ x => .inl x)
                    have cP35 : w7.cell? ⟨gp, 35, none⟩ = some (.slice pA2 j pc2) := (hpk.out.2.1.cell 35).trans (by rw [List.getElem?_toArray]; exact pc_proofs hb'.out)
                    have fP35 := hpk.out.2.1.frozen 35
                    clear hG
                    go_simp
                    refine hK _ _ k7.out ?_
                    clear hK K
                    refine held_take (i := 12) (v := .pointer (some ⟨gp, 35, none⟩)) rfl (by kernel_rfl) (by kernel_rfl) (by kernel_rfl) (fun _ _ _ h => h) k7.out (by rfl) (fun w' hw' => by go_simp) ?_
                    (intro K hK; go_simp; refine hK _ ?_; clear hK K)
                    refine held_only (i := 13) rfl (by kernel_rfl) (by rfl) (fun K hK => ?_)
                    go_simp
                    refine hK _ _ (by have h := hpk.out.2.2; rw [hKP.out]; exact h) ?_
                    clear hK K
                    refine held_end (by kernel_rfl) ?_
                    go_wp2_with fail
                    go_meet
                    case rel => exact ⟨AP7, cP7, rfl, hpk.out.1, (by have h := hpk.out.2.1.set_ 35 (.slice AP7 (j + 1) cP7); rw [pc_setP hb'.out] at h; exact h), (by have h := hpk.out.2.2; show Kept _ _ _; rw [hKP.out]; exact h)⟩
                  · refine wp_buildAggs 77 51 1 _ rfl 3 (by decide) [x2.cells] Tryd.underlying77 Hand.sizeIn Hand.zeroIn rfl (by decide) (by decide) q1.out rfl ?_
                    rw [x1.out]
                    refine hK _ _ (s0.out.trans (Kept.of_below (Below.heap_below w10.drew (.cells x2.cells.toArray 51))) (fun _ _ h => h)) ?_
                    clear hK K
                    refine held_only (i := 1) rfl (by kernel_rfl) (by rfl) (fun K hK => ?_)
                    have cP1 : (w10.alloc (.cells x2.cells.toArray 51)).drew.cell? ⟨gp, 35, none⟩ = some (.slice pA2 j pc2) := (((Below.refl _ _).drew.trans (Below.heap_below w10.drew (.cells x2.cells.toArray 51))).cell (p := ⟨gp, 35, none⟩) hP10s.out).trans cP0
                    go_simp
                    refine hK _ _ (s0.out.trans (Kept.of_below (Below.heap_below w10.drew (.cells x2.cells.toArray 51))) (fun _ _ h => h)) ?_
                    clear hK K
                    have hOP : Hid ((w10.drew.alloc (.cells x2.cells.toArray 51)).ownsRow B0 51 3 (.slice pA2 j pc2) j (pps.flatMap Pr.cells)) := own_keep hoP.out (Kept.of_below (S := fun _ => False) ((Below.refl _ _).drew.trans (Below.heap_below w10.drew (.cells x2.cells.toArray 51)))) (fun _ _ x => x)
                    have hnP : Hid (Reads (w10.drew.alloc (.cells x2.cells.toArray 51)) 3 (some ⟨w10.heap.size, 0, none⟩) 1 x2.cells) := Blk.reads (Blk.new w10.drew 51 x2.cells.toArray) 0 _ rfl (fun j u hu => by rw [Nat.zero_add, List.getElem?_toArray]; exact hu)
                    have hs3 : Hid (B0 ≤ (w10.drew.alloc (.cells x2.cells.toArray 51)).heap.size) := by have h1 := hB0e.out; have h2 := hP10s.out; have h3 := hgpc.out; have h4 := hgc.out; have h5 := hg1.out; show _ ≤ _; simp; omega
                    refine held_only (i := 11) rfl (by kernel_rfl) (by rfl) (fun K hK => ?_)
                    refine wp_append_src _ (.tmp 172) (.tmp 181) 77 rfl B0 51 n0 (.agg #[.int .i64 0, .int .i64 0, .slice none 0 0]) 3 40 Tryd.underlying77 hn0 nz0 nz1 nz2 rfl (by decide) (.slice pA2 j pc2) j (pps.flatMap Pr.cells) rfl hOP.out (some ⟨w10.heap.size, 0, none⟩) 1 1 x2.cells rfl hnP.out (fun e => by cases e) honx.out hs1.out hs2.out hs3.out ?_
                    intro v7 w7 hG
                    obtain ⟨AP7, cP7, rfl, -⟩ := Append.Own.reads hG.own
                    have hpk := Lib.hid (pushP hPOx.out hP10.out ((Below.refl _ _).drew.trans (Below.heap_below w10.drew (.cells x2.cells.toArray 51))) hG)
                    have k7 : Hid (Kept KP w10 w7) := by
                      show Kept _ _ _
                      rw [hKP.out]
                      exact (keptE ((Below.refl _ _).drew.trans (Below.heap_below w10.drew (.cells x2.cells.toArray 51))) (grew_kept hG)).mono (fun _ _ x => .inl x)
                    have cP35 : w7.cell? ⟨gp, 35, none⟩ = some (.slice pA2 j pc2) := (hpk.out.2.1.cell 35).trans (by rw [List.getElem?_toArray]; exact pc_proofs hb'.out)
                    have fP35 := hpk.out.2.1.frozen 35
                    clear hG
                    go_simp
                    refine hK _ _ k7.out ?_
                    clear hK K
                    refine held_take (i := 12) (v := .pointer (some ⟨gp, 35, none⟩)) rfl (by kernel_rfl) (by kernel_rfl) (by kernel_rfl) (fun _ _ _ h => h) k7.out (by rfl) (fun w' hw' => by go_simp) ?_
                    (intro K hK; go_simp; refine hK _ ?_; clear hK K)
                    refine held_only (i := 13) rfl (by kernel_rfl) (by rfl) (fun K hK => ?_)
                    go_simp
                    refine hK _ _ (by have h := hpk.out.2.2; rw [hKP.out]; exact h) ?_
                    clear hK K
                    refine held_end (by kernel_rfl) ?_
                    go_wp2_with fail
                    go_meet
                    case rel => exact ⟨AP7, cP7, rfl, hpk.out.1, (by have h := hpk.out.2.1.set_ 35 (.slice AP7 (j + 1) cP7); rw [pc_setP hb'.out] at h; exact h), (by have h := hpk.out.2.2; show Kept _ _ _; rw [hKP.out]; exact h)⟩
                case rest =>
                  obtain ⟨AP7, cP7, rfl, hOk11, hP11, hK11⟩ := hcut
                  obtain ⟨w11, rfl⟩ : ∃ wm, wm = wc := ⟨_, rfl⟩
                  have hSt11 : Hid (St w1 w3 w11 q (some ⟨gl, 0, none⟩) cl l (i + 1)) := hSt10.out.step (Nat.le_refl _) hK11.out (fun k h => by rw [hKP.out] at h; exact h.elim (fun h => .inl (sx_P hpi.out h.symm)) (fun h => .inr (by have := hgpc.out; have := hgc.out; omega)))
                  have hC11 : Hid (Blk w11 gc 23 (cells8 cb).toArray) := hC10.out.kept hK11.out (by rw [hKP.out]; rintro (h | h); exact blk_own hC10.out hoP.out (by decide) h; (have := hgpc.out; omega))
                  have hx11 : RdD w11 x2.A x2.n x2.ds ∧ x2.n ≤ x2.c := by
                    obtain ⟨_, -, hPO4, -⟩ := St.pcU hSt11.out (Nat.le_refl _) hpi2.out
                    exact hPO4.ok.p.2 x2 hx2m.out
                  have hok11 := hOk11.out w11 (Below.refl _ _) hx11
                  have hEn2 : Hid (Calls Tryd.prog 35 #[.agg (pieceCells s F' b' (.slice AE7 (j + 1) cE7) (.slice AP7 (j + 1) cP7)).toArray] w11 fun e w' => ∃ A4 c4 n4, e = .returned (.tuple #[.slice A4 n4 c4, .int .i64 170]) ∧ Below w11.heap.size w11 w') := by
                    show Calls _ _ _ _ _
                    have hno : ¬ okP s F' b' (pes ++ [e2]) (pps ++ [x2]) := join_no hlen.out hri.out hJb.out (by rw [hle.out]; have := hkk.out; have := hkn2.out; omega) hre.out hes.out hal.out (by rw [← hkk.out]; exact he2k.out) (by rw [← hkk.out]; exact hy2.out) hxy2.out
                    have hx47 : x2.n < 140737488355328 := by
                      have h := hxy2.out
                      have h2 := (SamePiece.Alike.at_ h (i := 0) rfl rfl).2.2.1
                      rw [h2]
                      exact hnnH.out y2 (List.mem_of_getElem? hy2.out)
                    refine (encPiece_any s hs.out F' b' hb'.out (pes ++ [e2]) (j + 1) (by rw [List.length_append, List.length_singleton, hln.out]) (by omega) AE7 cE7 (pps ++ [x2]) (j + 1) (by rw [List.length_append, List.length_singleton, hlm.out]) AP7 cP7 w11 hok11.e hok11.p (fun e he => ?_) (fun x hx => ?_)).mono ?_
                    · rcases List.mem_append.1 he with he | he
                      · exact hshH.out e (List.mem_of_mem_drop (List.mem_of_mem_take (hes.out ▸ he)))
                      · obtain rfl := List.mem_singleton.1 he
                        exact hshH.out _ (List.mem_of_getElem? he2k.out)
                    · rcases List.mem_append.1 hx with hx | hx
                      · exact alike_few hal.out (fun z hz => hnnH.out z (List.mem_of_mem_drop (List.mem_of_mem_take hz))) x hx
                      · obtain rfl := List.mem_singleton.1 hx
                        exact hx47
                    rintro e w' ⟨A4, c4, t4, err, rfl, -, h4, hk⟩
                    unfold pieceWant at h4
                    rw [if_neg hno] at h4
                    rcases h4 with ⟨h4, -⟩ | ⟨-, -, rfl⟩
                    · cases h4
                    · exact ⟨_, _, _, rfl, hk⟩
                  clear hok11 hx11 hOk11 hSt10 hC10 hPOx
                  go_upto_region 28 with (first
                    | ((with_reducible change wpList _ _ _ ({ dst := some 185, op := _, type := _, pos := _, after := _, guard := _ } :: _) _ _); refine wpList_load_row (o := ⟨some 185, _, _, _, _, _⟩) rfl 83 (.tmp 20) rfl (gp) rfl 83 ((pieceCells s F' b' (.slice AE7 (j + 1) cE7) (.slice AP7 (j + 1) cP7)).toArray) (0, 0) _ hP11.out Tryd.underlying83 rfl (pc_info hb'.out) ?_)
                    | (go_at_call 35; refine hEn2.out.mono ?_; rintro e w12 ⟨A4, c4, n4, rfl, hk12⟩; have hC12 : Hid (Blk w12 gc 23 (cells8 cb).toArray) := (hk12.block _ hC11.out.lt).trans hC11.out; have hSt12 : Hid (St w1 w3 w12 q (some ⟨gl, 0, none⟩) cl l (i + 1)) := hSt11.out.below hk12; clear hk12 hEn2 hC11 hSt11 hP11))
                  go_wp2_with fail
                  go_roundw
                  case rel => exact ⟨i + 1, kk, F' + (j : Int), cb, rfl, by go_num, hJ3.out, hcbl.out, hC12.out, hSt12.out⟩
                  case measure => (have := hlt'.out; simp [intOf]; omega)
            · have u2 : (q : Int) ≤ ((i + 1 : Nat) : Int) := by omega
              have hSt10 : Hid (St w1 w3 w9 q (some ⟨gl, 0, none⟩) cl l (i + 1)) := hSt9.out.step (S := fun _ => False) (Nat.le_succ _) (Kept.refl _ _) (fun _ h => h.elim)
              go_wp2_with fail
              go_roundw
              case rel => exact ⟨i + 1, kk, F' + (j : Int), cb, rfl, by go_num, hJ3.out, hcbl.out, hC9.out, hSt10.out⟩
              case measure => (have := hlt'.out; simp [intOf]; omega)
      · obtain rfl : q = i := by have := hiq.out; omega
        obtain ⟨hlo, hbe⟩ := hJ.out.done hkq.out.symm
        obtain rfl : n = lo := by rw [hlo]; exact hle.out.symm
        have hbe' : Hid (b' = Chain.chainOf wd b es) := hbe
        have y1 : (q : Int) ≤ (q : Int) := Int.le_refl _
        have hbwr : Hid (w.heap.size ≤ wr.heap.size) := hbr.out.size
        have hBf : Hid (Blk wr w.heap.size 23 (cells8 b).toArray) := hSt.out.blk hB3.out hg0.out
        clear hlo hbe hlt hJ hSt
        by_cases hn0 : n = 0
        · have y2 : (n : Int) = 0 := by omega
          go_wp2_with fail
          go_ret
          exact ⟨rfl, hbr.out⟩
        · have y2 : ¬ ((n : Int) = 0) := by omega
          have hn0' : Hid (n ≠ 0) := hn0
          obtain ⟨k, hk⟩ : ∃ k : Nat, Hid (at_ % ((n : Int) + 1) = (k : Int)) := ⟨(at_ % ((n : Int) + 1)).toNat, Lib.hid (Int.toNat_of_nonneg (Int.emod_nonneg _ (by omega))).symm⟩
          have hkn : k ≤ n := by have h1 := Int.emod_lt_of_pos at_ (show (0 : Int) < (n : Int) + 1 by omega); rw [hk.out] at h1; omega
          have hknH : Hid (k ≤ n) := hkn
          have hXe : Hid (∀ w', (Instr.sliceAt 24 (.slice A n c) none (some (.int .i64 (k : Int))) none).run Tryd.prog w' = .ok (.slice A k c) w') := run_headOf (m := k) Tryd.underlying24 (fun _ => rfl) (Nat.le_trans hkn hncH.out) _ rfl
          have hXp : Hid (∀ w', (Instr.sliceAt 77 (.slice A2 n c2) none (some (.int .i64 (k : Int))) none).run Tryd.prog w' = .ok (.slice A2 k c2) w') := Law17e.run_headI (Nat.le_trans hkn hmcH.out) _ rfl
          obtain ⟨ka, hka⟩ := cut_take hcu.out k (by rw [hle.out]; exact hkn)
          have hPa2 : Hid (∀ w', Below w.heap.size w w' → Calls Tryd.prog 34 #[.int .i64 wd, .string s, .int .i64 F, .agg (cells8 b).toArray, .slice A k c, .slice A2 k c2] w' (CPostO w' s (es.take k) (ps.take k) (some ka))) := fun w' h => by
            have h2 := hPa.out k hknH.out trivial w' h
            rw [hka] at h2
            exact h2
          replace hka := Lib.hid hka
          clear hkn hn0 hPa
          go_upto_region 33 with (go_at_call 39; refine (Chain2.within_any at_ n (by omega) wr).mono ?_; rintro e w13 ⟨rfl, rfl⟩; rw [hk.out])
          have s0 : Hid (Below wr.heap.size wr wr.drew) := (Below.refl _ _).drew
          refine held_start (fun w' => Below wr.heap.size wr w') 16 rfl (by kernel_rfl) ?_
          refine held_take (i := 0) (v := .int .i64 wd) rfl (by kernel_rfl) (by kernel_rfl) (by kernel_rfl) (fun _ _ _ h => h) s0.out (by rfl) (fun w' hw' => run_mv (.tmp 0) rfl w') ?_
          (intro K hK; go_simp; refine hK _ ?_; clear hK K)
          refine held_take (i := 1) (v := .string s) rfl (by kernel_rfl) (by kernel_rfl) (by kernel_rfl) (fun _ _ _ h => h) s0.out (by rfl) (fun w' hw' => run_mv (.tmp 1) rfl w') ?_
          (intro K hK; go_simp; refine hK _ ?_; clear hK K)
          refine held_take (i := 2) (v := .int .i64 F) rfl (by kernel_rfl) (by kernel_rfl) (by kernel_rfl) (fun _ _ _ h => h) s0.out (by rfl) (fun w' hw' => run_mv (.tmp 2) rfl w') ?_
          (intro K hK; go_simp; refine hK _ ?_; clear hK K)
          refine held_take (i := 3) (v := .agg ((cells8 b).toArray)) rfl (by kernel_rfl) (by kernel_rfl) (by kernel_rfl) (fun _ _ _ h => h) s0.out (by rfl) (fun w' hw' => exec_row 23 (.tmp 10) rfl (w.heap.size) rfl 23 ((cells8 b).toArray) (0, 0) _ ((hw'.block _ hBf.out.lt).trans hBf.out) Tryd.underlying23 rfl sD.out) ?_
          (intro K hK; go_simp; refine hK _ ?_; clear hK K)
          refine held_take (i := 4) (v := .slice A n c) rfl (by kernel_rfl) (by kernel_rfl) (by kernel_rfl) (fun _ _ _ h => h) s0.out (by rfl) (fun w' hw' => run_mv (.tmp 4) rfl w') ?_
          (intro K hK; go_simp; refine hK _ ?_; clear hK K)
          refine held_take (i := 5) (v := .int .i64 (k : Int)) rfl (by kernel_rfl) (by kernel_rfl) (by kernel_rfl) (fun _ _ _ h => h) s0.out (by rfl) (fun w' hw' => run_mv (.tmp 6) rfl w') ?_
          (intro K hK; go_simp; refine hK _ ?_; clear hK K)
          refine held_take (i := 6) (v := .slice A k c) rfl (by kernel_rfl) (by kernel_rfl) (by kernel_rfl) (fun _ _ _ h => h) s0.out (by rfl) (fun w' hw' => by have hx := hXe.out w'; go_simp) ?_
          (intro K hK; go_simp; refine hK _ ?_; clear hK K)
          refine held_take (i := 7) (v := .slice A2 n c2) rfl (by kernel_rfl) (by kernel_rfl) (by kernel_rfl) (fun _ _ _ h => h) s0.out (by rfl) (fun w' hw' => run_mv (.tmp 5) rfl w') ?_
          (intro K hK; go_simp; refine hK _ ?_; clear hK K)
          refine held_take (i := 8) (v := .int .i64 (k : Int)) rfl (by kernel_rfl) (by kernel_rfl) (by kernel_rfl) (fun _ _ _ h => h) s0.out (by rfl) (fun w' hw' => run_mv (.tmp 6) rfl w') ?_
          (intro K hK; go_simp; refine hK _ ?_; clear hK K)
          refine held_take (i := 9) (v := .slice A2 k c2) rfl (by kernel_rfl) (by kernel_rfl) (by kernel_rfl) (fun _ _ _ h => h) s0.out (by rfl) (fun w' hw' => by have hx := hXp.out w'; go_simp) ?_
          (intro K hK; go_simp; refine hK _ ?_; clear hK K)
          refine held_only (i := 10) rfl (by kernel_rfl) (by rfl) (fun K hK => ?_)
          refine wp_fn (R := fun v w'' => ∃ Aa ca la, v = .tuple #[.slice Aa la.length ca, .int .i64 0] ∧ SaysR s (es.take k) (ps.take k) la ka ∧ LrO wr.drew w'' la.length Aa ca la ∧ Below wr.drew.heap.size wr.drew w'') (args := #[.int .i64 wd, .string s, .int .i64 F, .agg (cells8 b).toArray, .slice A k c, .slice A2 k c2]) _ _ rfl rfl Tryd.func34 (by kernel_rfl) (by kernel_rfl) ((hPa2.out wr.drew (hbr.out.trans (s0.out.mono hbr.out.size))).mono fun e w'' h => by obtain ⟨Aa, ca, la, ea, he, hsl, hLa, hk⟩ := h; obtain ⟨h1, rfl⟩ := says_some hsl; exact ⟨_, he, Aa, ca, la, rfl, h1, hLa, hk⟩) ?_
          rintro v1 w14 ⟨Aa, ca, la, rfl, hsA, hLa, hkc⟩
          have s1 : Hid (Below wr.heap.size wr w14) := s0.out.trans (hkc.mono s0.out.size)
          clear hkc
          go_simp
          refine hK _ _ s1.out ?_
          clear hK K
          refine held_take (i := 11) (v := .tuple #[.slice Aa la.length ca, .int .i64 0]) rfl (by kernel_rfl) (by kernel_rfl) (by kernel_rfl) (fun _ _ _ h => h) s1.out (by rfl) (fun w' hw' => run_mv (.tmp 217) rfl w') ?_
          (intro K hK; go_simp; refine hK _ ?_; clear hK K)
          refine held_take (i := 12) (v := .slice Aa la.length ca) rfl (by kernel_rfl) (by kernel_rfl) (by kernel_rfl) (fun _ _ _ h => h) s1.out (by rfl) (fun w' hw' => by go_simp) ?_
          (intro K hK; go_simp; refine hK _ ?_; clear hK K)
          refine held_take (i := 13) (v := .int .i64 0) rfl (by kernel_rfl) (by kernel_rfl) (by kernel_rfl) (fun _ _ _ h => h) s1.out (by rfl) (fun w' hw' => by go_simp) ?_
          (intro K hK; go_simp; refine hK _ ?_; clear hK K)
          refine held_take (i := 14) (v := .slice Aa la.length ca) rfl (by kernel_rfl) (by kernel_rfl) (by kernel_rfl) (fun _ _ _ h => h) s1.out (by rfl) (fun w' hw' => by go_simp) ?_
          (intro K hK; go_simp; refine hK _ ?_; clear hK K)
          refine held_take (i := 15) (v := .int .i64 0) rfl (by kernel_rfl) (by kernel_rfl) (by kernel_rfl) (fun _ _ _ h => h) s1.out (by rfl) (fun w' hw' => by go_simp) ?_
          (intro K hK; go_simp; refine hK _ ?_; clear hK K)
          have hb14 : Hid (Below w.heap.size w w14) := hbr.out.trans (s1.out.mono hbr.out.size)
          have hC14 : Hid (Blk w14 gc 23 (cells8 b').toArray) := (s1.out.block _ hC.out.lt).trans hC.out
          have hB14 : Hid (Blk w14 w.heap.size 23 (cells8 b).toArray) := (s1.out.block _ hBf.out.lt).trans hBf.out
          have hwr14 : Hid (wr.heap.size ≤ w14.heap.size) := s1.out.size
          clear s0 s1 hbr hC hBf hXe hXp hPa2
          refine held_end (by kernel_rfl) ?_
          replace hsA := Lib.hid hsA
          replace hLa := Lib.hid hLa
          by_cases hk0 : k = 0
          · have hl0 : la.length = 0 := by
              have h := cutsW_len hka.out 0 (by rw [hk0]; rfl)
              have := hsA.out.1
              omega
            obtain rfl : la = [] := List.eq_nil_of_length_eq_zero hl0
            have y3 : (k : Int) = 0 := by omega
            clear hk0 hl0
            go_wp2_with fail
            go_ret
            exact ⟨rfl, hb14.out⟩
          · have y3 : ¬ ((k : Int) = 0) := by omega
            have hk0' : Hid (k ≠ 0) := hk0
            obtain ⟨qa, hqa⟩ : ∃ x, Hid (la.length = x) := ⟨_, Lib.hid rfl⟩
            rw [hqa.out] at hLa
            rw [hqa.out]
            clear hk0
            go_upto_region 37 with (first
              | ((with_reducible change wpList _ _ _ ({ dst := some 233, op := _, type := _, pos := _, after := _, guard := _ } :: _) _ _); refine wpList_load_row (o := ⟨some 233, _, _, _, _, _⟩) rfl 23 (.tmp 10) rfl (w.heap.size) rfl 23 ((cells8 b).toArray) (0, 0) _ hB14.out Tryd.underlying23 rfl sD.out ?_)
              | ((with_reducible change wpList _ _ _ ({ dst := none, op := Op.store 23 (.tmp 27) _, type := _, pos := _, after := _, guard := _ } :: _) _ _); refine RefIncl0.wpList_store_whole0 rfl (o := ⟨none, _, _, _, _, _⟩) rfl 23 (.tmp 27) (.tmp 233) rfl (w14.heap.size) ((cells8 b).toArray) rfl rfl 23 (Z32) (Blk.new w14 _ _) sD.out hz32.out hone.out ?_; intro w15 hM15 hkx; have hk15 := Lib.hid (Held.kept_fresh hkx); replace hM15 := Lib.hid hM15; have hC15 : Hid (Blk w15 gc 23 (cells8 b').toArray) := (hk15.out.block _ hC14.out.lt).trans hC14.out; clear hkx; generalize hgm : w14.heap.size = gm at *; replace hgm := Lib.hid hgm))
            have hb15 : Hid (Below w.heap.size w w15) := hb14.out.trans (hk15.out.mono (by rw [← hgm.out]; exact hb14.out.size))
            have hgmc : Hid (gc < gm) := by show _ < _; rw [← hgm.out]; exact hC14.out.lt
            have hgmw : Hid (w.heap.size ≤ gm) := by show _ ≤ _; rw [← hgm.out]; exact hb14.out.size
            go_wp2_with fail
            go_loopw [28] (fun v wr => ∃ t : Nat, v = .int .i64 (t : Int) ∧ Hid (t ≤ k) ∧ Hid (Blk wr gm 23 (cells8 (Chain.chainOf wd b (es.take t))).toArray) ∧ Hid (Kept (· = gm) w15 wr)) (fun v _ => k - (intOf v).toNat)
            case atStart => exact ⟨0, rfl, Nat.zero_le _, hM15.out, Kept.refl _ _⟩
            case round =>
              clear hM15
              obtain ⟨t, rfl, htk, hM, hKm⟩ := hrel
              obtain ⟨w16, rfl⟩ : ∃ w16, w16 = wr := ⟨_, rfl⟩
              have hb16 : Hid (Below w.heap.size w w16) := below_kept hb15.out hKm.out (fun x _ (e : x = gm) => by have := hgmw.out; omega) hb15.out.size
              have htI : (t : Int) ≤ 2200 := by have := htk.out; have := hknH.out; omega
              by_cases hlt : t < k
              · have u1 : (t : Int) < (k : Int) := by omega
                have u0 : (0 : Int) ≤ (t : Int) := by omega
                have v1 : (t : Int) < (n : Int) := by have := hknH.out; omega
                obtain ⟨qq, hqi⟩ : ∃ e, Hid (es[t]? = some e) := ⟨_, List.getElem?_eq_getElem (by rw [hle.out]; omega)⟩
                obtain ⟨bA, oA, e2, hlA, hcA⟩ := (hpk.out w16 hb16.out).1 (by have := hle.out; omega)
                subst e2
                obtain ⟨Bi, di, hd1, hd2, hd3, hd4⟩ := hcA t qq hqi.out
                obtain ⟨mq, hmq⟩ : ∃ m, Hid (qq.length = m) := ⟨_, Lib.hid rfl⟩
                rw [hmq.out] at hd1 hd2 hd3 hd4
                have hq47 : Hid (mq < 140737488355328) := by show _ < _; rw [← hmq.out]; exact hshH.out qq (List.mem_of_getElem? hqi.out)
                have kA : Hid (∀ w', Below w16.heap.size w16 w' → w'.cell? ⟨bA, oA + t, none⟩ = some (.slice Bi mq di)) := fun w' hb => (hb.cell (p := ⟨bA, oA + t, none⟩) hlA).trans hd1
                obtain ⟨cx, hcx⟩ : ∃ x, Hid (x = Chain.chainOf wd b (es.take t)) := ⟨_, Lib.hid rfl⟩
                have hxl : Hid (cx.length = 32) := by show _ = _; rw [hcx.out]; exact Chain.chainOf_len wd b hb.out _
                have hstc := Lib.hid (Chain.chainOf_step wd b es t qq hqi.out)
                rw [← hcx.out] at hM hstc
                obtain ⟨cy, hcy⟩ : ∃ y, Hid (y = Chain.leafOf wd qq) := ⟨_, Lib.hid rfl⟩
                obtain ⟨cz, hcz⟩ : ∃ z, Hid (z = Chain.linkOf wd cx cy) := ⟨_, Lib.hid rfl⟩
                have hyl : Hid (cy.length = 32) := by show _ = _; rw [hcy.out]; exact Chain.leafOf_len _ _
                have hzl : Hid (cz.length = 32) := by show _ = _; rw [hcz.out]; exact Chain.linkOf_len _ _ _
                rw [← hcy.out, ← hcz.out] at hstc
                have hLf : Hid (∀ w', Below w16.heap.size w16 w' → Calls Tryd.prog 38 #[.int .i64 wd, .slice Bi mq di] w' fun e w'' => e = .returned (.agg (cells8 cy).toArray) ∧ Below w'.heap.size w' w'') := fun w' hb => by
                  rw [hcy.out]
                  exact leaf_any qq mq hmq.out Bi di wd w' (hBs.out.below (hb16.out.trans (hb.mono hb16.out.size)) hBs.out.1) hq47.out (hd3.below hb) hd2 hd4
                have hLk : Hid (∀ w', Below w16.heap.size w16 w' → Calls Tryd.prog 37 #[.int .i64 wd, .agg (cells8 cx).toArray, .agg (cells8 cy).toArray] w' fun e w'' => e = .returned (.agg (cells8 cz).toArray) ∧ Below w'.heap.size w' w'') := fun w' hb => by
                  rw [hcz.out]
                  exact link_any cx cy hxl.out hyl.out wd w' (hBs.out.below (hb16.out.trans (hb.mono hb16.out.size)) hBs.out.1)
                have sX : Hid ((Tryd.prog.info? 23).map (·.size) = some (cells8 cx).toArray.size) := dig_size cx hxl.out
                have hlt' : Hid (t < k) := hlt
                clear hlt hcA hd1 hd2 hd3 hd4 hlA
                go_upto_region 40 with fail
                refine wp_region_class_tail 9 (Class w16) (by kernel_rfl) (by kernel_rfl) (Class.mk_ ((Below.refl _ _).drew)) ?_
                refine wpQuiet_move rfl (.tmp 0) rfl ?_
                (intro K hK; go_simp; refine hK _ ?_; clear hK K)
                refine wpQuiet_load_row rfl 23 (.tmp 27) rfl gm rfl 23 ((cells8 cx).toArray) (0, 0) _ (fun w' hw' => (hw'.below.block _ hM.out.lt).trans hM.out) Tryd.underlying23 rfl sX.out ?_
                (intro K hK; go_simp; refine hK _ ?_; clear hK K)
                refine wpQuiet_move rfl (.tmp 0) rfl ?_
                (intro K hK; go_simp; refine hK _ ?_; clear hK K)
                refine wpQuiet_move rfl (.tmp 4) rfl ?_
                (intro K hK; go_simp; refine hK _ ?_; clear hK K)
                refine wpQuiet_move rfl (.tmp 28) rfl ?_
                (intro K hK; go_simp; refine hK _ ?_; clear hK K)
                refine wpQuiet_val (v := .pointer (some ⟨bA, oA + t, none⟩)) rfl (fun w' hw' => by go_simp) ?_
                (intro K hK; go_simp; refine hK _ ?_; clear hK K)
                refine wpQuiet_val (v := .slice Bi mq di) rfl (fun w' hw' => by have hc := kA.out w' hw'.below; go_simp) ?_
                (intro K hK; go_simp; refine hK _ ?_; clear hK K)
                refine wpQuiet_fn (v := .agg (cells8 cy).toArray) (args := #[.int .i64 wd, .slice Bi mq di]) rfl _ _ rfl rfl Tryd.func38 (by kernel_rfl) (by kernel_rfl) (fun w' hw' => (hLf.out w' hw'.below).mono (fun e w'' ⟨he, hw⟩ => ⟨he, hw'.next hw⟩)) ?_
                (intro K hK; go_simp; refine hK _ ?_; clear hK K)
                refine wpQuiet_fn (v := .agg (cells8 cz).toArray) (args := #[.int .i64 wd, .agg (cells8 cx).toArray, .agg (cells8 cy).toArray]) rfl _ _ rfl rfl Tryd.func37 (by kernel_rfl) (by kernel_rfl) (fun w' hw' => (hLk.out w' hw'.below).mono (fun e w'' ⟨he, hw⟩ => ⟨he, hw'.next hw⟩)) ?_
                (intro K hK; go_simp; refine hK _ ?_; clear hK K)
                refine wpQuiet_nil ?_
                intro wb hwb
                have hCb := Lib.hid ((hwb.below.block _ hM.out.lt).trans hM.out)
                have hKb : Hid (Kept (· = gm) w15 wb) := hKm.out.trans (Kept.of_below (S := (· = gm)) hwb.below) (fun _ _ h => h)
                clear hwb
                simp only [List.drop]
                have sZ : Hid ((Tryd.prog.info? 23).map (·.size) = some (cells8 cz).toArray.size) := dig_size cz hzl.out
                have sXZ : Hid ((cells8 cx).toArray.size = (cells8 cz).toArray.size) := by show _ = _; simp [cells8_len, hxl.out, hzl.out]
                have oZ := Lib.hid (dig_one cz)
                go_wp2_with ((with_reducible change wpList _ _ _ ({ dst := none, op := Op.store 23 _ _, type := _, pos := _, after := _, guard := _ } :: _) _ _); refine wpList_store_row (o := ⟨none, _, _, _, _, _⟩) rfl 23 (.tmp 27) (.tmp 247) rfl (gm) ((cells8 cz).toArray) rfl rfl 23 ((cells8 cx).toArray) hCb.out sZ.out sXZ.out oZ.out ?_)
                go_roundw
                case rel => exact ⟨t + 1, by go_num, hlt'.out, (show Blk _ _ _ _ by rw [hstc.out]; exact setRow_heap _ _ _ _ _ _ hCb.out), Bytes.Kept.setRow (S := (· = gm)) hKb.out rfl _⟩
                case measure => (have := hlt'.out; simp [intOf]; omega)
              · obtain rfl : k = t := by have := htk.out; omega
                have u1 : (k : Int) ≤ (k : Int) := Int.le_refl _
                obtain ⟨mb, hmb⟩ : ∃ x, Hid (Chain.chainOf wd b (es.take k) = x) := ⟨_, Lib.hid rfl⟩
                rw [hmb.out] at hM
                have hmbl : Hid (mb.length = 32) := by show _ = _; rw [← hmb.out]; exact Chain.chainOf_len wd b hb.out _
                have sM : Hid ((Tryd.prog.info? 23).map (·.size) = some (cells8 mb).toArray.size) := dig_size mb hmbl.out
                have hC16 : Hid (Blk w16 gc 23 (cells8 b').toArray) := hC15.out.kept hKm.out (by show ¬ gc = gm; have := hgmc.out; omega)
                have hk16 : Hid (Below gm w14 w16) := below_kept hk15.out hKm.out (fun x _ (e : x = gm) => by omega) (by rw [← hgm.out]; exact hk15.out.size)
                obtain ⟨Ax, hXx, hAx⟩ := run_cutG (P := Tryd.prog) (t := 24) (A := A) (n := n) (c := c) (k := k) (sz := 1) Tryd.underlying24 (fun _ => rfl) hknH.out hncH.out
                obtain ⟨Ay, hXy, hAy⟩ := run_cutG (P := Tryd.prog) (t := 77) (A := A2) (n := n) (c := c2) (k := k) (sz := 3) Tryd.underlying77 (fun _ => rfl) hknH.out hmcH.out
                obtain ⟨kb, hkb⟩ := cut_drop hcu.out k (by rw [hle.out]; exact hknH.out) hk0'.out mb
                have hPb2 : Hid (∀ w', Below w.heap.size w w' → Calls Tryd.prog 34 #[.int .i64 wd, .string s, .int .i64 (F + (k : Int)), .agg (cells8 mb).toArray, .slice Ax (n - k) (c - k), .slice Ay (n - k) (c2 - k)] w' (CPostO w' s (es.drop k) (ps.drop k) (some kb))) := fun w' h => by
                  have h2 := hPb.out k hknH.out trivial (F + (k : Int)) mb hmbl.out Ax Ay hAx hAy w' h
                  rw [hkb] at h2
                  exact h2
                have zF : IntKind.i64.wrap (F + (k : Int)) = F + (k : Int) := IntWalk.i64_in _ (by have := hF40.out hn0'.out; have := hknH.out; have := beg_pos hbg.out; omega)
                replace hXx := Lib.hid hXx
                replace hXy := Lib.hid hXy
                replace hkb := Lib.hid hkb
                obtain ⟨nd, hnd⟩ : ∃ x, Hid (n - k = x) := ⟨_, Lib.hid rfl⟩
                rw [hnd.out] at hXx hXy hPb2
                clear hAx hAy hPb htk hKm hb15 hC15 hlt
                go_upto_region 41 with fail
                have s0 : Hid (Below w16.heap.size w16 w16.drew) := (Below.refl _ _).drew
                refine held_start (fun w' => Below w16.heap.size w16 w') 18 rfl (by kernel_rfl) ?_
                refine held_take (i := 0) (v := .int .i64 wd) rfl (by kernel_rfl) (by kernel_rfl) (by kernel_rfl) (fun _ _ _ h => h) s0.out (by rfl) (fun w' hw' => run_mv (.tmp 0) rfl w') ?_
                (intro K hK; go_simp; refine hK _ ?_; clear hK K)
                refine held_take (i := 1) (v := .string s) rfl (by kernel_rfl) (by kernel_rfl) (by kernel_rfl) (fun _ _ _ h => h) s0.out (by rfl) (fun w' hw' => run_mv (.tmp 1) rfl w') ?_
                (intro K hK; go_simp; refine hK _ ?_; clear hK K)
                refine held_take (i := 2) (v := .int .i64 F) rfl (by kernel_rfl) (by kernel_rfl) (by kernel_rfl) (fun _ _ _ h => h) s0.out (by rfl) (fun w' hw' => run_mv (.tmp 2) rfl w') ?_
                (intro K hK; go_simp; refine hK _ ?_; clear hK K)
                refine held_take (i := 3) (v := .int .i64 (k : Int)) rfl (by kernel_rfl) (by kernel_rfl) (by kernel_rfl) (fun _ _ _ h => h) s0.out (by rfl) (fun w' hw' => run_mv (.tmp 6) rfl w') ?_
                (intro K hK; go_simp; refine hK _ ?_; clear hK K)
                refine held_take (i := 4) (v := .int .i64 (F + (k : Int))) rfl (by kernel_rfl) (by kernel_rfl) (by kernel_rfl) (fun _ _ _ h => h) s0.out (by rfl) (fun w' hw' => by go_simp) ?_
                (intro K hK; go_simp; refine hK _ ?_; clear hK K)
                refine held_take (i := 5) (v := .agg ((cells8 mb).toArray)) rfl (by kernel_rfl) (by kernel_rfl) (by kernel_rfl) (fun _ _ _ h => h) s0.out (by rfl) (fun w' hw' => exec_row 23 (.tmp 27) rfl (gm) rfl 23 ((cells8 mb).toArray) (0, 0) _ ((hw'.block _ hM.out.lt).trans hM.out) Tryd.underlying23 rfl sM.out) ?_
                (intro K hK; go_simp; refine hK _ ?_; clear hK K)
                refine held_take (i := 6) (v := .slice A n c) rfl (by kernel_rfl) (by kernel_rfl) (by kernel_rfl) (fun _ _ _ h => h) s0.out (by rfl) (fun w' hw' => run_mv (.tmp 4) rfl w') ?_
                (intro K hK; go_simp; refine hK _ ?_; clear hK K)
                refine held_take (i := 7) (v := .int .i64 (k : Int)) rfl (by kernel_rfl) (by kernel_rfl) (by kernel_rfl) (fun _ _ _ h => h) s0.out (by rfl) (fun w' hw' => run_mv (.tmp 6) rfl w') ?_
                (intro K hK; go_simp; refine hK _ ?_; clear hK K)
                refine held_take (i := 8) (v := .slice Ax nd (c - k)) rfl (by kernel_rfl) (by kernel_rfl) (by kernel_rfl) (fun _ _ _ h => h) s0.out (by rfl) (fun w' hw' => by have hx := hXx.out w'; go_simp) ?_
                (intro K hK; go_simp; refine hK _ ?_; clear hK K)
                refine held_take (i := 9) (v := .slice A2 n c2) rfl (by kernel_rfl) (by kernel_rfl) (by kernel_rfl) (fun _ _ _ h => h) s0.out (by rfl) (fun w' hw' => run_mv (.tmp 5) rfl w') ?_
                (intro K hK; go_simp; refine hK _ ?_; clear hK K)
                refine held_take (i := 10) (v := .int .i64 (k : Int)) rfl (by kernel_rfl) (by kernel_rfl) (by kernel_rfl) (fun _ _ _ h => h) s0.out (by rfl) (fun w' hw' => run_mv (.tmp 6) rfl w') ?_
                (intro K hK; go_simp; refine hK _ ?_; clear hK K)
                refine held_take (i := 11) (v := .slice Ay nd (c2 - k)) rfl (by kernel_rfl) (by kernel_rfl) (by kernel_rfl) (fun _ _ _ h => h) s0.out (by rfl) (fun w' hw' => by have hx := hXy.out w'; go_simp) ?_
                (intro K hK; go_simp; refine hK _ ?_; clear hK K)
                refine held_only (i := 12) rfl (by kernel_rfl) (by rfl) (fun K hK => ?_)
                refine wp_fn (R := fun v w'' => ∃ Aa ca la, v = .tuple #[.slice Aa la.length ca, .int .i64 0] ∧ SaysR s (es.drop k) (ps.drop k) la kb ∧ LrO w16.drew w'' la.length Aa ca la ∧ Below w16.drew.heap.size w16.drew w'') (args := #[.int .i64 wd, .string s, .int .i64 (F + (k : Int)), .agg (cells8 mb).toArray, .slice Ax nd (c - k), .slice Ay nd (c2 - k)]) _ _ rfl rfl Tryd.func34 (by kernel_rfl) (by kernel_rfl) ((hPb2.out w16.drew (hb16.out.trans (s0.out.mono hb16.out.size))).mono fun e w'' h => by obtain ⟨Aa, ca, la, ea, he, hsl, hLa, hk⟩ := h; obtain ⟨h1, rfl⟩ := says_some hsl; exact ⟨_, he, Aa, ca, la, rfl, h1, hLa, hk⟩) ?_
                rintro v1 w18 ⟨Ab, cb, lb, rfl, hsB, hLb, hkc⟩
                have s1 : Hid (Below w16.heap.size w16 w18) := s0.out.trans (hkc.mono s0.out.size)
                clear hkc
                go_simp
                refine hK _ _ s1.out ?_
                clear hK K
                refine held_take (i := 13) (v := .tuple #[.slice Ab lb.length cb, .int .i64 0]) rfl (by kernel_rfl) (by kernel_rfl) (by kernel_rfl) (fun _ _ _ h => h) s1.out (by rfl) (fun w' hw' => run_mv (.tmp 261) rfl w') ?_
                (intro K hK; go_simp; refine hK _ ?_; clear hK K)
                refine held_take (i := 14) (v := .slice Ab lb.length cb) rfl (by kernel_rfl) (by kernel_rfl) (by kernel_rfl) (fun _ _ _ h => h) s1.out (by rfl) (fun w' hw' => by go_simp) ?_
                (intro K hK; go_simp; refine hK _ ?_; clear hK K)
                refine held_take (i := 15) (v := .int .i64 0) rfl (by kernel_rfl) (by kernel_rfl) (by kernel_rfl) (fun _ _ _ h => h) s1.out (by rfl) (fun w' hw' => by go_simp) ?_
                (intro K hK; go_simp; refine hK _ ?_; clear hK K)
                refine held_take (i := 16) (v := .slice Ab lb.length cb) rfl (by kernel_rfl) (by kernel_rfl) (by kernel_rfl) (fun _ _ _ h => h) s1.out (by rfl) (fun w' hw' => by go_simp) ?_
                (intro K hK; go_simp; refine hK _ ?_; clear hK K)
                refine held_take (i := 17) (v := .int .i64 0) rfl (by kernel_rfl) (by kernel_rfl) (by kernel_rfl) (fun _ _ _ h => h) s1.out (by rfl) (fun w' hw' => by go_simp) ?_
                (intro K hK; go_simp; refine hK _ ?_; clear hK K)
                have hb18 : Hid (Below w.heap.size w w18) := hb16.out.trans (s1.out.mono hb16.out.size)
                have hC18 : Hid (Blk w18 gc 23 (cells8 b').toArray) := (s1.out.block _ hC16.out.lt).trans hC16.out
                have hA18 : Hid (Below gm w14 w18) := hk16.out.trans (s1.out.mono (Nat.le_of_lt hM.out.lt))
                have hgl18 : Hid (gm < w18.heap.size) := Nat.lt_of_lt_of_le hM.out.lt s1.out.size
                clear s0 s1 hM hb16 hC16 hk16 hXx hXy hPb2
                refine held_end (by kernel_rfl) ?_
                replace hsB := Lib.hid hsB
                replace hLb := Lib.hid hLb
                obtain ⟨qb, hqb⟩ : ∃ x, Hid (lb.length = x) := ⟨_, Lib.hid rfl⟩
                rw [hqb.out] at hLb
                rw [hqb.out]
                have hLa18 : Hid (LrO wr.drew w18 qa Aa ca la) := hLa.out.kept (Kept.of_below (S := (· < wr.drew.heap.size + 1)) (by rw [hgm.out]; exact hA18.out))
                have hoA : Hid (w18.ownsRow (wr.heap.size + 1) 83 36 (.slice Aa qa ca) qa (la.flatMap Pc.cells)) := hLa18.out.ow
                obtain ⟨A5, c5, e5, -, -, hnb, hRb, -⟩ := Append.Own.reads hLb.out.ow
                injection e5 with e5 _ e6
                subst e5 e6
                replace hnb := Lib.hid hnb
                replace hRb := Lib.hid hRb
                have honb : Hid (∀ v ∈ lb.flatMap Pc.cells, v.oneCell' = true) := fun v hv => by
                  obtain ⟨p, -, hp⟩ := List.mem_flatMap.1 hv
                  have h := pc_one (s := p.s) (F := p.F) (b := p.b) (E := .slice p.A p.n p.c) (P := .slice p.A2 p.m p.c2) rfl rfl
                  rw [List.all_toArray] at h
                  exact List.all_eq_true.1 h v hp
                have hqk : Hid (qa ≤ 2200 ∧ qb ≤ 2200) := by
                  have h1 := cutsW_len hka.out k (by rw [List.length_take, hle.out]; have := hknH.out; omega)
                  have h2 := cutsW_len hkb.out nd (by rw [List.length_drop, hle.out]; exact hnd.out)
                  have h3 := hsA.out.1
                  have h4 := hsB.out.1
                  have := hqa.out
                  have := hqb.out
                  have := hknH.out
                  have := hnd.out
                  show _ ∧ _
                  omega
                have hw1 : Hid (qa + qb ≤ maxLen) := by show _ ≤ _; unfold maxLen; have := hqk.out; omega
                have hw2 : Hid ((qa + qb) * 104 ≤ 140737488355328) := by show _ ≤ _; have := hqk.out; omega
                have hw3 : Hid (wr.heap.size + 1 ≤ w18.heap.size) := by show _ ≤ _; have := hwr14.out; have := hgl18.out; omega
                obtain ⟨n0, hn0, nz0, nz1, nz2⟩ := info_partsN infoPc
                have hjo : Hid (((la ++ lb).map (fun p => p.es.length)).sum = n ∧ ∀ p, (la ++ lb).getLast? = some p → Chain.chainOf wd p.b p.es = b') := by
                  have h := joined hka.out hsA.out (by rw [hmb.out]; exact hkb.out) hsB.out
                  rw [hle.out, ← hbe'.out] at h
                  exact h
                obtain ⟨lz, hlz⟩ : ∃ x, Hid (la ++ lb = x) := ⟨_, Lib.hid rfl⟩
                have hlzq : Hid (lz.length = qa + qb) := by show _ = _; rw [← hlz.out, List.length_append, hqa.out, hqb.out]
                rw [hlz.out] at hjo
                have hsA2 := hsA
                have hsB2 := hsB
                clear hkb hka hsA hsB hLa hA18 hwr14 hgl18
                go_upto_region 45 with ((with_reducible change wpList _ _ _ ({ dst := some 268, op := _, type := _, pos := _, after := _, guard := _ } :: _) _ _); refine Append.wpList_append_src _ (o := ⟨some 268, _, _, _, _, _⟩) rfl (.tmp 266) (.tmp 267) 79 rfl (wr.heap.size + 1) 83 n0 (.agg zP) 36 104 Tryd.underlying79 hn0 nz0 nz1 nz2 rfl (by decide) (.slice Aa qa ca) qa (la.flatMap Pc.cells) rfl hoA.out Ab qb cb (lb.flatMap Pc.cells) rfl hRb.out hnb.out honb.out hw1.out hw2.out hw3.out ?_; intro v19 w19 hG; obtain ⟨Az, cz, rfl, hPz⟩ := join_pcs hLa18.out hLb.out hqa.out hqb.out hG; rw [hlz.out] at hPz; replace hPz := Lib.hid hPz; have hb19 : Hid (Below w.heap.size w w19) := below_kept hb18.out (grew_kept hG) (fun x _ e => by have := (hoA.out.lt x e.symm).1; have := hbwr.out; omega) hb18.out.size; have hC19 : Hid (Blk w19 gc 23 (cells8 b').toArray) := hC18.out.kept (grew_kept hG) (blk_own hC18.out hoA.out (by decide)); have hqk2 := Lib.hid hqk.out; clear hG)
                clear hoA hnb hRb honb hqk hw1 hw2 hw3 hn0 nz0 nz1 nz2 hLa18 hLb hb18 hC18
                obtain ⟨Q, hQ⟩ : ∃ x, Hid (qa + qb = x) := ⟨_, Lib.hid rfl⟩
                rw [hQ.out] at hlzq ⊢
                have hQn : Hid (Q ≤ 4400) := by show _ ≤ _; have := hQ.out; have := hqk2.out; omega
                clear hQ hqk2
                obtain ⟨ls, hls⟩ : ∃ x, Hid (lz.map (fun p => p.es.length) = x) := ⟨_, Lib.hid rfl⟩
                have hsum : Hid (ls.sum = n) := by show _ = _; rw [← hls.out]; exact hjo.out.1
                obtain ⟨wz, rfl⟩ : ∃ x, x = wr := ⟨_, rfl⟩
                go_wp2_with fail
                go_loopw [17, 31] (fun u v wr => ∃ t : Nat, u = .int .i64 ((ls.take t).sum : Nat) ∧ v = .int .i64 (t : Int) ∧ Hid (t ≤ Q) ∧ Hid (Below w19.heap.size w19 wr)) (fun _ v _ => Q - (intOf v).toNat)
                case atStart => exact ⟨0, rfl, rfl, Nat.zero_le _, Below.refl _ _⟩
                case round =>
                  obtain ⟨t, rfl, rfl, htQ, hk19⟩ := hrel
                  obtain ⟨w20, rfl⟩ : ∃ x, x = wr := ⟨_, rfl⟩
                  have htI : (t : Int) ≤ 4400 := by have := htQ.out; have := hQn.out; omega
                  obtain ⟨S, hS⟩ : ∃ x, Hid ((ls.take t).sum = x) := ⟨_, Lib.hid rfl⟩
                  rw [hS.out]
                  by_cases hlt : t < Q
                  · have u1 : (t : Int) < (Q : Int) := by omega
                    have u0 : (0 : Int) ≤ (t : Int) := by omega
                    obtain ⟨p, hpt⟩ : ∃ e, Hid (lz[t]? = some e) := ⟨_, List.getElem?_eq_getElem (by rw [hlzq.out]; exact hlt)⟩
                    obtain ⟨bz, oz, e5, hlz2, hcz⟩ := Pcs.at_ hPz.out hpt.out
                    subst e5
                    have hpo := hPz.out.2 p (List.mem_of_getElem? hpt.out)
                    have c34 : w20.cell? ⟨bz, oz + t * 36 + 34, none⟩ = some (.slice p.A p.n p.c) := (hk19.out.cell (p := ⟨bz, oz + t * 36 + 34, none⟩) hlz2).trans (hcz 34 _ (pc_events hpo.hb))
                    obtain ⟨pn, hpn⟩ : ∃ x, Hid (p.n = x) := ⟨_, Lib.hid rfl⟩
                    have hst : Hid ((ls.take (t + 1)).sum = S + pn) := by
                      have h := sum_step (l := ls) (i := t) (k := pn) (by rw [← hls.out, List.getElem?_map, hpt.out, ← hpn.out, ← hpo.he]; rfl)
                      rw [hS.out] at h
                      exact h
                    have hSle : S + pn ≤ 2200 := by have h := sum_le ls (t + 1); rw [hst.out, hsum.out] at h; omega
                    rw [hpn.out] at c34
                    have zS : IntKind.i64.wrap ((S : Int) + (pn : Int)) = (S : Int) + (pn : Int) := IntWalk.i64_in _ (by omega)
                    have hlt' : Hid (t < Q) := hlt
                    clear hlt hcz hlz2 hpo hSle
                    go_wp2_with fail
                    go_roundw
                    case rel => exact ⟨t + 1, by rw [hst.out]; go_num, by go_num, hlt'.out, hk19.out⟩
                    case measure => (have := hlt'.out; simp [intOf]; omega)
                  · obtain rfl : Q = t := by have := htQ.out; omega
                    have hSn : S = n := by rw [← hS.out, List.take_of_length_le (by rw [← hls.out, List.length_map, hlzq.out]; exact Nat.le_refl _)]; exact hsum.out
                    subst hSn
                    have u1 : (Q : Int) ≤ (Q : Int) := Int.le_refl _
                    have hQ0 : Q ≠ 0 := fun e => by
                      have h1 := hsum.out
                      have h2 := hlzq.out
                      rw [e] at h2
                      rw [← hls.out, List.eq_nil_of_length_eq_zero h2] at h1
                      exact hn0'.out h1.symm
                    obtain ⟨p, hpt⟩ : ∃ e, Hid (lz[Q - 1]? = some e) := ⟨_, List.getElem?_eq_getElem (by rw [hlzq.out]; omega)⟩
                    have hch : Hid (Chain.chainOf wd p.b p.es = b') := hjo.out.2 p (by rw [List.getLast?_eq_getElem?, hlzq.out]; exact hpt.out)
                    obtain ⟨bz, oz, e5, hlz2, hcz⟩ := Pcs.at_ hPz.out hpt.out
                    subst e5
                    have hpo : Hid (p.Ok w20) := Pc.Ok.below (hPz.out.2 p (List.mem_of_getElem? hpt.out)) hk19.out
                    obtain ⟨q1, hq1⟩ : ∃ x : Nat, Hid (Q = x + 1) := ⟨Q - 1, Lib.hid (by omega)⟩
                    have zQ : IntKind.i64.wrap ((Q : Int) - 1) = (q1 : Int) := by rw [IntWalk.i64_in _ (by omega)]; have := hq1.out; omega
                    have x1 : (q1 : Int) < (Q : Int) := by have := hq1.out; omega
                    have x0 : (0 : Int) ≤ (q1 : Int) := by omega
                    obtain ⟨cz, hcze⟩ : ∃ x, Hid (p.cells = x) := ⟨_, Lib.hid rfl⟩
                    have hat : Hid (∀ j u, cz[j]? = some u → w20.cell? ⟨bz, oz + q1 * 36 + j, none⟩ = some u) := fun j u hu => (hk19.out.cell (p := ⟨bz, oz + q1 * 36 + j, none⟩) hlz2).trans (by have h := hcz j u (by rw [hcze.out]; exact hu); rwa [show Q - 1 = q1 by have := hq1.out; omega] at h)
                    have hpb : Hid (p.b.length = 32) := hpo.out.hb
                    have sP : Hid ((Tryd.prog.info? 83).map (·.size) = some cz.toArray.size) := by show _ = _; rw [← hcze.out]; exact pc_info hpb.out
                    have sPl : Hid ((Tryd.prog.info? 83).map (·.size) = some cz.length) := by have h := sP.out; rw [List.size_toArray] at h; exact h
                    have zPs : Hid (zP.size = cz.toArray.size) := by show _ = _; rw [← hcze.out]; exact (pc_size hpb.out).symm
                    have oP : Hid ((cz.toArray.all fun v => v.oneCell') = true) := by show _ = _; rw [← hcze.out]; exact pc_one rfl rfl
                    have hb20 : Hid (Below w.heap.size w w20) := hb19.out.trans (hk19.out.mono hb19.out.size)
                    have hC20 : Hid (Blk w20 gc 23 (cells8 b').toArray) := (hk19.out.block _ hC19.out.lt).trans hC19.out
                    clear hlt hcz hlz2 hk19 hC19 hb19 hPz hS htQ
                    obtain ⟨s9, F9, bp, ep, pp, Ap, np, cp, A92, n92, c92⟩ := p
                    replace hch : Hid (Chain.chainOf wd bp ep = b') := hch
                    replace hpb : Hid (bp.length = 32) := hpb
                    have hen : Hid (ep.length = np) := hpo.out.he
                    replace hcze : Hid (pieceCells s9 F9 bp (.slice Ap np cp) (.slice A92 n92 c92) = cz) := hcze
                    have hnp2 : Hid (np ≤ 2200) := by
                      have h := sum_step (l := ls) (i := Q - 1) (k := np) (by rw [← hls.out, List.getElem?_map, hpt.out, ← hen.out]; rfl)
                      have h2 := sum_le ls (Q - 1 + 1)
                      rw [h, hsum.out] at h2
                      show _ ≤ _
                      omega
                    have hep : Hid (∀ e ∈ ep, e ∈ es) := fun e he => by
                      rcases List.mem_append.1 (by rw [hlz.out]; exact List.mem_of_getElem? hpt.out) with h | h
                      · exact List.mem_of_mem_take (says_sub hsA2.out h e he)
                      · exact List.mem_of_mem_drop (says_sub hsB2.out h e he)
                    have sDp : Hid ((Tryd.prog.info? 23).map (·.size) = some (cells8 bp).length) := by show _ = _; rw [cells8_len, hpb.out]; exact size31
                    have sDq := Lib.hid (dig_size bp hpb.out)
                    have hzq : Hid (Z32.size = (cells8 bp).toArray.size) := by show Z32.size = (cells8 bp).length; rw [cells8_len, hpb.out]; rfl
                    have honq := Lib.hid (dig_one bp)
                    clear hpt hjo hls hsum hlz hlzq hQn hQ0
                    go_upto_region 51 with (first
                      | ((with_reducible change wpList _ _ _ ({ dst := some 288, op := _, type := _, pos := _, after := _, guard := _ } :: _) _ _); refine wpList_load_part (o := ⟨some 288, _, _, _, _, _⟩) rfl 83 (.tmp 287) rfl (bz) ((oz + q1 * 36)) rfl (cz) _ hat.out Tryd.underlying83 rfl sPl.out ?_)
                      | ((with_reducible change wpList _ _ _ ({ dst := none, op := Op.store 83 (.tmp 32) _, type := _, pos := _, after := _, guard := _ } :: _) _ _); refine RefIncl0.wpList_store_whole0 rfl (o := ⟨none, _, _, _, _, _⟩) rfl 83 (.tmp 32) (.tmp 288) rfl (w20.heap.size) (cz.toArray) rfl rfl 83 (zP) (Blk.new w20 _ _) sP.out zPs.out oP.out ?_; intro w21 hP21 hkx; have hk21 := Lib.hid (Held.kept_fresh hkx); replace hP21 := Lib.hid hP21; clear hkx; generalize hgq : w20.heap.size = gq at *; replace hgq := Lib.hid hgq))
                    have hb21 : Hid (Below w.heap.size w w21) := hb20.out.trans (hk21.out.mono (by rw [← hgq.out]; exact hb20.out.size))
                    have hC21 : Hid (Blk w21 gc 23 (cells8 b').toArray) := (hk21.out.block _ (by rw [← hgq.out]; exact hC20.out.lt)).trans hC20.out
                    have hpo21 := Lib.hid (Pc.Ok.below hpo.out (by rw [hgq.out]; exact hk21.out))
                    have hcb2 : Hid (∀ j v, (cells8 bp)[j]? = some v → w21.cell? ⟨gq, 2 + j, none⟩ = some v) := fun j v hv => (hP21.out.cell (2 + j)).trans (by rw [List.getElem?_toArray, ← hcze.out]; exact pc_before j v hv)
                    have hgcq : Hid (gc < w21.heap.size) := hC21.out.lt
                    clear hb20 hC20 hk21 hpo hat
                    go_upto_region 52 with (first
                      | ((with_reducible change wpList _ _ _ ({ dst := some 290, op := _, type := _, pos := _, after := _, guard := _ } :: _) _ _); refine wpList_load_part (o := ⟨some 290, _, _, _, _, _⟩) rfl 23 (.tmp 289) rfl (gq) (2) rfl (cells8 bp) _ hcb2.out Tryd.underlying23 rfl sDp.out ?_)
                      | ((with_reducible change wpList _ _ _ ({ dst := none, op := Op.store 23 (.tmp 33) _, type := _, pos := _, after := _, guard := _ } :: _) _ _); refine RefIncl0.wpList_store_whole0 rfl (o := ⟨none, _, _, _, _, _⟩) rfl 23 (.tmp 33) (.tmp 290) rfl (w21.heap.size) ((cells8 bp).toArray) rfl rfl 23 (Z32) (Blk.new w21 _ _) sDq.out hzq.out honq.out ?_; intro w22 hE22 hkx; have hk22 := Lib.hid (Held.kept_fresh hkx); replace hE22 := Lib.hid hE22; clear hkx; generalize hge2 : w21.heap.size = ge at *; replace hge2 := Lib.hid hge2))
                    have hb22 : Hid (Below w.heap.size w w22) := hb21.out.trans (hk22.out.mono (by rw [← hge2.out]; exact hb21.out.size))
                    clear hcb2
                    go_wp2_with fail
                    go_loopw [34] (fun v wr => ∃ t : Nat, v = .int .i64 (t : Int) ∧ Hid (t ≤ np) ∧ Hid (Blk wr ge 23 (cells8 (Chain.chainOf wd bp (ep.take t))).toArray) ∧ Hid (Kept (· = ge) w22 wr)) (fun v _ => np - (intOf v).toNat)
                    case atStart => exact ⟨0, rfl, Nat.zero_le _, hE22.out, Kept.refl _ _⟩
                    case round =>
                      clear hE22
                      obtain ⟨t, rfl, htn, hE, hKe⟩ := hrel
                      obtain ⟨w23, rfl⟩ : ∃ x, x = wr := ⟨_, rfl⟩
                      have hkr : Hid (Below ge w21 w23) := below_kept hk22.out hKe.out (fun x _ (e : x = ge) => Nat.le_of_eq e.symm) (by rw [← hge2.out]; exact hk22.out.size)
                      have hpo23 := Pc.Ok.below hpo21.out (by rw [hge2.out]; exact hkr.out)
                      have hb23 : Hid (Below w.heap.size w w23) := hb21.out.trans (hkr.out.mono (by rw [← hge2.out]; exact hb21.out.size))
                      have hP23 : Hid (Blk w23 gq 83 cz.toArray) := (hkr.out.block _ (by rw [← hge2.out]; exact hP21.out.lt)).trans hP21.out
                      have c34 : w23.cell? ⟨gq, 34, none⟩ = some (.slice Ap np cp) := (hP23.out.cell 34).trans (by rw [List.getElem?_toArray, ← hcze.out]; exact pc_events hpb.out)
                      have htI : (t : Int) ≤ 2200 := by have := htn.out; have := hnp2.out; omega
                      by_cases hlt : t < np
                      · have u1 : (t : Int) < (np : Int) := by omega
                        have u0 : (0 : Int) ≤ (t : Int) := by omega
                        obtain ⟨qq, hqi⟩ : ∃ e, Hid (ep[t]? = some e) := ⟨_, List.getElem?_eq_getElem (by rw [hen.out]; omega)⟩
                        obtain ⟨bE, oE, e2, hlE, hcE⟩ := hpo23.e (by have := hen.out; show 0 < ep.length; omega)
                        obtain rfl : Ap = some ⟨bE, oE, none⟩ := e2
                        obtain ⟨Ai, ci, hc1, hc2, hc3, hc4⟩ := hcE t qq hqi.out
                        obtain ⟨mq, hmq⟩ : ∃ m, Hid (qq.length = m) := ⟨_, Lib.hid rfl⟩
                        rw [hmq.out] at hc1 hc2 hc3 hc4
                        have hq47 : Hid (mq < 140737488355328) := by show _ < _; rw [← hmq.out]; exact hshH.out qq (hep.out qq (List.mem_of_getElem? hqi.out))
                        have kE : Hid (∀ w', Below w23.heap.size w23 w' → w'.cell? ⟨bE, oE + t, none⟩ = some (.slice Ai mq ci)) := fun w' hb => (hb.cell (p := ⟨bE, oE + t, none⟩) hlE).trans hc1
                        have k34 : Hid (∀ w', Below w23.heap.size w23 w' → w'.cell? ⟨gq, 34, none⟩ = some (.slice (some ⟨bE, oE, none⟩) np cp)) := fun w' hb => (hb.cell (p := ⟨gq, 34, none⟩) hP23.out.lt).trans c34
                        obtain ⟨cx, hcx⟩ : ∃ x, Hid (x = Chain.chainOf wd bp (ep.take t)) := ⟨_, Lib.hid rfl⟩
                        have hxl : Hid (cx.length = 32) := by show _ = _; rw [hcx.out]; exact Chain.chainOf_len wd bp hpb.out _
                        have hstc := Lib.hid (Chain.chainOf_step wd bp ep t qq hqi.out)
                        rw [← hcx.out] at hE hstc
                        obtain ⟨cy, hcy⟩ : ∃ y, Hid (y = Chain.leafOf wd qq) := ⟨_, Lib.hid rfl⟩
                        obtain ⟨c7, hc7⟩ : ∃ z, Hid (z = Chain.linkOf wd cx cy) := ⟨_, Lib.hid rfl⟩
                        have hyl : Hid (cy.length = 32) := by show _ = _; rw [hcy.out]; exact Chain.leafOf_len _ _
                        have hzl : Hid (c7.length = 32) := by show _ = _; rw [hc7.out]; exact Chain.linkOf_len _ _ _
                        rw [← hcy.out, ← hc7.out] at hstc
                        have hLf : Hid (∀ w', Below w23.heap.size w23 w' → Calls Tryd.prog 38 #[.int .i64 wd, .slice Ai mq ci] w' fun e w'' => e = .returned (.agg (cells8 cy).toArray) ∧ Below w'.heap.size w' w'') := fun w' hb => by
                          rw [hcy.out]
                          exact leaf_any qq mq hmq.out Ai ci wd w' (hBs.out.below (hb23.out.trans (hb.mono hb23.out.size)) hBs.out.1) hq47.out (hc3.below hb) hc2 hc4
                        have hLk : Hid (∀ w', Below w23.heap.size w23 w' → Calls Tryd.prog 37 #[.int .i64 wd, .agg (cells8 cx).toArray, .agg (cells8 cy).toArray] w' fun e w'' => e = .returned (.agg (cells8 c7).toArray) ∧ Below w'.heap.size w' w'') := fun w' hb => by
                          rw [hc7.out]
                          exact link_any cx cy hxl.out hyl.out wd w' (hBs.out.below (hb23.out.trans (hb.mono hb23.out.size)) hBs.out.1)
                        have sX : Hid ((Tryd.prog.info? 23).map (·.size) = some (cells8 cx).toArray.size) := dig_size cx hxl.out
                        have hlt' : Hid (t < np) := hlt
                        clear hlt hcE hc1 hc2 hc3 hc4 hlE hpo23 hkr
                        go_upto_region 55 with fail
                        refine wp_region_class_tail 10 (Class w23) (by kernel_rfl) (by kernel_rfl) (Class.mk_ ((Below.refl _ _).drew)) ?_
                        refine wpQuiet_move rfl (.tmp 0) rfl ?_
                        (intro K hK; go_simp; refine hK _ ?_; clear hK K)
                        refine wpQuiet_load_row rfl 23 (.tmp 33) rfl ge rfl 23 ((cells8 cx).toArray) (0, 0) _ (fun w' hw' => (hw'.below.block _ hE.out.lt).trans hE.out) Tryd.underlying23 rfl sX.out ?_
                        (intro K hK; go_simp; refine hK _ ?_; clear hK K)
                        refine wpQuiet_move rfl (.tmp 0) rfl ?_
                        (intro K hK; go_simp; refine hK _ ?_; clear hK K)
                        refine wpQuiet_val (v := .pointer (some ⟨gq, 34, none⟩)) rfl (fun w' hw' => by go_simp) ?_
                        (intro K hK; go_simp; refine hK _ ?_; clear hK K)
                        refine wpQuiet_val (v := .slice (some ⟨bE, oE, none⟩) np cp) rfl (fun w' hw' => by have hc := k34.out w' hw'.below; go_simp) ?_
                        (intro K hK; go_simp; refine hK _ ?_; clear hK K)
                        refine wpQuiet_move rfl (.tmp 34) rfl ?_
                        (intro K hK; go_simp; refine hK _ ?_; clear hK K)
                        refine wpQuiet_val (v := .pointer (some ⟨bE, oE + t, none⟩)) rfl (fun w' hw' => by go_simp) ?_
                        (intro K hK; go_simp; refine hK _ ?_; clear hK K)
                        refine wpQuiet_val (v := .slice Ai mq ci) rfl (fun w' hw' => by have hc := kE.out w' hw'.below; go_simp) ?_
                        (intro K hK; go_simp; refine hK _ ?_; clear hK K)
                        refine wpQuiet_fn (v := .agg (cells8 cy).toArray) (args := #[.int .i64 wd, .slice Ai mq ci]) rfl _ _ rfl rfl Tryd.func38 (by kernel_rfl) (by kernel_rfl) (fun w' hw' => (hLf.out w' hw'.below).mono (fun e w'' ⟨he, hw⟩ => ⟨he, hw'.next hw⟩)) ?_
                        (intro K hK; go_simp; refine hK _ ?_; clear hK K)
                        refine wpQuiet_fn (v := .agg (cells8 c7).toArray) (args := #[.int .i64 wd, .agg (cells8 cx).toArray, .agg (cells8 cy).toArray]) rfl _ _ rfl rfl Tryd.func37 (by kernel_rfl) (by kernel_rfl) (fun w' hw' => (hLk.out w' hw'.below).mono (fun e w'' ⟨he, hw⟩ => ⟨he, hw'.next hw⟩)) ?_
                        (intro K hK; go_simp; refine hK _ ?_; clear hK K)
                        refine wpQuiet_nil ?_
                        intro wb hwb
                        have hCb := Lib.hid ((hwb.below.block _ hE.out.lt).trans hE.out)
                        have hKb : Hid (Kept (· = ge) w22 wb) := hKe.out.trans (Kept.of_below (S := (· = ge)) hwb.below) (fun _ _ h => h)
                        clear hwb
                        simp only [List.drop]
                        have sZ : Hid ((Tryd.prog.info? 23).map (·.size) = some (cells8 c7).toArray.size) := dig_size c7 hzl.out
                        have sXZ : Hid ((cells8 cx).toArray.size = (cells8 c7).toArray.size) := by show _ = _; simp [cells8_len, hxl.out, hzl.out]
                        have oZ := Lib.hid (dig_one c7)
                        go_wp2_with ((with_reducible change wpList _ _ _ ({ dst := none, op := Op.store 23 _ _, type := _, pos := _, after := _, guard := _ } :: _) _ _); refine wpList_store_row (o := ⟨none, _, _, _, _, _⟩) rfl 23 (.tmp 33) (.tmp 307) rfl (ge) ((cells8 c7).toArray) rfl rfl 23 ((cells8 cx).toArray) hCb.out sZ.out sXZ.out oZ.out ?_)
                        go_roundw
                        case rel => exact ⟨t + 1, by go_num, hlt'.out, (show Blk _ _ _ _ by rw [hstc.out]; exact setRow_heap _ _ _ _ _ _ hCb.out), Bytes.Kept.setRow (S := (· = ge)) hKb.out rfl _⟩
                        case measure => (have := hlt'.out; simp [intOf]; omega)
                      · obtain rfl : np = t := by have := htn.out; omega
                        have u1 : (np : Int) ≤ (np : Int) := Int.le_refl _
                        rw [List.take_of_length_le (Nat.le_of_eq hen.out), hch.out] at hE
                        have hC23 : Hid (Blk w23 gc 23 (cells8 b').toArray) := (hkr.out.block _ hgcq.out).trans hC21.out
                        have sDb := Lib.hid (dig_size b' hb'.out)
                        have hcm : Hid ((binOp .eql 23 (.agg (cells8 b').toArray) (.agg (cells8 b').toArray)).run Tryd.prog w23 = .ok (.bool true) w23) := by show _ = _; rw [eql_dig b' b' hb'.out hb'.out, decide_eq_true rfl]
                        clear hlt hpo23 hkr
                        go_wp2_with (first
                          | ((with_reducible change wpList _ _ _ ({ dst := some 313, op := _, type := _, pos := _, after := _, guard := _ } :: _) _ _); (with_reducible refine Veil.out ?_); refine wpList_rowW (o := ⟨some 313, _, _, _, _, _⟩) rfl 23 (.tmp 33) rfl (ge) rfl 23 ((cells8 b').toArray) (0, 0) _ hE.out Tryd.underlying23 rfl sDb.out ?_)
                          | ((with_reducible change wpList _ _ _ ({ dst := some 314, op := _, type := _, pos := _, after := _, guard := _ } :: _) _ _); (with_reducible refine Veil.out ?_); refine wpList_rowW (o := ⟨some 314, _, _, _, _, _⟩) rfl 23 (.tmp 18) rfl (gc) rfl 23 ((cells8 b').toArray) (0, 0) _ hC23.out Tryd.underlying23 rfl sDb.out ?_)
                          | ((with_reducible change wpList _ _ _ ({ dst := some 315, op := _, type := _, pos := _, after := _, guard := _ } :: _) _ _); (with_reducible refine Veil.out ?_); refine CmpW.wpList_cmpW (o := ⟨some 315, _, _, _, _, _⟩) rfl .eql 23 23 (.tmp 313) (.tmp 314) rfl ((cells8 b').toArray) ((cells8 b').toArray) rfl rfl (by kernel_rfl) (_) (hcm.out) ?_))
                        go_ret
                        exact ⟨rfl, hb23.out⟩
  · obtain rfl : q = 0 := by rw [← hlq.out, hl0]; rfl
    go_wp2_with fail
    go_ret
    exact ⟨rfl, hb3.out⟩
end Go.Proofs.YtgldkfaiofkhbaaDoor.ProofJoined
