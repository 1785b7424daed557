/-
  Texts of the claim, put into one file: PieceLay, SamePiece, EncPiece.
-/
import Derived.Test.YthkdlaohaekilaaDoorZ32
import Derived.Test.YthkdlaohaekilaaDoorZ18
import Derived.Test.YthkdlaohaekilaaDoorZ20
import Derived.Test.YthkdlaohaekilaaDoorZ27
import Derived.Test.YthkdlaohaekilaaDoorZ4
import Derived.Test.YthkdlaohaekilaaDoorZ13
import Derived.Test.YthkdlaohaekilaaDoorZ10

namespace Go.Proofs.YthkdlaohaekilaaDoor.PieceLay
open Go Go.RowKit Go.Proofs.YthkdlaohaekilaaDoor Go.Proofs.YthkdlaohaekilaaDoor.Mem Go.Proofs.YthkdlaohaekilaaDoor.Sha Go.Proofs.YthkdlaohaekilaaDoor.Bytes Go.Proofs.YthkdlaohaekilaaDoor.HashMem Go.Proofs.YthkdlaohaekilaaDoor.Octet Go.Proofs.YthkdlaohaekilaaDoor.Octet4 Go.Proofs.YthkdlaohaekilaaDoor.TreeMem Go.Proofs.YthkdlaohaekilaaDoor.ProofBeside Go.Proofs.YthkdlaohaekilaaDoor.ProofEnc Go.Proofs.YthkdlaohaekilaaDoor.ProofIdx Go.Proofs.YthkdlaohaekilaaDoor.ProofIdx2 Go.Proofs.YthkdlaohaekilaaDoor.Ref17 Go.Proofs.YthkdlaohaekilaaDoor.PieceP Go.Proofs.YthkdlaohaekilaaDoor.PieceRow Go.Proofs.YthkdlaohaekilaaDoor.PieceBegins Go.Proofs.YthkdlaohaekilaaDoor.Prs Go.Proofs.YthkdlaohaekilaaDoor.Reach Go.Proofs.YthkdlaohaekilaaDoor.Reach2 Go.Proofs.YthkdlaohaekilaaDoor.PieceB

/-- A piece as cells: the name, the first number, the chain ahead, the events, the proofs. -/
def pieceCells (s : ByteArray) (first : Int) (b : Text) (E P : Value) : List Value := [.string s, .int .i64 first] ++ cells8 b ++ [E, P]
section
variable {s : ByteArray} {first : Int} {b : Text} {E P : Value}
theorem pc_name : (pieceCells s first b E P)[0]? = some (.string s) := rfl
theorem pc_first : (pieceCells s first b E P)[1]? = some (.int .i64 first) := rfl
theorem pc_before (j : Nat) (v : Value) (hv : (cells8 b)[j]? = some v) : (pieceCells s first b E P)[2 + j]? = some v := by
  have hj : j < (cells8 b).length := (List.getElem?_eq_some_iff.1 hv).1
  unfold pieceCells
  rw [List.append_assoc, List.getElem?_append_right (by simp), List.getElem?_append_left (by simp; omega)]
  simpa using hv
theorem pc_events (hb : b.length = 32) : (pieceCells s first b E P)[34]? = some E := by
  unfold pieceCells
  rw [List.getElem?_append_right (by simp [cells8_len, hb])]
  simp [cells8_len, hb]
theorem pc_proofs (hb : b.length = 32) : (pieceCells s first b E P)[35]? = some P := by
  unfold pieceCells
  rw [List.getElem?_append_right (by simp [cells8_len, hb])]
  simp [cells8_len, hb]
theorem pc_len (hb : b.length = 32) : (pieceCells s first b E P).length = 36 := by simp [pieceCells, cells8_len, hb]
end
theorem size36 : (Tryd.prog.info? 33).map (·.size) = some 36 := by kernel_rfl
/-- May it be laid down? -/
def okP (s : ByteArray) (first : Int) (b : Text) (es : List Text) (ps : List Pr) : Prop := es.length ≠ 0 ∧ ps.length = es.length ∧ reachN s first b es ps = es.length
instance (s : ByteArray) (first : Int) (b : Text) (es : List Text) (ps : List Pr) : Decidable (okP s first b es ps) := by unfold okP; infer_instance
theorem items_at {es : List Text} {ps : List Pr} {i : Nat} {e : Text} {p : Pr} (h1 : es[i]? = some e) (h2 : ps[i]? = some p) : (itemsOf es ps)[i]? = some (itemOf e p) := by
  unfold itemsOf
  rw [List.getElem?_zipWith, h1, h2]
theorem items_len {es : List Text} {ps : List Pr} (h : ps.length = es.length) : (itemsOf es ps).length = es.length := by
  unfold itemsOf
  rw [List.length_zipWith, h, Nat.min_self]
theorem fit_parts {x y : Int} {n k : Nat} (h : fitB x y n k = true) : insideB x y = true ∧ bsNum x y = (n : Int) ∧ 1 ≤ k ∧ k ≤ 65536 ∧ n ≤ 40 ∧ 1 ≤ x ∧ x ≤ 1099511627776 ∧ 0 ≤ y ∧ y < x := by
  unfold fitB at h
  simp only [Bool.and_eq_true, decide_eq_true_eq, beq_iff_eq] at h
  obtain ⟨h1, h2, h3, h4⟩ := h
  have h5 := h1
  simp only [insideB, Bool.and_eq_true, decide_eq_true_eq] at h5
  refine ⟨h1, h2, h3, h4, ?_, by omega, by omega, by omega, by omega⟩
  unfold bsNum at h2
  rw [if_pos h1] at h2
  have := besideOf_le (size := x.toNat) (i := y.toNat) (by omega)
  omega
/-- What a piece that may be holds. -/
structure Fits (s : ByteArray) (first : Int) (b : Text) (es : List Text) (ps : List Pr) : Prop where
  beg : begB s.data.toList first b = true
  s64 : s.size ≤ 64
  n0 : 0 < es.length
  n1000 : es.length ≤ 1000
  len : ps.length = es.length
  f0 : 0 ≤ first
  f40 : first ≤ 1099511627776
  x0 : 1 ≤ firstSize ps
  x40 : firstSize ps ≤ 1099511627776
  row : ∀ (i : Nat) (e : Text) (p : Pr), es[i]? = some e → ps[i]? = some p → fitB p.x p.y p.n e.length = true ∧ p.x = firstSize ps
/-- How many events make a piece, walked at any input. -/
theorem reach_any (s : ByteArray) (hs : s.size ≤ 140737488355328) (first : Int) (b : Text) (hb : b.length = 32) (es : List Text) (n : Nat) (hn : es.length = n) (hn47 : n < 140737488355328) (A : Option Addr) (c : Nat) (ps : List Pr) (hm : ps.length = n) (A2 : Option Addr) (c2 : Nat) (w : World) (hp : Pieces w A es) (hq : Prs w A2 ps) (hsh : ∀ e ∈ es, e.length < 140737488355328) (hnn : ∀ p ∈ ps, p.n < 140737488355328) :
    Calls Tryd.prog 52 #[.string s, .int .i64 first, .agg (cells8 b).toArray, .slice A n c, .slice A2 n c2] w fun e w' => e = .returned (.int .i64 (reachN s first b es ps : Int)) ∧ Below w.heap.size w w' := by
  unfold reachN
  split
  · rename_i h
    have h64 : s.size ≤ 64 := by
      have hbb := h
      unfold begB namedB at hbb
      simp only [Bool.and_eq_true, decide_eq_true_eq] at hbb
      simpa using hbb.1.1
    exact reach_yes s h64 first b hb h es n hn hn47 A c ps hm A2 c2 w hp hq hsh hnn
  · rename_i h
    exact reach_no s hs first b hb (by simpa using h) A n c A2 n c2 w
end Go.Proofs.YthkdlaohaekilaaDoor.PieceLay

namespace Go.Proofs.YthkdlaohaekilaaDoor.SamePiece
open Go Go.RowKit Go.Proofs.YthkdlaohaekilaaDoor Go.Proofs.YthkdlaohaekilaaDoor.Mem Go.Proofs.YthkdlaohaekilaaDoor.Sha Go.Proofs.YthkdlaohaekilaaDoor.Bytes Go.Proofs.YthkdlaohaekilaaDoor.TreeMem Go.Proofs.YthkdlaohaekilaaDoor.Held Go.Proofs.YthkdlaohaekilaaDoor.Grown Go.Proofs.YthkdlaohaekilaaDoor.Guard Go.Proofs.YthkdlaohaekilaaDoor.Guard2 Go.Proofs.YthkdlaohaekilaaDoor.Want Go.Proofs.YthkdlaohaekilaaDoor.Plain Go.Proofs.YthkdlaohaekilaaDoor.DigEq Go.Proofs.YthkdlaohaekilaaDoor.HeadMem Go.Proofs.YthkdlaohaekilaaDoor.StructEq Go.Proofs.YthkdlaohaekilaaDoor.Book2 Go.Proofs.YthkdlaohaekilaaDoor.ProofEnc Go.Proofs.YthkdlaohaekilaaDoor.ProofIdx Go.Proofs.YthkdlaohaekilaaDoor.Ref17 Go.Proofs.YthkdlaohaekilaaDoor.Prs Go.Proofs.YthkdlaohaekilaaDoor.Reach2 Go.Proofs.YthkdlaohaekilaaDoor.PieceLay Go.Proofs.YthkdlaohaekilaaDoor.Same8 Go.Proofs.YthkdlaohaekilaaDoor.Law17a Go.Proofs.YthkdlaohaekilaaDoor.SameIdx

theorem piece_facts (s : ByteArray) (F : Int) (b : Text) (hb : b.length = 32) (E P : Value) : ∃ cs : Array Value, (pieceCells s F b E P).toArray = cs ∧ cs[0]? = some (.string s) ∧ cs[1]? = some (.int .i64 F) ∧ (∀ j v, (cells8 b)[j]? = some v → cs[2 + j]? = some v) ∧ cs[34]? = some E ∧ cs[35]? = some P :=
  ⟨_, rfl, by rw [List.getElem?_toArray]; exact pc_name, by rw [List.getElem?_toArray]; exact pc_first, fun j v hv => by rw [List.getElem?_toArray]; exact pc_before j v hv, by rw [List.getElem?_toArray]; exact pc_events hb, by rw [List.getElem?_toArray]; exact pc_proofs hb⟩
/-- Two rows of proofs with the same in them. -/
def Alike (ps qs : List Pr) : Prop := ps.map (fun p => (p.x, p.y, p.n, p.ds)) = qs.map (fun p => (p.x, p.y, p.n, p.ds))
theorem Alike.len {ps qs : List Pr} (h : Alike ps qs) : ps.length = qs.length := by
  have := congrArg List.length h
  simpa using this
theorem Alike.at_ {ps qs : List Pr} (h : Alike ps qs) {i : Nat} {p q : Pr} (hp : ps[i]? = some p) (hq : qs[i]? = some q) : p.x = q.x ∧ p.y = q.y ∧ p.n = q.n ∧ p.ds = q.ds := by
  have e := congrArg (fun l => l[i]?) h
  simp only [List.getElem?_map, hp, hq, Option.map_some, Option.some.injEq, Prod.mk.injEq] at e
  exact e
set_option maxRecDepth 100000 in
set_option maxHeartbeats 2000000 in
theorem samePieces_yes (s : ByteArray) (F : Int) (b : Text) (hb : b.length = 32) (es : List Text) (n : Nat) (hn : es.length = n) (hn47 : n < 140737488355328) (hsh : ∀ e ∈ es, e.length < 140737488355328) (ps qs : List Pr) (hpq : Alike ps qs) (m : Nat) (hm : ps.length = m) (hm47 : m < 140737488355328) (hnn : ∀ p ∈ ps, p.n < 140737488355328)
    (A1 A2 P1 P2 : Option Addr) (c1 c2 d1 d2 : Nat) (w : World) (ha1 : Pieces w A1 es) (ha2 : Pieces w A2 es) (hp1 : Prs w P1 ps) (hp2 : Prs w P2 qs) :
    Calls Tryd.prog 58 #[.agg (pieceCells s F b (.slice A1 n c1) (.slice P1 m d1)).toArray, .agg (pieceCells s F b (.slice A2 n c2) (.slice P2 m d2)).toArray] w fun e w' => e = .returned (.bool true) ∧ Below w.heap.size w w' := by
  obtain ⟨cs, hcs, i0, i1, i2, i3, i4⟩ := piece_facts s F b hb (.slice A1 n c1) (.slice P1 m d1)
  obtain ⟨ds, hds, j0, j1, j2, j3, j4⟩ := piece_facts s F b hb (.slice A2 n c2) (.slice P2 m d2)
  rw [hcs, hds]
  have hX : Blk ((w.alloc (.cells cs 33)).alloc (.cells ds 33)) w.heap.size 33 cs := (Blk.new w _ _).alloc _
  have hY : Blk ((w.alloc (.cells cs 33)).alloc (.cells ds 33)) (w.heap.size + 1) 33 ds := by
    have := Blk.new (w.alloc (.cells cs 33)) 33 ds
    rwa [show (w.alloc (.cells cs 33)).heap.size = w.heap.size + 1 by simp] at this
  have a0 := (hX.cell 0).trans i0
  have a1 := (hX.cell 1).trans i1
  have b0 := (hY.cell 0).trans j0
  have b1 := (hY.cell 1).trans j1
  have a2 : Hid (∀ j v, (cells8 b)[j]? = some v → ((w.alloc (.cells cs 33)).alloc (.cells ds 33)).cell? ⟨w.heap.size, 2 + j, none⟩ = some v) := fun j v hv => (hX.cell _).trans (i2 j v hv)
  have b2 : Hid (∀ j v, (cells8 b)[j]? = some v → ((w.alloc (.cells cs 33)).alloc (.cells ds 33)).cell? ⟨w.heap.size + 1, 2 + j, none⟩ = some v) := fun j v hv => (hY.cell _).trans (j2 j v hv)
  have a3 : ((w.alloc (.cells cs 33)).alloc (.cells ds 33)).cell? ⟨w.heap.size, 34, none⟩ = some (.slice A1 n c1) := (hX.cell 34).trans i3
  have a4 : ((w.alloc (.cells cs 33)).alloc (.cells ds 33)).cell? ⟨w.heap.size, 35, none⟩ = some (.slice P1 m d1) := (hX.cell 35).trans i4
  have b3 : ((w.alloc (.cells cs 33)).alloc (.cells ds 33)).cell? ⟨w.heap.size + 1, 34, none⟩ = some (.slice A2 n c2) := (hY.cell 34).trans j3
  have b4 : ((w.alloc (.cells cs 33)).alloc (.cells ds 33)).cell? ⟨w.heap.size + 1, 35, none⟩ = some (.slice P2 m d2) := (hY.cell 35).trans j4
  have hW : Hid (Below w.heap.size w ((w.alloc (.cells cs 33)).alloc (.cells ds 33))) := (Below.heap_below w _).alloc (by simp) _
  have hx : Hid (∀ w', Below ((w.alloc (.cells cs 33)).alloc (.cells ds 33)).heap.size ((w.alloc (.cells cs 33)).alloc (.cells ds 33)) w' → ∀ j, w'.cell? ⟨w.heap.size, j, none⟩ = cs[j]?) := fun w' h j => (show Blk w' w.heap.size 33 cs from (h.block _ hX.lt).trans hX).cell j
  have hy : Hid (∀ w', Below ((w.alloc (.cells cs 33)).alloc (.cells ds 33)).heap.size ((w.alloc (.cells cs 33)).alloc (.cells ds 33)) w' → ∀ j, w'.cell? ⟨w.heap.size + 1, j, none⟩ = ds[j]?) := fun w' h j => (show Blk w' (w.heap.size + 1) 33 ds from (h.block _ hY.lt).trans hY).cell j
  have sD : Hid ((Tryd.prog.info? 23).map (·.size) = some (cells8 b).length) := agg_hi size32 (by rw [cells8_len, hb])
  have hqd : Hid (∀ w', (binOp .neq 23 (.agg (cells8 b).toArray) (.agg (cells8 b).toArray)).run Tryd.prog w' = .ok (.bool false) w') := fun w' => (neq_dig b b hb hb w').trans (by simp)
  have qs1 : (s == s) = true := by
    cases s with
    | mk d => exact beq_self_eq_true d
  have qs2 : (s != s) = false := by rw [bne, qs1]; rfl
  have hi3 := Lib.hid i3
  have hi4 := Lib.hid i4
  have hj3 := Lib.hid j3
  have hj4 := Lib.hid j4
  have hnh : Hid (n < 140737488355328) := hn47
  have hmh : Hid (m < 140737488355328) := hm47
  replace ha1 := Lib.hid ha1
  replace ha2 := Lib.hid ha2
  replace hp1 := Lib.hid hp1
  replace hp2 := Lib.hid hp2
  replace hsh := Lib.hid hsh
  replace hnn := Lib.hid hnn
  replace hpq := Lib.hid hpq
  replace hn := Lib.hid hn
  replace hm := Lib.hid hm
  clear hX hY i0 i1 i2 i3 i4 j0 j1 j2 j3 j4 hcs hds hb hn47 hm47
  go_enter Tryd.func58, Tryd.ntmps58
  go_wp2_with (first
    | ((with_reducible change wpList _ _ _ ({ dst := some 21, op := _, type := _, pos := _, after := _, guard := _ } :: _) _ _); (with_reducible refine Veil.out ?_); refine wpList_partW (o := ⟨some 21, _, _, _, _, _⟩) rfl 23 (.tmp 20) rfl (w.heap.size) (2) rfl (cells8 b) _ a2.out Tryd.underlying23 rfl sD.out ?_)
    | ((with_reducible change wpList _ _ _ ({ dst := some 23, op := _, type := _, pos := _, after := _, guard := _ } :: _) _ _); (with_reducible refine Veil.out ?_); refine wpList_partW (o := ⟨some 23, _, _, _, _, _⟩) rfl 23 (.tmp 22) rfl (w.heap.size + 1) (2) rfl (cells8 b) _ b2.out Tryd.underlying23 rfl sD.out ?_)
    | ((with_reducible change wpList _ _ _ ({ dst := some 24, op := _, type := _, pos := _, after := _, guard := _ } :: _) _ _); (with_reducible refine Veil.out ?_); refine wpList_cmpW (o := ⟨some 24, _, _, _, _, _⟩) rfl .neq 23 23 (.tmp 21) (.tmp 23) rfl ((cells8 b).toArray) ((cells8 b).toArray) rfl rfl qD2 (.bool false) (hqd.out _) ?_))
  clear a0 a1 b0 b1 a2 b2 a3 a4 b3 b4 hqd sD qs1 qs2
  obtain ⟨V, hV⟩ : ∃ V, Hid (((w.alloc (.cells cs 33)).alloc (.cells ds 33)) = V) := ⟨_, Lib.hid rfl⟩
  rw [hV.out] at hW hx hy
  rw [hV.out]
  clear hV
  generalize w.heap.size + 1 = y1 at *
  go_loopw [5] (fun v wr => ∃ k : Nat, v = .int .i64 (k : Int) ∧ Hid (k ≤ n) ∧ Hid (Below V.heap.size V wr)) (fun v _ => n - (intOf v).toNat)
  case atStart => exact ⟨0, rfl, Nat.zero_le _, Below.refl _ _⟩
  case round =>
    obtain ⟨k, rfl, hk, hB⟩ := hrel
    have u0 : wr.cell? ⟨w.heap.size, 34, none⟩ = some (.slice A1 n c1) := (hx.out wr hB.out 34).trans hi3.out
    by_cases hlt : k < n
    · have hz : (k : Int) < (n : Int) := by omega
      have hz0 : (0 : Int) ≤ (k : Int) := by omega
      have hk47 : (k : Int) < 140737488355328 := by have := hnh.out; omega
      obtain ⟨q, hqi⟩ : ∃ q, es[k]? = some q := ⟨_, List.getElem?_eq_getElem (by rw [hn.out]; exact hlt)⟩
      obtain ⟨g1, o1, rfl, hg1, hs1⟩ := ha1.out (by have := hn.out; omega)
      obtain ⟨g2, o2, rfl, hg2, hs2⟩ := ha2.out (by have := hn.out; omega)
      obtain ⟨Q1, r1, k1, k2, k3, -⟩ := hs1 k q hqi
      obtain ⟨Q2, r2, l1, l2, l3, -⟩ := hs2 k q hqi
      have hql := hsh.out q (List.mem_of_getElem? hqi)
      obtain ⟨z, hz⟩ : ∃ z, q.length = z := ⟨_, rfl⟩
      rw [hz] at k1 l1
      have hW2 := hW.out
      have hu1 : Hid (∀ w', Below V.heap.size V w' → w'.cell? ⟨g1, o1 + k, none⟩ = some (.slice Q1 z r1)) := fun w' h => ((hW2.trans (h.mono hW2.size)).cell (p := ⟨g1, o1 + k, none⟩) hg1).trans k1
      have hu2 : Hid (∀ w', Below V.heap.size V w' → w'.cell? ⟨g2, o2 + k, none⟩ = some (.slice Q2 z r2)) := fun w' h => ((hW2.trans (h.mono hW2.size)).cell (p := ⟨g2, o2 + k, none⟩) hg2).trans l1
      have hS : Hid (∀ w', Below V.heap.size V w' → Calls Tryd.prog 18 #[.slice Q1 z r1, .slice Q2 z r2] w' fun e w'' => e = .returned (.bool true) ∧ Below w'.heap.size w' w'') := fun w' h => by
        have hb' := hW2.trans (h.mono hW2.size)
        have := same8_any q q z z hz hz (by omega) Q1 Q2 r1 r2 w' (by rw [← hz]; exact k3.below hb') (by rw [← hz]; exact l3.below hb')
        rw [decide_eq_true (rfl : q = q)] at this
        exact this.mono fun e w'' ⟨he, N, hw⟩ => ⟨he, hw ▸ below_drawn (Below.refl _ _) N⟩
      have hk1 : Hid (k + 1 ≤ n) := hlt
      clear hs1 hs2 k1 k2 k3 l1 l2 l3 hqi hql hz hg1 hg2 hW2
      have hz : (k : Int) < (n : Int) := by have := hk1.out; omega
      go_upto_region 6 with fail
      refine q_region (Class wr) (by kernel_rfl) (by kernel_rfl) (Class.mk_ ((Below.refl _ _).drew)) ?_
      refine q_val (v := .pointer (some ⟨w.heap.size, 34, none⟩)) rfl (fun w' hw' => by go_simp) ?_
      (intro K hK; go_simp; refine hK _ ?_; clear hK K)
      refine q_val (v := .slice (some ⟨g1, o1, none⟩) n c1) rfl (fun w' hw' => by have hc := (hx.out w' (hB.out.trans (hw'.below.mono hB.out.size)) 34).trans hi3.out; go_simp) ?_
      (intro K hK; go_simp; refine hK _ ?_; clear hK K)
      refine q_move rfl (.tmp 5) rfl ?_
      (intro K hK; go_simp; refine hK _ ?_; clear hK K)
      refine q_val (v := .pointer (some ⟨g1, o1 + k, none⟩)) rfl (fun w' hw' => by go_simp) ?_
      (intro K hK; go_simp; refine hK _ ?_; clear hK K)
      refine q_val (v := .slice Q1 z r1) rfl (fun w' hw' => by have hc := hu1.out w' (hB.out.trans (hw'.below.mono hB.out.size)); go_simp) ?_
      (intro K hK; go_simp; refine hK _ ?_; clear hK K)
      refine q_val (v := .pointer (some ⟨y1, 34, none⟩)) rfl (fun w' hw' => by go_simp) ?_
      (intro K hK; go_simp; refine hK _ ?_; clear hK K)
      refine q_val (v := .slice (some ⟨g2, o2, none⟩) n c2) rfl (fun w' hw' => by have hc := (hy.out w' (hB.out.trans (hw'.below.mono hB.out.size)) 34).trans hj3.out; go_simp) ?_
      (intro K hK; go_simp; refine hK _ ?_; clear hK K)
      refine q_move rfl (.tmp 5) rfl ?_
      (intro K hK; go_simp; refine hK _ ?_; clear hK K)
      refine q_val (v := .pointer (some ⟨g2, o2 + k, none⟩)) rfl (fun w' hw' => by go_simp) ?_
      (intro K hK; go_simp; refine hK _ ?_; clear hK K)
      refine q_val (v := .slice Q2 z r2) rfl (fun w' hw' => by have hc := hu2.out w' (hB.out.trans (hw'.below.mono hB.out.size)); go_simp) ?_
      (intro K hK; go_simp; refine hK _ ?_; clear hK K)
      refine q_fn (v := .bool true) (args := #[.slice Q1 z r1, .slice Q2 z r2]) rfl _ _ rfl rfl Tryd.func18 (by kernel_rfl) (by kernel_rfl) (fun w' hw' => (hS.out w' (hB.out.trans (hw'.below.mono hB.out.size))).mono (fun e w'' ⟨he, hw⟩ => ⟨he, hw'.next hw⟩)) ?_
      (intro K hK; go_simp; refine hK _ ?_; clear hK K)
      refine q_val (v := .bool false) rfl (fun w' hw' => by go_simp) ?_
      (intro K hK; go_simp; refine hK _ ?_; clear hK K)
      refine q_nil ?_
      intro w6 hw6
      have h6 : Hid (Below V.heap.size V w6) := hB.out.trans (hw6.below.mono hB.out.size)
      go_wp2_with fail
      go_roundw
      case rel => exact ⟨k + 1, by go_num, hk1.out, h6.out⟩
      case measure => (have := hk1.out; simp [intOf]; omega)
    · obtain rfl : k = n := by have := hk.out; omega
      have hz : ¬ (k : Int) < (k : Int) := by omega
      clear hlt
      go_wp2_with fail
      clear u0 hz
      go_loopw [6] (fun v wr => ∃ k : Nat, v = .int .i64 (k : Int) ∧ Hid (k ≤ m) ∧ Hid (Below V.heap.size V wr)) (fun v _ => m - (intOf v).toNat)
      case atStart => exact ⟨0, rfl, Nat.zero_le _, hB.out⟩
      case round =>
        clear hB
        obtain ⟨i, rfl, hi, hB⟩ := hrel
        have u0 : wr.cell? ⟨w.heap.size, 35, none⟩ = some (.slice P1 m d1) := (hx.out wr hB.out 35).trans hi4.out
        by_cases hlt : i < m
        · have hz : (i : Int) < (m : Int) := by omega
          have hz0 : (0 : Int) ≤ (i : Int) := by omega
          have hk47 : (i : Int) < 140737488355328 := by have := hmh.out; omega
          obtain ⟨x, hxi⟩ : ∃ x, ps[i]? = some x := ⟨_, List.getElem?_eq_getElem (by rw [hm.out]; exact hlt)⟩
          obtain ⟨y, hyi⟩ : ∃ y, qs[i]? = some y := ⟨qs[i]'(by have := hpq.out.len; have := hm.out; omega), List.getElem?_eq_getElem _⟩
          obtain ⟨q1, q2, q3, q4⟩ := hpq.out.at_ hxi hyi
          obtain ⟨g1, o1, rfl, hg1, hs1⟩ := hp1.out.at_ hxi
          obtain ⟨g2, o2, rfl, hg2, hs2⟩ := hp2.out.at_ hyi
          have hr1 := (hp1.out.2 x (List.mem_of_getElem? hxi)).1
          have hr2 := (hp2.out.2 y (List.mem_of_getElem? hyi)).1
          rw [← q3, ← q4] at hr2
          have hxn := hnn.out x (List.mem_of_getElem? hxi)
          have hW2 := hW.out
          have hu1 : Hid (∀ w', Below V.heap.size V w' → ∀ j u, x.cells[j]? = some u → w'.cell? ⟨g1, o1 + i * 3 + j, none⟩ = some u) := fun w' h j u hu => ((hW2.trans (h.mono hW2.size)).cell (p := ⟨g1, o1 + i * 3 + j, none⟩) hg1).trans (by rw [show o1 + i * 3 + j = o1 + (3 * i + j) by omega]; exact hs1 j u hu)
          have hu2 : Hid (∀ w', Below V.heap.size V w' → ∀ j u, y.cells[j]? = some u → w'.cell? ⟨g2, o2 + i * 3 + j, none⟩ = some u) := fun w' h j u hu => ((hW2.trans (h.mono hW2.size)).cell (p := ⟨g2, o2 + i * 3 + j, none⟩) hg2).trans (by rw [show o2 + i * 3 + j = o2 + (3 * i + j) by omega]; exact hs2 j u hu)
          have hS : Hid (∀ w', Below V.heap.size V w' → Calls Tryd.prog 19 #[.agg x.cells.toArray, .agg y.cells.toArray] w' fun e w'' => e = .returned (.bool true) ∧ Below w'.heap.size w' w'') := fun w' h => by
            have hb' := hW2.trans (h.mono hW2.size)
            have := sameIncl_yes x.x x.y x.ds x.n hxn x.A y.A x.c y.c w' (hr1.below hb') (hr2.below hb')
            rw [Pr.agg, Pr.agg, ← q1, ← q2, ← q3]
            exact this
          have hk1 : Hid (i + 1 ≤ m) := hlt
          clear hs1 hs2 hxi hyi q1 q2 q3 q4 hr1 hr2 hxn hg1 hg2 hW2
          go_upto_region 11 with fail
          refine q_region (Class wr) (by kernel_rfl) (by kernel_rfl) (Class.mk_ ((Below.refl _ _).drew)) ?_
          refine q_val (v := .pointer (some ⟨w.heap.size, 35, none⟩)) rfl (fun w' hw' => by go_simp) ?_
          (intro K hK; go_simp; refine hK _ ?_; clear hK K)
          refine q_val (v := .slice (some ⟨g1, o1, none⟩) m d1) rfl (fun w' hw' => by have hc := (hx.out w' (hB.out.trans (hw'.below.mono hB.out.size)) 35).trans hi4.out; go_simp) ?_
          (intro K hK; go_simp; refine hK _ ?_; clear hK K)
          refine q_move rfl (.tmp 6) rfl ?_
          (intro K hK; go_simp; refine hK _ ?_; clear hK K)
          refine q_val (v := .pointer (some ⟨g1, o1 + i * 3, none⟩)) rfl (fun w' hw' => by go_simp) ?_
          (intro K hK; go_simp; refine hK _ ?_; clear hK K)
          refine q_part rfl 31 (.tmp 73) rfl g1 ((o1 + i * 3)) rfl (x.cells) _ (fun w' hw' => hu1.out w' (hB.out.trans (hw'.below.mono hB.out.size))) Tryd.underlying31 rfl size3 ?_
          (intro K hK; go_simp; refine hK _ ?_; clear hK K)
          refine q_val (v := .pointer (some ⟨y1, 35, none⟩)) rfl (fun w' hw' => by go_simp) ?_
          (intro K hK; go_simp; refine hK _ ?_; clear hK K)
          refine q_val (v := .slice (some ⟨g2, o2, none⟩) m d2) rfl (fun w' hw' => by have hc := (hy.out w' (hB.out.trans (hw'.below.mono hB.out.size)) 35).trans hj4.out; go_simp) ?_
          (intro K hK; go_simp; refine hK _ ?_; clear hK K)
          refine q_move rfl (.tmp 6) rfl ?_
          (intro K hK; go_simp; refine hK _ ?_; clear hK K)
          refine q_val (v := .pointer (some ⟨g2, o2 + i * 3, none⟩)) rfl (fun w' hw' => by go_simp) ?_
          (intro K hK; go_simp; refine hK _ ?_; clear hK K)
          refine q_part rfl 31 (.tmp 78) rfl g2 ((o2 + i * 3)) rfl (y.cells) _ (fun w' hw' => hu2.out w' (hB.out.trans (hw'.below.mono hB.out.size))) Tryd.underlying31 rfl size3 ?_
          (intro K hK; go_simp; refine hK _ ?_; clear hK K)
          refine q_fn (v := .bool true) (args := #[.agg x.cells.toArray, .agg y.cells.toArray]) rfl _ _ rfl rfl Tryd.func19 (by kernel_rfl) (by kernel_rfl) (fun w' hw' => (hS.out w' (hB.out.trans (hw'.below.mono hB.out.size))).mono (fun e w'' ⟨he, hw⟩ => ⟨he, hw'.next hw⟩)) ?_
          (intro K hK; go_simp; refine hK _ ?_; clear hK K)
          refine q_val (v := .bool false) rfl (fun w' hw' => by go_simp) ?_
          (intro K hK; go_simp; refine hK _ ?_; clear hK K)
          refine q_nil ?_
          intro w6 hw6
          have h6 : Hid (Below V.heap.size V w6) := hB.out.trans (hw6.below.mono hB.out.size)
          go_wp2_with fail
          go_roundw
          case rel => exact ⟨i + 1, by go_num, hk1.out, h6.out⟩
          case measure => (have := hk1.out; simp [intOf]; omega)
        · obtain rfl : i = m := by have := hi.out; omega
          have hz : ¬ (i : Int) < (i : Int) := by omega
          clear hlt
          go_wp2_with fail
          go_ret
          exact ⟨rfl, hW.out.trans (hB.out.mono hW.out.size)⟩
end Go.Proofs.YthkdlaohaekilaaDoor.SamePiece

namespace Go.Proofs.YthkdlaohaekilaaDoor.EncPiece
open Go Go.RowKit Go.Proofs.YthkdlaohaekilaaDoor Go.Proofs.YthkdlaohaekilaaDoor.Mem Go.Proofs.YthkdlaohaekilaaDoor.Sha Go.Proofs.YthkdlaohaekilaaDoor.Bytes Go.Proofs.YthkdlaohaekilaaDoor.HashMem Go.Proofs.YthkdlaohaekilaaDoor.Octet Go.Proofs.YthkdlaohaekilaaDoor.Octet4 Go.Proofs.YthkdlaohaekilaaDoor.TreeMem Go.Proofs.YthkdlaohaekilaaDoor.ProofBeside Go.Proofs.YthkdlaohaekilaaDoor.ProofEnc Go.Proofs.YthkdlaohaekilaaDoor.ProofIdx Go.Proofs.YthkdlaohaekilaaDoor.ProofIdx2 Go.Proofs.YthkdlaohaekilaaDoor.Ref17 Go.Proofs.YthkdlaohaekilaaDoor.PieceP Go.Proofs.YthkdlaohaekilaaDoor.PieceRow Go.Proofs.YthkdlaohaekilaaDoor.PieceBegins Go.Proofs.YthkdlaohaekilaaDoor.Prs Go.Proofs.YthkdlaohaekilaaDoor.Reach Go.Proofs.YthkdlaohaekilaaDoor.Reach2 Go.Proofs.YthkdlaohaekilaaDoor.PieceB Go.Proofs.YthkdlaohaekilaaDoor.PieceLay Go.Proofs.YthkdlaohaekilaaDoor.Append Go.Proofs.YthkdlaohaekilaaDoor.Octet2 Go.Proofs.YthkdlaohaekilaaDoor.OctetBytes Go.Proofs.YthkdlaohaekilaaDoor.HeadMem Go.Proofs.YthkdlaohaekilaaDoor.Guard Go.Proofs.YthkdlaohaekilaaDoor.Guard2 Go.Proofs.YthkdlaohaekilaaDoor.Want Go.Proofs.YthkdlaohaekilaaDoor.Reader7 Go.Proofs.YthkdlaohaekilaaDoor.NumberNew

section
variable {w0 w : World} {g : Nat} {r : Option Nat} {l : Text}
end

end Go.Proofs.YthkdlaohaekilaaDoor.EncPiece
