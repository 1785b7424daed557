/-
  Texts of the claim, put into one file: AgreeP, AgreeBase, AuditAgree.
-/
import Derived.Test.YtgldkfaiofkhbaaGreatDoorZ47
import Derived.Test.YtgldkfaiofkhbaaGreatDoorZ16
import Derived.Test.YtgldkfaiofkhbaaGreatDoorZ45
import Derived.Test.YtgldkfaiofkhbaaGreatDoorZ29
import Derived.Test.YtgldkfaiofkhbaaGreatDoorZ37
import Derived.Test.YtgldkfaiofkhbaaGreatDoorZ2
import Derived.Test.YtgldkfaiofkhbaaGreatDoorZ18
import Derived.Test.YtgldkfaiofkhbaaGreatDoorZ4
import Derived.Test.YtgldkfaiofkhbaaGreatDoorZ12
import Derived.Test.YtgldkfaiofkhbaaGreatDoorZ36
import Derived.Deep.Cut
import Derived.Deep.CutRange
import Derived.Deep.CutBlock

namespace Go.Proofs.YtgldkfaiofkhbaaGreatDoor.AgreeP
open Go Go.RowKit Go.Proofs.YtgldkfaiofkhbaaGreatDoor Mem Sha Bytes DigestMem HeadMem VerP HeadCmp Chain ProofEnc Ref17 Within Node Climb TreeRoot AudIncl TwoEvAny GrowP Clamp

def Good (es : List Text) (log : Text) (H0 h : HeadD) (ss : List Text) : Prop := (h = H0 ∧ ss = []) ∨ ((verAns es h ss 1).2 = 0 ∧ h.log = log ∧ 0 < h.size)
theorem good_take {s : Int} {es : List Text} {log : Text} {H0 H h : HeadD} {ss rs : List Text} {x y : Int} {ds : List Text} (h0 : H0.size = 0 ∧ H0.log = log) (g : Good es log H0 H ss) (hn : newB s 1 es H h rs x y ds = true) : Good es log H0 h rs := by
 unfold newB at hn
 rw [Bool.and_eq_true, decide_eq_true_eq] at hn
 obtain ⟨h1, h2⟩ := take_yes hn.1
 obtain ⟨h3, h4⟩ := head_yes h2
 have hsz : 0 ≤ H.size ∧ H.log = log := by
  rcases g with ⟨e, -⟩ | ⟨-, e, p⟩
  ·rw [e, h0.1, h0.2]; exact ⟨Int.le_refl _, rfl⟩
  ·exact ⟨Int.le_of_lt p, e⟩
 refine .inr ⟨h1, h3.trans hsz.2, ?_⟩
 rcases h4 with ⟨e, -⟩ | ⟨-, e, -⟩
 ·rw [e] at hn; exact absurd hn.2 (by decide)
 ·omega
theorem good_fork {s : Int} {es : List Text} {log : Text} {H0 h k : HeadD} {ss rs : List Text} {x y : Int} {ds : List Text} (h0 : H0.size = 0 ∧ H0.log = log) (g1 : Good es log H0 h ss) (g2 : Good es log H0 k rs) (hs : h.size = k.size) (hne : headB h k = false) : takeA s 1 es h k rs x y ds = 173 ∧ headB k h = false := by
 have hn2 : headB k h = false := by
  cases e : headB k h with
  | false => rfl
  | true => rw [headB_yes e, headB_refl] at hne; cases hne
 have hv : (verAns es k rs 1).2 = 0 ∧ k.log = h.log := by
  rcases g1 with ⟨e1, -⟩ | ⟨-, e1, p1⟩
  ·rcases g2 with ⟨e2, -⟩ | ⟨v2, e2, p2⟩
   ·rw [e1, e2, headB_refl] at hne; cases hne
   ·rw [e1, h0.1] at hs; omega
  ·rcases g2 with ⟨e2, -⟩ | ⟨v2, e2, p2⟩
   ·rw [e2, h0.1] at hs; omega
   ·exact ⟨v2, e2.trans e1.symm⟩
 refine ⟨?_, hn2⟩
 unfold takeA
 rw [if_neg (fun k => k hv.1)]
 unfold headA
 rw [if_neg (fun k => k hv.2), if_neg (by omega), if_neg (by rw [hn2]; decide), if_pos (.inl hs.symm)]
theorem no_new {s least : Int} {es : List Text} {H h : HeadD} {ss : List Text} {x y : Int} {ds : List Text} (k : takeA s least es H h ss x y ds = 173) : newB s least es H h ss x y ds = false := by
 unfold newB
 rw [k]
 rfl
theorem nd_cl (s : Int) : ndOf (cl s) = ndOf s := by funext a b; unfold ndOf; rw [clamp_cl]
theorem climb1_cl (s : Int) : climb1 (cl s) = climb1 s := by funext st p; unfold climb1; rw [nd_cl]
theorem climbN_cl (s : Int) : climbN (cl s) = climbN s := by funext st l j; unfold climbN; rw [climb1_cl]
theorem incl_cl (s a b : Int) (leaf : Text) (ts ds : List Text) : inclOf (cl s) a b leaf ts ds = inclOf s a b leaf ts ds := by unfold inclOf; rw [climbN_cl]
theorem leaf_cl (s : Int) (q : Text) : leafOf (cl s) q = leafOf s q := by unfold leafOf; rw [clamp_cl]
theorem within_cl (s : Int) (ds : List Text) : withinB (cl s) ds = withinB s ds := by unfold withinB; rw [clamp_cl]
theorem audIncl_cl (s : Int) (r q : Text) (a b : Int) (ds : List Text) : audIncl (cl s) r q a b ds = audIncl s r q a b ds := by unfold audIncl; rw [within_cl, leaf_cl, incl_cl]
end Go.Proofs.YtgldkfaiofkhbaaGreatDoor.AgreeP

namespace Go.Proofs.YtgldkfaiofkhbaaGreatDoor.AgreeBase
end Go.Proofs.YtgldkfaiofkhbaaGreatDoor.AgreeBase

namespace Go.Proofs.YtgldkfaiofkhbaaGreatDoor.AuditAgree
open Go Go.RowKit Go.Proofs.YtgldkfaiofkhbaaGreatDoor Mem Sha Bytes HashMem DigestMem SortP NoteP QuietTail Grown TreeMem Held Want Guard2 Go.Proofs.YtgldkfaiofkhbaaGreatDoor.Append Own Rise SortM SgM HeadMem EncNoteP EncNote RefNote NoteM Fill HeadTake Decode CmpW Chain RingM RingS NewRing VerP Verify Signs HeadID ProofEnc Ref17 HeadCmp GrowP AudM AudNote AudNew AudTake AudIncl AudEvent AgreeP Offers OffersOwn Law20b DigEq Clamp Digest Same8 TwiceP Way20 WayP Sides Climb Incl InclAny Include Node TwoEvP Included TwoEv TwoEvAny Mixed

theorem wpList_store_allX {P : Program} {ops : Array Oper} {rest : List Oper} {o : Oper} {a : Act} {w : World} {Q : Exit → Act → World → Prop} (hgd : o.guard = none) (hdst : o.dst = none) (ty : TypeId) (x y : Operand) (ho : o.op = .store ty x y)
  (g : Nat) (cells : Array Value) (hx : a.eval x = .pointer (some ⟨g, 0, none⟩)) (hy : a.eval y = .agg cells)
  (t : TypeId) (old : Array Value) (hg : Blk w g t old) (hi : (P.info? ty).map (·.size) = some cells.size)
  (hold : old.size = cells.size) (h1 : cells.all (·.oneCell') = true)
  (h : ∀ w', Hid (Blk w' g t cells) → Kept (· = g) w w' → wpList P ops Q rest a w') : wpList P ops Q (o :: rest) a w :=
 wpList_store_all hgd ty x y ho g cells hx hy t old hg hi hold h1 (fun w' h1 h2 => by rw [hdst]; exact h w' h1 h2)
theorem size102 : (Tryz.prog.info? 69).map (·.size) = some 102 := by kernel_rfl
theorem ring_ok3 {ks : List Text} {k : Int} (hk : k = ringAns ks) (h0 : k = 0) : ks.length ≤ 64 ∧ keysB ks = true := by
 rw [h0] at hk
 unfold ringAns at hk
 split at hk
 ·cases hk
 ·split at hk
  ·split at hk
   ·exact ⟨by omega, by assumption⟩
   ·cases hk
  ·cases hk
set_option maxRecDepth 100000 in
theorem fewO_yes (A : Option Addr) (n c : Nat) (hn : n ≤ 30) (w : World) :
  Calls Tryz.prog 15 #[.slice A n c, .int .i64 30] w fun e w' => e = .returned (.slice A n c) ∧ w = w' := by
 have h1 : (n : Int) ≤ 30 := by omega
 go_enter Tryz.func15, Tryz.ntmps15
 go_wp2_with fail
 go_ret
 exact ⟨rfl, rfl⟩
theorem undO : Tryz.prog.underlying 62 = some (.slice (Tryz.prog.elem 62)) := by kernel_rfl
theorem size102s (w : World) : (sizeOf (Tryz.prog.elem 62)).run Tryz.prog w = .ok 102 w := by kernel_rfl
theorem run_headO {A : Option Addr} {n c k : Nat} (hk : k ≤ c) (x : Int) (hx : x = k) (w : World) :
  (Instr.sliceAt 62 (.slice A n c) none (some (.int .i64 x)) none).run Tryz.prog w = .ok (.slice A k c) w := by
 subst hx
 rw [run_sliceAt_slice w _ _ _ _ _ undO, run_slice_h w _ A n c undO .i64 (k : Int) (by omega) (by omega), size102s]
 simp only [Result.andThen, sliced, Int.toNat_natCast, Nat.zero_mul, Nat.sub_zero]
 cases A with
 | none => simp
 | some a => simp [Bytes.add_zero]
set_option maxRecDepth 100000 in
theorem fewO_no (A : Option Addr) (n c : Nat) (hn : 30 < n) (hc : n ≤ c) (w : World) :
  Calls Tryz.prog 15 #[.slice A n c, .int .i64 30] w fun e w' => e = .returned (.slice A 30 c) ∧ w = w' := by
 have h1 : (30 : Int) < (n : Int) := by omega
 have X := run_headO (A := A) (n := n) (c := c) (k := 30) (by omega) 30 rfl
 go_enter Tryz.func15, Tryz.ntmps15
 go_wp2_with fail
 go_ret
 exact ⟨rfl, rfl⟩
theorem fewO_any (A : Option Addr) (n c : Nat) (hc : n ≤ c) (w : World) :
  Calls Tryz.prog 15 #[.slice A n c, .int .i64 30] w fun e w' => e = .returned (.slice A (min n 30) c) ∧ w = w' := by
 by_cases h : n ≤ 30
 ·rw [Nat.min_eq_left h]
  exact fewO_yes A n c h w
 ·rw [Nat.min_eq_right (by omega)]
  exact fewO_no A n c (by omega) hc w
theorem offers_take {w : World} {A : Option Addr} {n k : Nat} {l : List OfferD} (h : OffersAt w A n l) (hk : k ≤ n) : OffersAt w A k (l.take k) := by
 have hl := h.len
 have hm : ∀ p ∈ l, (offC p).length = 102 := fun p hp => offC_len (h.ok p hp).ok
 have hk' : (l.take k).length = k := by rw [List.length_take]; omega
 refine ⟨hk', fun p hp => h.ok p (List.mem_of_mem_take hp), by rw [flatG_len _ (fun p hp => hm p (List.mem_of_mem_take hp)), hk'], fun h0 => ?_⟩
 obtain ⟨b, o, e, hb, hc⟩ := h.rd.2 (by omega)
 refine ⟨b, o, e, hb, fun j u hu => hc j u ?_⟩
 rw [← flatG_take l k hm, List.getElem?_take] at hu
 by_cases hj : j < k * 102
 ·rw [if_pos hj] at hu; exact hu
 ·rw [if_neg hj] at hu; cases hu
theorem copy_store {n : Nat} {ss : List Text} {w w' : World} {A' : Option Addr} {c' : Nat} (hO : OwnS w' w.heap.size (.slice A' n c') n ss) : Sgs w' A' n ss ∧ ∀ b, A' = some b → w.heap.size ≤ b.block := by
 obtain ⟨A9, c9, e9, -, -, -, hS, hbl⟩ := OwnS.reads hO
 injection e9 with e1 _ e3
 subst e1 e3
 exact ⟨hS, hbl⟩
structure TI (w : World) (a : Nat) (sc : Int) (R lo : Nat) (es : List Text) (log : Text) (H0 H : HeadD) (A : Option Addr) (n c : Nat) (ss : List Text) : Prop where
 aud : AudAt w a sc 1 R H A n c ss
 good : AgreeP.Good es log H0 H ss
 off : ∀ b, A = some b → lo ≤ b.block
section
variable {w w' : World} {a : Nat} {sc : Int} {R lo : Nat} {es : List Text} {log : Text} {H0 H : HeadD} {A : Option Addr} {n c : Nat} {ss : List Text}
theorem TI.below (k : TI w a sc R lo es log H0 H A n c ss) (hb : Below w.heap.size w w') : TI w' a sc R lo es log H0 H A n c ss := ⟨k.aud.below hb, k.good, k.off⟩
theorem TI.other {b : Nat} (k : TI w a sc R lo es log H0 H A n c ss) (hk : Kept (· = b) w w') (hne : a ≠ b) (hlo : b < lo) : TI w' a sc R lo es log H0 H A n c ss :=
 ⟨k.aud.kept hk hne (fun b2 o e h => by have := k.off _ e; dsimp only at this h; omega), k.good, k.off⟩
theorem TI.step {h : HeadD} {rs : List Text} {x y : Int} {ds : List Text} (k : TI w a sc R lo es log H0 H A n c ss) (h0 : H0.size = 0 ∧ H0.log = log) (hlo : lo ≤ w.heap.size) (hp : TakePost a sc 1 R es H h rs x y ds w w') : ∃ (H' : HeadD) (A' : Option Addr) (n' c' : Nat) (ss' : List Text), TI w' a sc R lo es log H0 H' A' n' c' ss' := by
 rcases hp with ⟨-, hb⟩ | ⟨hn, -, A', n', c', hA, hoff⟩
 ·exact ⟨H, A, n, c, ss, k.below hb⟩
 ·exact ⟨h, A', n', c', rs, hA, good_take h0 k.good hn, fun b e => Nat.le_trans hlo (hoff b e)⟩
end
theorem post_kept {a : Nat} {s least : Int} {R : Nat} {es : List Text} {H h : HeadD} {rs : List Text} {x y : Int} {ds : List Text} {w w' : World} (k : TakePost a s least R es H h rs x y ds w w') : Kept (· = a) w w' := by
 rcases k with ⟨-, hb⟩ | ⟨-, hk, -⟩
 ·exact Kept.of_below hb
 ·exact hk
theorem fork_below {a : Nat} {s least : Int} {R : Nat} {es : List Text} {H h : HeadD} {rs : List Text} {x y : Int} {ds : List Text} {w w' : World} (k : TakePost a s least R es H h rs x y ds w w') (e : takeA s least es H h rs x y ds = 173) : Below w.heap.size w w' := by
 rcases k with ⟨-, hb⟩ | ⟨hn, -⟩
 ·exact hb
 ·rw [no_new e] at hn; cases hn
theorem TI.ver {w : World} {a b : Nat} {sc sd : Int} {R Rb lo : Nat} {es : List Text} {log : Text} {H0 H K : HeadD} {A B : Option Addr} {n c m d : Nat} {ss rs : List Text} (k : TI w a sc R lo es log H0 H A n c ss) (k2 : TI w b sd Rb lo es log H0 K B m d rs) (h0 : H0.size = 0 ∧ H0.log = log) (hs : H.size = K.size) (hne : headB H K = false) {s : Int} {x y : Int} {ds : List Text} : takeA s 1 es H K rs x y ds = 173 :=
 (good_fork h0 k.good k2.good hs hne).1
theorem headB_symm {a b : HeadD} (h : headB a b = false) : headB b a = false := by
 cases e : headB b a with
 | false => rfl
 | true => rw [headB_yes e, headB_refl] at h; cases h
theorem incl_few {s : Int} {r q : Text} {x y : Int} {ds : List Text} {n : Nat} (hl : ds.length = n) (h : audIncl s r q x y ds = 0) : n ≤ 300 := by
 unfold audIncl at h
 split at h
 ·exact absurd h (by decide)
 ·rename_i hh
  have h1 : inclWant x y ds ≠ none := fun e => hh (.inl e)
  unfold inclWant at h1
  split at h1
  ·rename_i h2
   obtain ⟨h2, h3⟩ := h2
   unfold ProofBeside.insideB at h2
   simp only [Bool.and_eq_true, decide_eq_true_eq] at h2
   have := Go.Proofs.YtgldkfaiofkhbaaGreatDoor.Sides.sides_len (n := x.toNat) (j := y.toNat) (L := 40) (by omega) (by rw [show (2 : Nat) ^ 40 = 1099511627776 by decide]; omega)
   omega
  ·exact absurd rfl h1
theorem want_yes {s sc : Int} {r : Text} {e f : Text} {x1 x2 y1 y2 : Int} {ds es : List Text} (hs : cl s = sc) (h1 : audIncl sc r e x1 x2 ds = 0) (h2 : audIncl sc r f y1 y2 es = 0) (h3 : x1 = y1) (h4 : x2 = y2) (h5 : e ≠ f) : wantEv s r e f x1 x2 y1 y2 ds es = true := by
 subst hs
 rw [audIncl_cl] at h1 h2
 subst h3 h4
 unfold wantEv
 simp [h1, h2, h5]
theorem texts_longA {s : Int} {e : Text} {k : Nat} (hk : e.length = k) (hk47 : k < 140737488355327) {x1 x2 : Int} {ds : List Text} (hd : Digs ds) : ∀ q ∈ evTexts s e x1 x2 ds, q.length < 140737488355328 := fun q hq => by
 have hxt := inclOf_texts s x1 x2 (leafOf s e) ds (by rw [leaf_sum]; exact sumOf_len _ _) hd
 rcases List.mem_cons.1 hq with h | h
 ·rw [h]; simp; omega
 ·rw [hxt.2 q h]; decide
theorem own_nil {n c : Nat} {B : Nat} {A : Option Addr} {ss : List Text} {w : World} (h : OwnS w B (.slice A n c) n ss) : A = none → n = 0 ∧ c = 0 := by
 obtain ⟨A9, c9, e, -, -, h3, -⟩ := OwnS.reads h
 injection e with e1 _ e3
 subst e1 e3
 exact h3
theorem new_two (w : World) : Blk ((w.alloc (.cells Tryz.zeroCells36 36)).alloc (.cells Tryz.zeroCells36 36)) (w.heap.size + 1) 36 Z98 := by
 have := Blk.new (w.alloc (.cells Tryz.zeroCells36 36)) 36 Tryz.zeroCells36
 rwa [show (w.alloc (.cells Tryz.zeroCells36 36)).heap.size = w.heap.size + 1 by simp] at this
theorem tp_yes {w w' : World} {s : Int} {ts : List Text} {e : Ending} (h : (true = false ∧ e = .returned (.tuple #[.agg #[Value.slice none 0 0, Value.slice none 0 0], .bool false])) ∨
  (true = true ∧ ∃ va vb p q, e = .returned (.tuple #[.agg #[va, vb], .bool true]) ∧ p ∈ ts ∧ q ∈ ts ∧ p ≠ q ∧ sumOf s p = sumOf s q ∧ w'.ownsRow w.heap.size 5 1 va p.length (cells8 p) ∧ w'.ownsRow w.heap.size 5 1 vb q.length (cells8 q))) :
  ∃ va vb p q, e = .returned (.tuple #[.agg #[va, vb], .bool true]) ∧ p ∈ ts ∧ p ≠ q ∧ w'.ownsRow w.heap.size 5 1 va p.length (cells8 p) ∧ w'.ownsRow w.heap.size 5 1 vb q.length (cells8 q) := by
 rcases h with ⟨h, -⟩ | ⟨-, va, vb, p, q, h1, h5, -, h2, -, h3, h4⟩
 ·cases h
 ·exact ⟨va, vb, p, q, h1, h5, h2, h3, h4⟩
structure FitE2 (cs : Array Value) : Prop where
 size : (Tryz.prog.info? 77).map (·.size) = some cs.size
 zero : (#[Value.slice none 0 0, Value.slice none 0 0] : Array Value).size = cs.size
 one : cs.all (fun v => v.oneCell') = true
theorem sizeEx : (Tryz.prog.info? 77).map (·.size) = some 2 := by kernel_rfl
theorem fitE2 (A B : Option Addr) (n c m d : Nat) : FitE2 #[.slice A n c, .slice B m d] := ⟨sizeEx, rfl, by rw [List.all_toArray]; rfl⟩
set_option maxRecDepth 100000 in
set_option maxHeartbeats 32000000 in
theorem auditAgree_any (s : Int) (log : Text) (hlog : log.length = 32) (es : List Text) (p : Nat) (hp : es.length = p) (Ap : Option Addr) (cp : Nat) (hpc : p ≤ cp) (l : List OfferD) (na : Nat) (Aa : Option Addr) (ca : Nat) (hnac : na ≤ ca) (hnilA : Aa = none → na = 0 ∧ ca = 0) (ts : List Int) (nt : Nat) (hnt : nt ≤ 140737488355328) (At : Option Addr) (ct : Nat)
    (ev : Text) (k : Nat) (hk : ev.length = k) (hk47 : k < 140737488355327) (A1 : Option Addr) (c1 : Nat) (hkc : k ≤ c1) (hnil1 : A1 = none → k = 0 ∧ c1 = 0) (x1 x2 : Int) (ds : List Text) (A2 : Option Addr) (n2 c2 : Nat) (hn2 : n2 < 140737488355328)
    (ew : Text) (q : Nat) (hq : ew.length = q) (hq47 : q < 140737488355327) (B1 : Option Addr) (d1 : Nat) (hqd : q ≤ d1) (hnil2 : B1 = none → q = 0 ∧ d1 = 0) (y1 y2 : Int) (fs : List Text) (B2 : Option Addr) (m2 d2 : Nat) (hm2 : m2 < 140737488355328)
    (w : World) (hB : Base w) (hP : Pieces w Ap es) (hsh : ∀ q ∈ es, q.length < 140737488355228) (hA : OffersAt w Aa na l) (hT : Ints w At nt ts) (hr1 : Reads w 1 A1 k (cells8 ev)) (hd1 : RdD w A2 n2 ds) (hr2 : Reads w 1 B1 q (cells8 ew)) (hd2 : RdD w B2 m2 fs) :
    Calls Tryz.prog 4 #[.int .i64 s, .agg (cells8 log).toArray, .slice Ap p cp, .slice Aa na ca, .slice At nt ct, .slice A1 k c1, .agg (inclCells x1 x2 A2 n2 c2), .slice B1 q d1, .agg (inclCells y1 y2 B2 m2 d2)] w fun e w' => e = .returned (.bool true) ∧ Below w.heap.size w w' := by
  unfold inclCells
  obtain ⟨w0, hw0⟩ : ∃ w0, Hid (((w.alloc (.cells (cells8 log).toArray 23)).alloc (.cells #[Value.int .i64 x1, Value.int .i64 x2, Value.slice A2 n2 c2] 48)).alloc (.cells #[Value.int .i64 y1, Value.int .i64 y2, Value.slice B2 m2 d2] 48) = w0) := ⟨_, Lib.hid rfl⟩
  have z1 : (w.alloc (.cells (cells8 log).toArray 23)).heap.size = w.heap.size + 1 := by simp
  have z2 : ((w.alloc (.cells (cells8 log).toArray 23)).alloc (.cells #[Value.int .i64 x1, Value.int .i64 x2, Value.slice A2 n2 c2] 48)).heap.size = w.heap.size + 2 := by simp
  have L0 : Hid (Blk w0 w.heap.size 23 (cells8 log).toArray) := by show Blk _ _ _ _; rw [← hw0.out]; exact ((Blk.new w _ _).alloc _).alloc _
  have P0 : Hid (Blk w0 (w.heap.size + 1) 48 #[Value.int .i64 x1, Value.int .i64 x2, Value.slice A2 n2 c2]) := by show Blk _ _ _ _; rw [← hw0.out, ← z1]; exact (Blk.new _ _ _).alloc _
  have Q0 : Hid (Blk w0 (w.heap.size + 2) 48 #[Value.int .i64 y1, Value.int .i64 y2, Value.slice B2 m2 d2]) := by show Blk _ _ _ _; rw [← hw0.out, ← z2]; exact Blk.new _ _ _
  have b0 : Hid (Below w.heap.size w w0) := by show Below _ _ _; rw [← hw0.out]; exact ((Below.heap_below w _).alloc (by rw [z1]; omega) _).alloc (by rw [z2]; omega) _
  have hw0' := hw0.out
  obtain ⟨N, hN⟩ : ∃ N, Hid (min p 64 = N) := ⟨_, Lib.hid rfl⟩
  have hFw : Hid (∀ w', Calls Tryz.prog 7 #[.slice Ap p cp, .int .i64 64] w' fun e w'' => e = .returned (.slice Ap N cp) ∧ w' = w'') := fun w' => by
    have := fewX_any Ap p cp 64 hpc w'
    rw [hN.out] at this
    exact this
  obtain ⟨ks, hks⟩ : ∃ ks, Hid (es.take 64 = ks) := ⟨_, Lib.hid rfl⟩
  have hkl : Hid (ks.length = N) := by show _ = _; rw [← hks.out, List.length_take, hp, ← hN.out]; exact Nat.min_comm _ _
  have hNR : Hid (∀ w', Below w.heap.size w w' → Calls Tryz.prog 14 #[.slice Ap N cp] w' (NewOut ks w')) := fun w' hb => newRing_any ks N hkl.out (by have := hN.out; omega) Ap cp w' (hB.below hb hB.1) (by rw [← hks.out]; exact pieces_takeX (hP.below hb) 64) (fun q hq => hsh q (by rw [← hks.out] at hq; exact List.mem_of_mem_take hq))
  obtain ⟨No, hNo⟩ : ∃ N, Hid (min na 30 = N) := ⟨_, Lib.hid rfl⟩
  have hFo : Hid (∀ w', Calls Tryz.prog 15 #[.slice Aa na ca, .int .i64 30] w' fun e w'' => e = .returned (.slice Aa No ca) ∧ w' = w'') := fun w' => by
    have := fewO_any Aa na ca hnac w'
    rw [hNo.out] at this
    exact this
  obtain ⟨lo', hlo'⟩ : ∃ l', Hid (l.take No = l') := ⟨_, Lib.hid rfl⟩
  have hN30 : Hid (No ≤ 30 ∧ No ≤ na) := by show _ ∧ _; rw [← hNo.out]; exact ⟨Nat.min_le_right _ _, Nat.min_le_left _ _⟩
  have hOs : Hid (∀ w', Below w.heap.size w w' → OffersAt w' Aa No lo') := fun w' hb => by rw [← hlo'.out]; exact offers_take (hA.below hb) hN30.out.2
  have hnilO : Hid (Aa = none → No = 0 ∧ ca = 0) := fun e => by have := hnilA e; have := hN30.out.2; omega
  have hBs : Hid (∀ w', Below w.heap.size w w' → Base w') := fun w' hb => hB.below hb hB.1
  have hTs : Hid (∀ w', Below w.heap.size w w' → Ints w' At nt ts) := fun w' hb => hT.below hb
  have hnt0 := Lib.hid hnt
  have hlg := Lib.hid hlog
  have hfl := Lib.hid (dig_size log hlog)
  have hEv1 : Hid (∀ w' a sc R H A n c ss, Below w.heap.size w w' → AudAt w' a sc 1 R H A n c ss → Calls Tryz.prog 20 #[.pointer (some ⟨a, 0, none⟩), .slice A1 k c1, .agg #[Value.int .i64 x1, Value.int .i64 x2, Value.slice A2 n2 c2]] w' fun e w'' => e = .returned (.int .i64 (evA sc H ev x1 x2 ds)) ∧ Below w'.heap.size w' w'') := fun w' a sc R H A n c ss hb hAu => audEvent_any a sc 1 R H A n c ss ev k hk (by omega) A1 c1 hkc hnil1 x1 x2 ds A2 n2 c2 hn2 w' (hB.below hb hB.1) hAu (hr1.below hb) (hd1.below hb)
  have hEv2 : Hid (∀ w' a sc R H A n c ss, Below w.heap.size w w' → AudAt w' a sc 1 R H A n c ss → Calls Tryz.prog 20 #[.pointer (some ⟨a, 0, none⟩), .slice B1 q d1, .agg #[Value.int .i64 y1, Value.int .i64 y2, Value.slice B2 m2 d2]] w' fun e w'' => e = .returned (.int .i64 (evA sc H ew y1 y2 fs)) ∧ Below w'.heap.size w' w'') := fun w' a sc R H A n c ss hb hAu => audEvent_any a sc 1 R H A n c ss ew q hq (by omega) B1 d1 hqd hnil2 y1 y2 fs B2 m2 d2 hm2 w' (hB.below hb hB.1) hAu (hr2.below hb) (hd2.below hb)
  have hSe : Hid (∀ w', Below w.heap.size w w' → Calls Tryz.prog 21 #[.slice A1 k c1, .slice B1 q d1] w' fun e w'' => e = .returned (.bool (decide (ev = ew))) ∧ Below w'.heap.size w' w'') := fun w' hb => (same8_any ev ew k q hk hq (by omega) A1 B1 c1 d1 w' (hr1.below hb) (hr2.below hb)).mono fun e w'' ⟨he, n, hn⟩ => ⟨he, by subst hn; exact below_drawn (Below.refl _ _) n⟩
  have hTw : Hid (∀ (r : Text) w', r.length = 32 → n2 ≤ 300 → m2 ≤ 300 → Below w.heap.size w w' → Calls Tryz.prog 22 #[.int .i64 s, .agg (cells8 r).toArray, .slice A1 k c1, .agg #[Value.int .i64 x1, Value.int .i64 x2, Value.slice A2 n2 c2], .slice B1 q d1, .agg #[Value.int .i64 y1, Value.int .i64 y2, Value.slice B2 m2 d2]] w' (TPost w' s (wantEv s r ev ew x1 x2 y1 y2 ds fs) (evTexts s ev x1 x2 ds ++ evTexts s ew y1 y2 fs))) := fun r w' hr h1 h2 hb => twoEvents_any s r hr ev k hk hk47 A1 c1 hkc hnil1 x1 x2 ds A2 n2 c2 h1 ew q hq hq47 B1 d1 hqd hnil2 y1 y2 fs B2 m2 d2 h2 w' (hB.below hb hB.1) (hr1.below hb) (hd1.below hb) (hr2.below hb) (hd2.below hb)
  have hTl : Hid (∀ q ∈ evTexts s ev x1 x2 ds ++ evTexts s ew y1 y2 fs, q.length < 140737488355328) := fun z hz => by
    rcases List.mem_append.1 hz with hz | hz
    · exact texts_longA hk hk47 hd1.2.1 z hz
    · exact texts_longA hq hq47 hd2.2.1 z hz
  have hdl1 := Lib.hid hd1.1
  have hdl2 := Lib.hid hd2.1
  clear z1 z2 hw0 hB hP hsh hA hp hpc hlog hN hks hnt hnac hnilA hT hk hk47 hkc hnil1 hn2 hq hq47 hqd hnil2 hm2 hr1 hd1 hr2 hd2 hNo hlo'
  go_enter Tryz.func4, Tryz.ntmps4
  go_upto_region 2 with (first
    | (go_at_call 7; refine (hFw.out _).mono ?_; rintro e w' ⟨rfl, rfl⟩)
    | (go_at_call 14; refine (hNR.out w0 b0.out).mono ?_; rintro e w1 ⟨v1, k1, rfl, hb1, hk1, hkn, hkr⟩; replace hk1 := Lib.hid hk1; replace hkn := Lib.hid hkn; replace hkr := Lib.hid hkr; have bb1 : Hid (Below w.heap.size w w1) := b0.out.trans (hb1.mono b0.out.size); have L1 : Hid (Blk w1 w.heap.size 23 (cells8 log).toArray) := (hb1.block _ L0.out.lt).trans L0.out; have P1 : Hid (Blk w1 (w.heap.size + 1) 48 #[Value.int .i64 x1, Value.int .i64 x2, Value.slice A2 n2 c2]) := (hb1.block _ P0.out.lt).trans P0.out; have Q1 : Hid (Blk w1 (w.heap.size + 2) 48 #[Value.int .i64 y1, Value.int .i64 y2, Value.slice B2 m2 d2]) := (hb1.block _ Q0.out.lt).trans Q0.out; clear hb1 L0 P0 Q0))
  clear hw0' hFw hNR
  by_cases hk0 : ¬ (k1 = 0)
  · go_wp2_with fail
    go_ret
    exact ⟨rfl, bb1.out⟩
  have hk0' := Decidable.not_not.1 hk0
  obtain ⟨h64, hkb⟩ := ring_ok3 hk1.out hk0'
  obtain ⟨kd, rfl, hR, hpm, hst⟩ := hkr.out hk0'
  subst hk0'
  have hll : Hid (kd.length ≤ 64) := by show _ ≤ _; have h1 := hpm.length_eq; rw [List.length_map] at h1; omega
  have hlk : Hid (∀ x ∈ kd, keyB x.q.length = true) := fun x hx => List.all_eq_true.1 hkb x.q (hpm.mem_iff.1 (List.mem_map.2 ⟨x, hx, rfl⟩))
  have hRs : Hid (∀ w', Below w1.heap.size w1 w' → RingAt w' w0.heap.size kd) := fun w' hb => hR.at_.below hb
  have hLs : Hid (∀ w', Below w1.heap.size w1 w' → Blk w' w.heap.size 23 (cells8 log).toArray) := fun w' hb => (hb.block _ L1.out.lt).trans L1.out
  have hPs : Hid (∀ w', Below w1.heap.size w1 w' → Blk w' (w.heap.size + 1) 48 #[Value.int .i64 x1, Value.int .i64 x2, Value.slice A2 n2 c2]) := fun w' hb => (hb.block _ P1.out.lt).trans P1.out
  have hQs : Hid (∀ w', Below w1.heap.size w1 w' → Blk w' (w.heap.size + 2) 48 #[Value.int .i64 y1, Value.int .i64 y2, Value.slice B2 m2 d2]) := fun w' hb => (hb.block _ Q1.out.lt).trans Q1.out
  have hpm0 := Lib.hid hpm
  have hst0 := Lib.hid hst
  clear hk0 hk1 hkn hkr h64 hkb hR hpm hst P1 Q1
  generalize w0.heap.size = R at *
  obtain ⟨sc, hsc⟩ : ∃ sc, Hid (cl s = sc) := ⟨_, Lib.hid rfl⟩
  obtain ⟨H0, hH0⟩ : ∃ H0, Hid (H00 sc log = H0) := ⟨_, Lib.hid rfl⟩
  have hz0 : Hid (H0.size = 0 ∧ H0.log = log) := by show _ ∧ _; rw [← hH0.out]; exact ⟨rfl, rfl⟩
  have hNw : Hid (∀ w', Below w.heap.size w w' → Calls Tryz.prog 9 #[.int .i64 s, .agg (cells8 log).toArray, .pointer (some ⟨R, 0, none⟩), .int .i64 1] w' fun e w'' => ∃ a, e = .returned (.tuple #[.pointer (some ⟨a, 0, none⟩), .int .i64 0]) ∧ Below w'.heap.size w' w'' ∧ w'.heap.size ≤ a ∧ AudAt w'' a sc 1 R H0 none 0 0 []) := fun w' hb => by
    refine (audNew_any s log hlg.out 1 R w' (hBs.out w' hb)).mono fun e w'' ⟨v, kk, he, hb2, hkk, _, hy⟩ => ?_
    have h0 : kk = 0 := by rw [hkk]; rfl
    obtain ⟨a, rfl, hl, hA⟩ := hy h0
    subst h0
    rw [hsc.out, hH0.out] at hA
    exact ⟨a, he, hb2, hl, hA⟩
  clear hH0
  go_upto_region 8 with (first
    | (((with_reducible change wpList _ _ _ (⟨some 43, _, _, _, _, _⟩ :: _) _ _); refine wpList_load_row (o := ⟨some 43, _, _, _, _, _⟩) rfl 23 (.tmp 10) rfl (w.heap.size) rfl 23 ((cells8 log).toArray) (0, 0) _ L1.out Tryz.underlying23 rfl hfl.out ?_))
    | (((with_reducible change wpList _ _ _ (⟨some 50, _, _, _, _, _⟩ :: _) _ _); refine wpList_load_row (o := ⟨some 50, _, _, _, _, _⟩) rfl 23 (.tmp 10) rfl (w.heap.size) rfl 23 ((cells8 log).toArray) (0, 0) _ L2.out Tryz.underlying23 rfl hfl.out ?_))
    | (go_at_call 9; have tok := L1; clear L1; refine (hNw.out w1 bb1.out).mono ?_; rintro e w2 ⟨a, rfl, hb2, hga, hAa⟩; replace hga := Lib.hid hga; replace hAa := Lib.hid hAa; have b12 : Hid (Below w1.heap.size w1 w2) := hb2; have bb2 : Hid (Below w.heap.size w w2) := bb1.out.trans (hb2.mono bb1.out.size); have L2 := Lib.hid (hLs.out w2 b12.out); clear hb2 tok)
    | (go_at_call 9; refine (hNw.out w2 bb2.out).mono ?_; rintro e w3 ⟨b, rfl, hb3, hgb, hAb3⟩; replace hgb := Lib.hid hgb; replace hAb3 := Lib.hid hAb3; have hAa3 := Lib.hid (hAa.out.below hb3); have b13 : Hid (Below w1.heap.size w1 w3) := b12.out.trans (hb3.mono b12.out.size); clear hb3 b12 bb2 L2))
  have hab : Hid (w1.heap.size ≤ a ∧ a < b ∧ b < w3.heap.size) := ⟨hga.out, by have := hgb.out; have := hAa.out.blk.lt; omega, hAb3.out.blk.lt⟩
  have TA0 : Hid (TI w3 a sc R w3.heap.size ks log H0 H0 none 0 0 []) := ⟨hAa3.out, .inl ⟨rfl, rfl⟩, fun b e => by cases e⟩
  have TB0 : Hid (TI w3 b sc R w3.heap.size ks log H0 H0 none 0 0 []) := ⟨hAb3.out, .inl ⟨rfl, rfl⟩, fun b e => by cases e⟩
  clear hga hgb hAa hAa3 hAb3 hNw
  obtain ⟨i0, ii, iz0, iz1, iz2⟩ := info_partsN infoO
  have hc1 : Hid (0 + No ≤ maxLen) := by show _ ≤ _; have := hN30.out.1; unfold maxLen; omega
  have hc2 : Hid ((0 + No) * 176 ≤ 140737488355328) := by show _ ≤ _; have := hN30.out.1; omega
  go_upto_region 10 with (first
    | (go_at_call 15; refine (hFo.out _).mono ?_; rintro e w' ⟨rfl, rfl⟩)
    | ((with_reducible change wpList _ _ _ (⟨some 65, _, _, _, _, _⟩ :: _) _ _); refine wpList_append_src _ (o := ⟨some 65, _, _, _, _, _⟩) rfl (.tmp 63) (.tmp 64) 62 rfl w3.heap.size 69 i0 (.agg Tryz.zeroCells69) 102 176 Tryz.underlying62 ii iz0 iz1 iz2 rfl (by decide) (.slice (some ⟨w3.heap.size, 0, none⟩) 0 0) 0 [] rfl (own_zeroO w3 w3.heap.size (Nat.le_refl _) _ rfl).2.2 Aa No ca (lo'.flatMap offC) rfl ((hOs.out w3 (bb1.out.trans (b13.out.mono bb1.out.size))).below (Below.heap_below w3 _)).rd hnilO.out (one_offers lo') hc1.out hc2.out (by simp) ?_; intro v5 w5 hG; have hb5 : Below w3.heap.size w3 w5 := hG.below (Below.heap_below w3 _) (by simp) (fun kk e => Nat.le_of_eq (Option.some.inj (show some w3.heap.size = some kk from e))); have hO5 := hG.own; rw [Nat.zero_add, List.nil_append] at hO5; obtain ⟨A24, c24, rfl, -⟩ := Append.Own.reads hO5; have hM0 : Hid (OwnO w5 w3.heap.size (.slice A24 No c24) No lo') := ⟨fun p hp => ((hOs.out w3 (bb1.out.trans (b13.out.mono bb1.out.size))).ok p hp).ok, (hOs.out w3 (bb1.out.trans (b13.out.mono bb1.out.size))).len, hO5⟩; have b35 : Hid (Below w3.heap.size w3 w5) := hb5; clear hG hb5 hO5))
  clear hc1 hc2 hFo
  go_upto_block 0 with fail
  go_cut [25, 26] from 66 to 100 (fun _ _ wr => ∃ M : List OfferD, Hid (∀ p ∈ M, p ∈ lo') ∧ Hid (OwnO wr w3.heap.size (.slice A24 No c24) No M) ∧ Hid (Below w3.heap.size w3 wr))
  case first =>
    go_wp2_with fail
    go_loopw [25] (fun v wr => ∃ (i : Nat) (M : List OfferD), v = .int .i64 (i : Int) ∧ Hid (i ≤ No) ∧ Hid (∀ p ∈ M, p ∈ lo') ∧ Hid (OwnO wr w3.heap.size (.slice A24 No c24) No M) ∧ Hid (Below w3.heap.size w3 wr)) (fun v _ => No - (intOf v).toNat)
    case atStart => exact ⟨0, lo', rfl, Nat.zero_le _, fun p hp => hp, hM0.out, b35.out⟩
    case round =>
      clear hM0 b35
      obtain ⟨i, M, rfl, hi, hML, hM, hbe⟩ := hrel
      have hi0 : (0 : Int) ≤ (i : Int) := by omega
      have hi6 : (i : Int) ≤ 30 := by have := hi.out; have := hN30.out.1; omega
      have b1r : Hid (Below w1.heap.size w1 wr) := b13.out.trans (hbe.out.mono b13.out.size)
      have bbr : Hid (Below w.heap.size w wr) := bb1.out.trans (b1r.out.mono bb1.out.size)
      by_cases hlt : i < nt ∧ i < No
      · obtain ⟨hlt, hln⟩ := hlt
        have hz : (i : Int) < (nt : Int) := by omega
        have hz1 : (i : Int) < (No : Int) := by omega
        have hln' := Lib.hid hln
        obtain ⟨N1, hN1⟩ : ∃ N1, No = N1 + 1 := ⟨No - 1, by omega⟩
        have hN1h := Lib.hid hN1
        obtain ⟨x, hx⟩ : ∃ x, Hid (ts[i]? = some x) := ⟨_, List.getElem?_eq_getElem (by rw [(hTs.out wr bbr.out).len]; exact hlt)⟩
        obtain ⟨bt, ot, hAt, hbt, hct⟩ := (hTs.out wr bbr.out).at_ hx.out
        subst hAt
        have hcx : wr.cell? ⟨bt, ot + i, none⟩ = some (.int .i64 x) := hct
        have q1 : ((No : Nat) : Int) - 1 = (N1 : Int) := by omega
        have q2 : IntKind.i64.wrap (N1 : Int) = (N1 : Int) := IntWalk.i64_in _ (by have := hN30.out.1; omega)
        have hj : Hid (∃ j : Nat, x % ((N1 : Int) + 1) = (j : Int) ∧ j < No) := by
          have h1 := Int.emod_nonneg x (show (N1 : Int) + 1 ≠ 0 by omega)
          have h2 := Int.emod_lt_of_pos x (show (0 : Int) < (N1 : Int) + 1 by omega)
          exact ⟨(x % ((N1 : Int) + 1)).toNat, by omega, by omega⟩
        obtain ⟨j, hjx, hjn⟩ := hj.out
        replace hjx := Lib.hid hjx
        replace hjn := Lib.hid hjn
        clear hlt hln hct hN1 hj
        go_upto_region 14 with (go_at_call 16; refine (Chain2.within_any x N1 (by have := hN1h.out; have := hN30.out.1; omega) wr).mono ?_; rintro e w7 ⟨rfl, rfl⟩; rw [hjx.out])
        clear hcx q1 q2
        obtain ⟨g, c, egc, hBg, hgl⟩ := hM.out.first (Nat.lt_of_le_of_lt (Nat.zero_le _) hln'.out)
        injection egc with eg _ ec
        subst eg ec
        have hj1 : (j : Int) < (No : Int) := by have := hjn.out; omega
        have hj0 : (0 : Int) ≤ (j : Int) := by omega
        obtain ⟨oa, ha⟩ : ∃ a, Hid (M[i]? = some a) := ⟨_, List.getElem?_eq_getElem (by rw [hM.out.2.1]; exact hln'.out)⟩
        obtain ⟨ob, hb⟩ : ∃ b, Hid (M[j]? = some b) := ⟨_, List.getElem?_eq_getElem (by rw [hM.out.2.1]; exact hjn.out)⟩
        have oka := Lib.hid (hM.out.1 oa (List.mem_of_getElem? ha.out))
        have okb := Lib.hid (hM.out.1 ob (List.mem_of_getElem? hb.out))
        have hML2 : Hid (∀ p ∈ (M.set i ob).set j oa, p ∈ lo') := fun p hp => OwnO.mem (fun p hp => OwnO.mem hML.out (hML.out _ (List.mem_of_getElem? hb.out)) hp) (hML.out _ (List.mem_of_getElem? ha.out)) hp
        obtain ⟨-, cur, hBc, hfit, hset⟩ := hM.out.set_ hln'.out okb.out
        have hBc1 : Hid (Blk wr.drew g 69 cur) := Blk.drewN hBc 1
        have hlb : Hid ((offC ob).length = 102) := offC_len okb.out
        have hla : Hid ((offC oa).length = 102) := offC_len oka.out
        have hfit' : Hid (i * 102 + (offC ob).length ≤ cur.size) := by show _ ≤ _; rw [hlb.out]; exact hfit
        replace hset := Lib.hid hset
        have hfa : Hid (∀ m u, (offC oa)[m]? = some u → wr.drew.cell? ⟨g, i * 102 + m, none⟩ = some u) := fun m u hu => hM.out.at_ ha.out m u hu
        have hfb : Hid (∀ m u, (offC ob)[m]? = some u → wr.drew.cell? ⟨g, j * 102 + m, none⟩ = some u) := fun m u hu => hM.out.at_ hb.out m u hu
        have sA : Hid ((Tryz.prog.info? 69).map (·.size) = some (offC oa).length) := by show _ = _; rw [hla.out]; exact size102
        have sB : Hid ((Tryz.prog.info? 69).map (·.size) = some (offC ob).length) := by show _ = _; rw [hlb.out]; exact size102
        have hO1 := Lib.hid (offC_one oa)
        have hO2 := Lib.hid (offC_one ob)
        have hBg' : Hid (w3.heap.size ≤ g) := hBg
        have hb6 : Hid (Below w3.heap.size w3 wr.drew) := hbe.out.drew
        obtain ⟨ca', hca'⟩ : ∃ x, Hid (offC oa = x) := ⟨_, Lib.hid rfl⟩
        obtain ⟨cb', hcb'⟩ : ∃ x, Hid (offC ob = x) := ⟨_, Lib.hid rfl⟩
        have hset2 : Hid (∀ w' cs, cs = cb' → Blk w' g 69 (splice cur.toList (i * 102) cs).toArray → OwnO w' w3.heap.size (.slice (some ⟨g, 0, none⟩) No c24) No (M.set i ob)) := fun w' cs e hb => hset.out w' (by rw [hcb'.out, ← e]; exact hb)
        rw [hca'.out] at hfa sA hO1 hla
        rw [hcb'.out] at hfb sB hO2 hlb hfit'
        clear hBc hfit hM hbe hBg hgl hset
        refine held_start (fun _ => True) 16 rfl (by kernel_rfl) ?_
        refine Held.tk0 (i := 0) (v := .slice (some ⟨g, 0, none⟩) No c24) rfl trivial (fun w' hw' => run_mv (.tmp 24) rfl w') ?_
        (intro K k; go_simp; apply k; clear k K)
        refine Held.tk0 (i := 1) (v := .int .i64 (i : Int)) rfl trivial (fun w' hw' => run_mv (.tmp 25) rfl w') ?_
        (intro K k; go_simp; apply k; clear k K)
        refine Held.tk0 (i := 2) (v := .slice (some ⟨g, 0, none⟩) No c24) rfl trivial (fun w' hw' => run_mv (.tmp 24) rfl w') ?_
        (intro K k; go_simp; apply k; clear k K)
        refine Held.tk0 (i := 3) (v := .int .i64 (j : Int)) rfl trivial (fun w' hw' => run_mv (.tmp 26) rfl w') ?_
        (intro K k; go_simp; apply k; clear k K)
        refine Held.tk0 (i := 4) (v := .slice (some ⟨g, 0, none⟩) No c24) rfl trivial (fun w' hw' => run_mv (.tmp 24) rfl w') ?_
        (intro K k; go_simp; apply k; clear k K)
        refine Held.tk0 (i := 5) (v := .int .i64 (j : Int)) rfl trivial (fun w' hw' => run_mv (.tmp 26) rfl w') ?_
        (intro K k; go_simp; apply k; clear k K)
        refine Held.tk0 (i := 6) (v := .pointer (some ⟨g, j * 102, none⟩)) rfl trivial (fun w' hw' => by go_simp) ?_
        (intro K k; go_simp; apply k; clear k K)
        refine Held.tk0 (i := 8) (v := .slice (some ⟨g, 0, none⟩) No c24) rfl trivial (fun w' hw' => run_mv (.tmp 24) rfl w') ?_
        (intro K k; go_simp; apply k; clear k K)
        refine Held.tk0 (i := 9) (v := .int .i64 (i : Int)) rfl trivial (fun w' hw' => run_mv (.tmp 25) rfl w') ?_
        (intro K k; go_simp; apply k; clear k K)
        refine Held.tk0 (i := 10) (v := .pointer (some ⟨g, i * 102, none⟩)) rfl trivial (fun w' hw' => by go_simp) ?_
        (intro K k; go_simp; apply k; clear k K)
        refine held_two (i := 7) (j := 11) rfl rfl (by kernel_rfl) (by rfl) (by rfl) (fun K hK => ?_) (fun K hK => ?_)
        · refine wp_load_partH 69 (.tmp 92) rfl g (j * 102) rfl cb' _ (fun k v hv => hfb.out k v hv) Tryz.underlying69 rfl sB.out ?_
          go_simp
          refine hK _ _ trivial ?_
          clear hK K
          refine held_only (i := 11) rfl (by kernel_rfl) (by rfl) (fun K hK => ?_)
          refine wp_load_partH 69 (.tmp 96) rfl g (i * 102) rfl ca' _ (fun k v hv => hfa.out k v hv) Tryz.underlying69 rfl sA.out ?_
          go_simp
          refine hK _ _ trivial ?_
          clear hK K
          refine Held.tk0 (i := 12) (v := .pointer (some ⟨g, i * 102, none⟩)) rfl trivial (fun w' hw' => by go_simp) ?_
          (intro K k; go_simp; apply k; clear k K)
          refine held_only (i := 13) rfl (by kernel_rfl) (by rfl) (fun K hK => ?_)
          refine wp_store_atO 69 (.tmp 98) (.tmp 93) rfl g (i * 102) cb' rfl rfl 69 cur hBc1.out sB.out hfit'.out hO2.out ?_
          intro w8 hB8 hk8
          have hO8 := hset2.out w8 cb' rfl hB8.out
          have hb8 : Hid (Below w3.heap.size w3 w8) := hb6.out.trans (Kept.below_of hk8 hBg'.out hb6.out.size)
          obtain ⟨-, cur2, hBc2, hfit2, hset3⟩ := hO8.set_ (i := j) (x := oa) hjn.out oka.out
          replace hBc2 := Lib.hid hBc2
          rw [hca'.out] at hset3
          have hfit3 : Hid (j * 102 + ca'.length ≤ cur2.size) := by show _ ≤ _; rw [hla.out]; exact hfit2
          replace hset3 := Lib.hid hset3
          clear hB8 hk8 hO8 hset2 hfit' hfit2 hBc1 hfa hfb
          go_simp
          refine hK _ _ trivial ?_
          clear hK K
          refine Held.tk0 (i := 14) (v := .pointer (some ⟨g, j * 102, none⟩)) rfl trivial (fun w' hw' => by go_simp) ?_
          (intro K k; go_simp; apply k; clear k K)
          refine held_only (i := 15) rfl (by kernel_rfl) (by rfl) (fun K hK => ?_)
          refine wp_store_atO 69 (.tmp 99) (.tmp 97) rfl g (j * 102) ca' rfl rfl 69 cur2 hBc2.out sA.out hfit3.out hO1.out ?_
          intro w9 hB9 hk9
          have hO9 := Lib.hid (hset3.out w9 hB9.out)
          have hb9 : Hid (Below w3.heap.size w3 w9) := hb8.out.trans (Kept.below_of hk9 hBg'.out hb8.out.size)
          clear hB9 hk9 hset3 hfit3 hBc2 hb8
          go_simp
          refine hK _ _ trivial ?_
          clear hK K
          refine held_end (by kernel_rfl) ?_
          go_wp2_with fail
          go_roundw
          case rel => exact ⟨i + 1, _, by go_num, hln'.out, hML2.out, hO9.out, hb9.out⟩
          case measure => (have := hln'.out; simp [intOf]; omega)
        · refine wp_load_partH 69 (.tmp 96) rfl g (i * 102) rfl ca' _ (fun k v hv => hfa.out k v hv) Tryz.underlying69 rfl sA.out ?_
          go_simp
          refine hK _ _ trivial ?_
          clear hK K
          refine held_only (i := 7) rfl (by kernel_rfl) (by rfl) (fun K hK => ?_)
          refine wp_load_partH 69 (.tmp 92) rfl g (j * 102) rfl cb' _ (fun k v hv => hfb.out k v hv) Tryz.underlying69 rfl sB.out ?_
          go_simp
          refine hK _ _ trivial ?_
          clear hK K
          refine Held.tk0 (i := 12) (v := .pointer (some ⟨g, i * 102, none⟩)) rfl trivial (fun w' hw' => by go_simp) ?_
          (intro K k; go_simp; apply k; clear k K)
          refine held_only (i := 13) rfl (by kernel_rfl) (by rfl) (fun K hK => ?_)
          refine wp_store_atO 69 (.tmp 98) (.tmp 93) rfl g (i * 102) cb' rfl rfl 69 cur hBc1.out sB.out hfit'.out hO2.out ?_
          intro w8 hB8 hk8
          have hO8 := hset2.out w8 cb' rfl hB8.out
          have hb8 : Hid (Below w3.heap.size w3 w8) := hb6.out.trans (Kept.below_of hk8 hBg'.out hb6.out.size)
          obtain ⟨-, cur2, hBc2, hfit2, hset3⟩ := hO8.set_ (i := j) (x := oa) hjn.out oka.out
          replace hBc2 := Lib.hid hBc2
          rw [hca'.out] at hset3
          have hfit3 : Hid (j * 102 + ca'.length ≤ cur2.size) := by show _ ≤ _; rw [hla.out]; exact hfit2
          replace hset3 := Lib.hid hset3
          clear hB8 hk8 hO8 hset2 hfit' hfit2 hBc1 hfa hfb
          go_simp
          refine hK _ _ trivial ?_
          clear hK K
          refine Held.tk0 (i := 14) (v := .pointer (some ⟨g, j * 102, none⟩)) rfl trivial (fun w' hw' => by go_simp) ?_
          (intro K k; go_simp; apply k; clear k K)
          refine held_only (i := 15) rfl (by kernel_rfl) (by rfl) (fun K hK => ?_)
          refine wp_store_atO 69 (.tmp 99) (.tmp 97) rfl g (j * 102) ca' rfl rfl 69 cur2 hBc2.out sA.out hfit3.out hO1.out ?_
          intro w9 hB9 hk9
          have hO9 := Lib.hid (hset3.out w9 hB9.out)
          have hb9 : Hid (Below w3.heap.size w3 w9) := hb8.out.trans (Kept.below_of hk9 hBg'.out hb8.out.size)
          clear hB9 hk9 hset3 hfit3 hBc2 hb8
          go_simp
          refine hK _ _ trivial ?_
          clear hK K
          refine held_end (by kernel_rfl) ?_
          go_wp2_with fail
          go_roundw
          case rel => exact ⟨i + 1, _, by go_num, hln'.out, hML2.out, hO9.out, hb9.out⟩
          case measure => (have := hln'.out; simp [intOf]; omega)
      · by_cases hz3 : i < nt
        · have hz : (i : Int) < (nt : Int) := by omega
          have hz1 : ¬ ((i : Int) < (No : Int)) := by omega
          clear hlt hz3
          go_wp2_with fail
          go_meet
          case rel => exact ⟨M, hML.out, hM.out, hbe.out⟩
        · have hz : ¬ ((i : Int) < (nt : Int)) := by omega
          clear hlt hz3
          go_wp2_with fail
          go_meet
          case rel => exact ⟨M, hML.out, hM.out, hbe.out⟩
  case rest =>
  obtain ⟨M, hML, hM, hbL⟩ := hcut
  obtain ⟨wL, rfl⟩ : ∃ wL, wL = wc := ⟨_, rfl⟩
  have TA1 := Lib.hid (TA0.out.below hbL.out)
  have TB1 := Lib.hid (TB0.out.below hbL.out)
  have b1L : Hid (Below w1.heap.size w1 wL) := b13.out.trans (hbL.out.mono b13.out.size)
  have hsL : Hid (w3.heap.size ≤ wL.heap.size) := hbL.out.size
  clear TA0 TB0 hM0 b35 b13 hbL
  go_upto_block 2 with fail
  go_cut [27] from 100 to 130 (fun _ wr => ∃ (Ha : HeadD) (A5 : Option Addr) (n5 c5 : Nat) (sa : List Text) (Hb : HeadD) (A6 : Option Addr) (n6 c6 : Nat) (sb : List Text), Hid (TI wr a sc R w3.heap.size ks log H0 Ha A5 n5 c5 sa) ∧ Hid (TI wr b sc R w3.heap.size ks log H0 Hb A6 n6 c6 sb) ∧ Hid (Below w1.heap.size w1 wr))
  case first =>
    go_wp2_with fail
    go_loopw [27] (fun v wr => ∃ (i : Nat) (Ha : HeadD) (A5 : Option Addr) (n5 c5 : Nat) (sa : List Text) (Hb : HeadD) (A6 : Option Addr) (n6 c6 : Nat) (sb : List Text), v = .int .i64 (i : Int) ∧ Hid (i ≤ No) ∧ Hid (TI wr a sc R w3.heap.size ks log H0 Ha A5 n5 c5 sa) ∧ Hid (TI wr b sc R w3.heap.size ks log H0 Hb A6 n6 c6 sb) ∧ Hid (OwnO wr w3.heap.size (.slice A24 No c24) No M) ∧ Hid (Below w1.heap.size w1 wr) ∧ Hid (w3.heap.size ≤ wr.heap.size)) (fun v _ => No - (intOf v).toNat)
    case atStart => exact ⟨0, H0, none, 0, 0, [], H0, none, 0, 0, [], rfl, Nat.zero_le _, TA1.out, TB1.out, hM.out, b1L.out, hsL.out⟩
    case round =>
      clear TA1 TB1 hM b1L hsL
      obtain ⟨i, Ha, A5, n5, c5, sa, Hb, A6, n6, c6, sb, rfl, hi, hTa, hTb, hM, b1r, hsz⟩ := hrel
      have hi0 : (0 : Int) ≤ (i : Int) := by omega
      have hi6 : (i : Int) ≤ 30 := by have := hi.out; have := hN30.out.1; omega
      have bbr : Hid (Below w.heap.size w wr) := bb1.out.trans (b1r.out.mono bb1.out.size)
      by_cases hlt : i < No
      · have hz : (i : Int) < (No : Int) := by omega
        have hlt' := Lib.hid hlt
        have hwa : Hid (w.heap.size ≤ a ∧ w1.heap.size ≤ a ∧ w.heap.size ≤ b ∧ w1.heap.size ≤ b) := by have := hab.out; have := bb1.out.size; exact ⟨by omega, by omega, by omega, by omega⟩
        obtain ⟨ox, hox⟩ : ∃ x, Hid (lo'[i]? = some x) := ⟨_, List.getElem?_eq_getElem (by rw [(hOs.out wr bbr.out).len]; exact hlt)⟩
        obtain ⟨oy, hoy⟩ : ∃ x, Hid (M[i]? = some x) := ⟨_, List.getElem?_eq_getElem (by rw [hM.out.2.1]; exact hlt)⟩
        obtain ⟨b0', o0', hAa, -, -⟩ := (hOs.out wr bbr.out).at_ hox.out
        subst hAa
        obtain ⟨g, c, egc, hBg, -⟩ := hM.out.first (Nat.lt_of_le_of_lt (Nat.zero_le _) hlt)
        injection egc with eg _ ec
        subst eg ec
        have hfO : Hid (∀ w', Below w.heap.size w w' → ∀ (j : Nat) (u : Value), (offC ox)[j]? = some u → w'.cell? ⟨b0', o0' + i * 102 + j, none⟩ = some u) := fun w' hb => by
          obtain ⟨b2, o2, e, -, h1⟩ := (hOs.out w' hb).at_ hox.out
          injection e with e
          injection e with e1 e2
          subst e1 e2
          exact h1
        have hKx : Hid (∀ w', Below w.heap.size w w' → OfferOk w' ox) := fun w' hb => (hOs.out w' hb).ok ox (List.mem_of_getElem? hox.out)
        have hKy : Hid (∀ w', Below w.heap.size w w' → OfferOk w' oy) := fun w' hb => (hOs.out w' hb).ok oy (hML.out _ (List.mem_of_getElem? hoy.out))
        have hTk : Hid (∀ (u : Nat) (z : OfferD) (H : HeadD) (A : Option Addr) (n c : Nat) (ss : List Text) w', (∀ w', Below w.heap.size w w' → OfferOk w' z) → Below w1.heap.size w1 w' → AudAt w' u sc 1 R H A n c ss → Calls Tryz.prog 17 #[.pointer (some ⟨u, 0, none⟩), .agg (noteCells z.h (.slice z.A z.n z.c)).toArray, .agg #[Value.int .i64 z.x, Value.int .i64 z.y, Value.slice z.A2 z.m z.c2]] w' (TakeOut u sc 1 R ks H z.h z.ss z.x z.y z.ds w')) := fun u z H A n c ss w' hz hb hAu => by
          have hbw := bb1.out.trans (hb.mono bb1.out.size)
          have hK := hz w' hbw
          exact take_any ks kd hpm0.out hst0.out hll.out hlk.out u sc 1 R H A n c ss z.h hK.ok z.ss z.n z.A z.c hK.nil z.x z.y z.ds z.A2 z.m z.c2 hK.few w' (hBs.out w' hbw) (hRs.out w' hb) hAu hK.sgs hK.rd
        have zx : Hid ((Tryz.prog.info? 39).map (·.size) = some (noteCells ox.h (.slice ox.A ox.n ox.c)).length) := by have := note_size (hKx.out wr bbr.out).ok (.slice ox.A ox.n ox.c); rw [List.size_toArray] at this; exact this
        have zy : Hid ((Tryz.prog.info? 39).map (·.size) = some (noteCells oy.h (.slice oy.A oy.n oy.c)).length) := by have := note_size (hKy.out wr bbr.out).ok (.slice oy.A oy.n oy.c); rw [List.size_toArray] at this; exact this
        have okx := Lib.hid (hKx.out wr bbr.out).ok
        have oky := Lib.hid (hKy.out wr bbr.out).ok
        clear hlt hBg
        go_upto_region 18 with fail
        have s0 : Hid (Kept (· = a) wr wr.drew) := (Kept.refl _ wr).drew
        refine held_start (fun w' => Kept (· = a) wr w') 12 rfl (by kernel_rfl) ?_
        refine Held.tk0 (i := 0) (v := .pointer (some ⟨a, 0, none⟩)) rfl s0.out (fun w' hw' => run_mv (.tmp 21) rfl w') ?_
        (intro K k; go_simp; apply k; clear k K)
        refine Held.tk0 (i := 1) (v := .slice (some ⟨b0', o0', none⟩) No ca) rfl s0.out (fun w' hw' => run_mv (.tmp 3) rfl w') ?_
        (intro K k; go_simp; apply k; clear k K)
        refine Held.tk0 (i := 2) (v := .int .i64 (i : Int)) rfl s0.out (fun w' hw' => run_mv (.tmp 27) rfl w') ?_
        (intro K k; go_simp; apply k; clear k K)
        refine Held.tk0 (i := 3) (v := .pointer (some ⟨b0', (o0' + i * 102), none⟩)) rfl s0.out (fun w' hw' => by go_simp) ?_
        (intro K k; go_simp; apply k; clear k K)
        refine Held.tk0 (i := 4) (v := .pointer (some ⟨b0', (o0' + i * 102), none⟩)) rfl s0.out (fun w' hw' => by go_simp) ?_
        (intro K k; go_simp; apply k; clear k K)
        refine Held.tk0 (i := 5) (v := .agg (noteCells ox.h (.slice ox.A ox.n ox.c)).toArray) rfl s0.out (fun w' hw' => exec_part 39 (.tmp 110) rfl (b0') ((o0' + i * 102)) rfl (noteCells ox.h (.slice ox.A ox.n ox.c)) _ ((fun m u hu => hfO.out w' (bbr.out.trans (Kept.below_of hw' hwa.out.1 bbr.out.size)) m u (offC_note m u hu))) Tryz.underlying39 rfl zx.out) ?_
        (intro K k; go_simp; apply k; clear k K)
        refine Held.tk0 (i := 6) (v := .slice (some ⟨b0', o0', none⟩) No ca) rfl s0.out (fun w' hw' => run_mv (.tmp 3) rfl w') ?_
        (intro K k; go_simp; apply k; clear k K)
        refine Held.tk0 (i := 7) (v := .int .i64 (i : Int)) rfl s0.out (fun w' hw' => run_mv (.tmp 27) rfl w') ?_
        (intro K k; go_simp; apply k; clear k K)
        refine Held.tk0 (i := 8) (v := .pointer (some ⟨b0', (o0' + i * 102), none⟩)) rfl s0.out (fun w' hw' => by go_simp) ?_
        (intro K k; go_simp; apply k; clear k K)
        refine Held.tk0 (i := 9) (v := .pointer (some ⟨b0', (o0' + i * 102) + 99, none⟩)) rfl s0.out (fun w' hw' => by go_simp) ?_
        (intro K k; go_simp; apply k; clear k K)
        refine Held.tk0 (i := 10) (v := .agg ([Value.int .i64 ox.x, Value.int .i64 ox.y, Value.slice ox.A2 ox.m ox.c2]).toArray) rfl s0.out (fun w' hw' => exec_part 46 (.tmp 115) rfl (b0') ((o0' + i * 102) + 99) rfl ([Value.int .i64 ox.x, Value.int .i64 ox.y, Value.slice ox.A2 ox.m ox.c2]) _ ((fun m u hu => by rw [show (o0' + i * 102) + 99 + m = (o0' + i * 102) + (99 + m) by omega]; exact hfO.out w' (bbr.out.trans (Kept.below_of hw' hwa.out.1 bbr.out.size)) (99 + m) u (offC_cons okx.out m u hu))) Tryz.underlying46 rfl sizeCt) ?_
        (intro K k; go_simp; apply k; clear k K)
        refine held_only (i := 11) rfl (by kernel_rfl) (by rfl) (fun K hK => ?_)
        refine wp_fn (R := fun v w'' => TakePost a sc 1 R ks Ha ox.h ox.ss ox.x ox.y ox.ds wr.drew w'') (args := #[.pointer (some ⟨a, 0, none⟩), .agg (noteCells ox.h (.slice ox.A ox.n ox.c)).toArray, .agg #[Value.int .i64 ox.x, Value.int .i64 ox.y, Value.slice ox.A2 ox.m ox.c2]]) _ _ rfl rfl Tryz.func17 (by kernel_rfl) (by kernel_rfl) ((hTk.out a ox Ha A5 n5 c5 sa wr.drew hKx.out (b1r.out.drew) (hTa.out.aud.below (Below.refl _ wr).drew)).mono fun e w'' hT => ⟨_, hT.1, hT.2⟩) ?_
        rintro qq w5 hPo
        have kw5 : Hid (Kept (· = a) wr w5) := s0.out.trans (post_kept hPo) (fun i _ e => e)
        obtain ⟨Ha2, A52, n52, c52, sa2, Ta2⟩ := TI.step (hTa.out.below (Below.refl _ wr).drew) hz0.out (show w3.heap.size ≤ wr.drew.heap.size from hsz.out) hPo
        replace Ta2 := Lib.hid Ta2
        have Tb2 := Lib.hid (hTb.out.other kw5.out (by have := hab.out; omega) (by have := hab.out; omega))
        have hM2 := Lib.hid (hM.out.kept kw5.out (fun k e => by have := hab.out; omega))
        have b15 : Hid (Below w1.heap.size w1 w5) := b1r.out.trans (Kept.below_of kw5.out hwa.out.2.1 b1r.out.size)
        have bb5 : Hid (Below w.heap.size w w5) := bb1.out.trans (b15.out.mono bb1.out.size)
        have hsz2 : Hid (w3.heap.size ≤ w5.heap.size) := Nat.le_trans hsz.out kw5.out.size
        clear s0 hPo hTa hTb hM b1r bbr hsz
        go_simp
        refine hK _ _ kw5.out ?_
        clear hK K
        refine held_end (by kernel_rfl) ?_
        go_wp2_with fail
        go_upto_region 19 with fail
        have s0 : Hid (Kept (· = b) w5 w5.drew) := (Kept.refl _ w5).drew
        refine held_start (fun w' => Kept (· = b) w5 w') 12 rfl (by kernel_rfl) ?_
        refine Held.tk0 (i := 0) (v := .pointer (some ⟨b, 0, none⟩)) rfl s0.out (fun w' hw' => run_mv (.tmp 22) rfl w') ?_
        (intro K k; go_simp; apply k; clear k K)
        refine Held.tk0 (i := 1) (v := .slice (some ⟨g, 0, none⟩) No c24) rfl s0.out (fun w' hw' => run_mv (.tmp 24) rfl w') ?_
        (intro K k; go_simp; apply k; clear k K)
        refine Held.tk0 (i := 2) (v := .int .i64 (i : Int)) rfl s0.out (fun w' hw' => run_mv (.tmp 27) rfl w') ?_
        (intro K k; go_simp; apply k; clear k K)
        refine Held.tk0 (i := 3) (v := .pointer (some ⟨g, (i * 102), none⟩)) rfl s0.out (fun w' hw' => by go_simp) ?_
        (intro K k; go_simp; apply k; clear k K)
        refine Held.tk0 (i := 4) (v := .pointer (some ⟨g, (i * 102), none⟩)) rfl s0.out (fun w' hw' => by go_simp) ?_
        (intro K k; go_simp; apply k; clear k K)
        refine Held.tk0 (i := 5) (v := .agg (noteCells oy.h (.slice oy.A oy.n oy.c)).toArray) rfl s0.out (fun w' hw' => exec_part 39 (.tmp 122) rfl (g) ((i * 102)) rfl (noteCells oy.h (.slice oy.A oy.n oy.c)) _ ((fun m u hu => (hM2.out.kept hw' (fun k e => by have := hab.out; omega)).at_ hoy.out m u (offC_note m u hu))) Tryz.underlying39 rfl zy.out) ?_
        (intro K k; go_simp; apply k; clear k K)
        refine Held.tk0 (i := 6) (v := .slice (some ⟨g, 0, none⟩) No c24) rfl s0.out (fun w' hw' => run_mv (.tmp 24) rfl w') ?_
        (intro K k; go_simp; apply k; clear k K)
        refine Held.tk0 (i := 7) (v := .int .i64 (i : Int)) rfl s0.out (fun w' hw' => run_mv (.tmp 27) rfl w') ?_
        (intro K k; go_simp; apply k; clear k K)
        refine Held.tk0 (i := 8) (v := .pointer (some ⟨g, (i * 102), none⟩)) rfl s0.out (fun w' hw' => by go_simp) ?_
        (intro K k; go_simp; apply k; clear k K)
        refine Held.tk0 (i := 9) (v := .pointer (some ⟨g, (i * 102) + 99, none⟩)) rfl s0.out (fun w' hw' => by go_simp) ?_
        (intro K k; go_simp; apply k; clear k K)
        refine Held.tk0 (i := 10) (v := .agg ([Value.int .i64 oy.x, Value.int .i64 oy.y, Value.slice oy.A2 oy.m oy.c2]).toArray) rfl s0.out (fun w' hw' => exec_part 46 (.tmp 127) rfl (g) ((i * 102) + 99) rfl ([Value.int .i64 oy.x, Value.int .i64 oy.y, Value.slice oy.A2 oy.m oy.c2]) _ ((fun m u hu => by rw [show (i * 102) + 99 + m = (i * 102) + (99 + m) by omega]; exact (hM2.out.kept hw' (fun k e => by have := hab.out; omega)).at_ hoy.out (99 + m) u (offC_cons oky.out m u hu))) Tryz.underlying46 rfl sizeCt) ?_
        (intro K k; go_simp; apply k; clear k K)
        refine held_only (i := 11) rfl (by kernel_rfl) (by rfl) (fun K hK => ?_)
        refine wp_fn (R := fun v w'' => TakePost b sc 1 R ks Hb oy.h oy.ss oy.x oy.y oy.ds w5.drew w'') (args := #[.pointer (some ⟨b, 0, none⟩), .agg (noteCells oy.h (.slice oy.A oy.n oy.c)).toArray, .agg #[Value.int .i64 oy.x, Value.int .i64 oy.y, Value.slice oy.A2 oy.m oy.c2]]) _ _ rfl rfl Tryz.func17 (by kernel_rfl) (by kernel_rfl) ((hTk.out b oy Hb A6 n6 c6 sb w5.drew hKy.out (b15.out.drew) (Tb2.out.aud.below (Below.refl _ w5).drew)).mono fun e w'' hT => ⟨_, hT.1, hT.2⟩) ?_
        rintro qq w6 hPo
        have kw6 : Hid (Kept (· = b) w5 w6) := s0.out.trans (post_kept hPo) (fun i _ e => e)
        obtain ⟨Hb2, A62, n62, c62, sb2, Tb3⟩ := TI.step (Tb2.out.below (Below.refl _ w5).drew) hz0.out (show w3.heap.size ≤ w5.drew.heap.size from hsz2.out) hPo
        replace Tb3 := Lib.hid Tb3
        have Ta3 := Lib.hid (Ta2.out.other kw6.out (by have := hab.out; omega) (by have := hab.out; omega))
        have hM3 := Lib.hid (hM2.out.kept kw6.out (fun k e => by have := hab.out; omega))
        have b17 : Hid (Below w1.heap.size w1 w6) := b15.out.trans (Kept.below_of kw6.out hwa.out.2.2.2 b15.out.size)
        have hsz3 : Hid (w3.heap.size ≤ w6.heap.size) := Nat.le_trans hsz2.out kw6.out.size
        clear hPo Ta2 Tb2 hM2 b15 bb5 hsz2 s0
        go_simp
        refine hK _ _ kw6.out ?_
        clear hK K
        refine held_end (by kernel_rfl) ?_
        go_wp2_with fail
        go_roundw
        case rel => exact ⟨i + 1, Ha2, A52, n52, c52, sa2, Hb2, A62, n62, c62, sb2, by go_num, hlt'.out, Ta3.out, Tb3.out, hM3.out, b17.out, hsz3.out⟩
        case measure => (have := hlt'.out; simp [intOf]; omega)
      · have hz : ¬ ((i : Int) < (No : Int)) := by omega
        clear hlt
        go_wp2_with fail
        go_meet
        case rel => exact ⟨Ha, A5, n5, c5, sa, Hb, A6, n6, c6, sb, hTa.out, hTb.out, b1r.out⟩
  case rest =>
  obtain ⟨Ha, A5, n5, c5, sa, Hb, A6, n6, c6, sb, hTa, hTb, b1r⟩ := hcut
  obtain ⟨w7, rfl⟩ : ∃ w7, w7 = wc := ⟨_, rfl⟩
  clear TA1 TB1 hM b1L hsL hML
  have okA := Lib.hid hTa.out.aud.ok
  have okB := Lib.hid hTb.out.aud.ok
  have FA := Lib.hid (AudTake.fitH okA.out)
  have FB := Lib.hid (AudTake.fitH okB.out)
  have bb7 : Hid (Below w.heap.size w w7) := bb1.out.trans (b1r.out.mono bb1.out.size)
  go_upto_region 21 with (first
    | (go_at_call 18; have tok := hTa; clear hTa; refine (audHead_any a sc 1 R Ha A5 n5 c5 sa w7 tok.out.aud).mono ?_; rintro e wp ⟨rfl, hb⟩; have hTap := Lib.hid (tok.out.below hb); have hTbp := Lib.hid (hTb.out.below hb); have b1p : Hid (Below w1.heap.size w1 wp) := b1r.out.trans (hb.mono b1r.out.size); clear hb tok hTb)
    | (go_at_call 18; refine (audHead_any b sc 1 R Hb A6 n6 c6 sb wp hTbp.out.aud).mono ?_; rintro e wq ⟨rfl, hb⟩; have hTaq := Lib.hid (hTap.out.below hb); have hTbq := Lib.hid (hTbp.out.below hb); have b1q : Hid (Below w1.heap.size w1 wq) := b1p.out.trans (hb.mono b1p.out.size); clear hb hTap hTbp b1p)
    | ((with_reducible change wpList _ _ _ ({ dst := none, op := Op.store 36 (.tmp 28) (.tmp 131), type := _, pos := _, after := _, guard := _ } :: _) _ _); refine wpList_store_allX (o := ⟨none, _, _, _, _, _⟩) rfl rfl 36 (.tmp 28) (.tmp 131) rfl wq.heap.size (headCells Ha).toArray rfl rfl 36 Z98 ((Blk.new wq _ _).alloc _) FA.out.size FA.out.zero FA.out.one ?_; intro wu Bu ku; have q28 : Hid (Blk wu (wq.heap.size + 1) 36 Z98) := (Blk.kept (new_two wq) ku (by omega)); have hbu : Hid (Below wq.heap.size wq wu) := (((Below.heap_below wq _).alloc (by simp) _).trans (Kept.below_of ku (Nat.le_refl _) (by simp; omega))); clear ku)
    | ((with_reducible change wpList _ _ _ ({ dst := none, op := Op.store 36 (.tmp 29) (.tmp 133), type := _, pos := _, after := _, guard := _ } :: _) _ _); refine wpList_store_allX (o := ⟨none, _, _, _, _, _⟩) rfl rfl 36 (.tmp 29) (.tmp 133) rfl (wq.heap.size + 1) (headCells Hb).toArray rfl rfl 36 Z98 q28.out FB.out.size FB.out.zero FB.out.one ?_; intro w8 B29 k8; have B28 : Hid (Blk w8 wq.heap.size 36 (headCells Ha).toArray) := Bu.out.kept k8 (by omega); have hb8 : Below wq.heap.size wq w8 := hbu.out.trans (Kept.below_of k8 (Nat.le_succ _) hbu.out.size); have hTa8 := Lib.hid (hTaq.out.below hb8); have hTb8 := Lib.hid (hTbq.out.below hb8); have b18 : Hid (Below w1.heap.size w1 w8) := b1q.out.trans (hb8.mono b1q.out.size); clear k8 hb8 hbu Bu q28 hTaq hTbq b1q; obtain ⟨g29, hg29⟩ : ∃ g, Hid (wq.heap.size + 1 = g) := ⟨_, Lib.hid rfl⟩; rw [hg29.out] at B29 ⊢; generalize wq.heap.size = g28 at *))
  obtain ⟨sA, hsA⟩ : ∃ x, Hid (Ha.size = x) := ⟨_, Lib.hid rfl⟩
  obtain ⟨sB, hsB⟩ : ∃ x, Hid (Hb.size = x) := ⟨_, Lib.hid rfl⟩
  obtain ⟨rA, hrA⟩ : ∃ x, Hid (Ha.root = x) := ⟨_, Lib.hid rfl⟩
  obtain ⟨rB, hrB⟩ : ∃ x, Hid (Hb.root = x) := ⟨_, Lib.hid rfl⟩
  have c28 : w8.cell? ⟨g28, 32, none⟩ = some (.int .i64 sA) := by rw [B28.out.cell 32, List.getElem?_toArray, headCells_size okA.out, hsA.out]
  have c29 : w8.cell? ⟨g29, 32, none⟩ = some (.int .i64 sB) := by rw [B29.out.cell 32, List.getElem?_toArray, headCells_size okB.out, hsB.out]
  have p28 : Hid (∀ w', Below w8.heap.size w8 w' → ∀ j u, (cells8 rA)[j]? = some u → w'.cell? ⟨g28, 33 + j, none⟩ = some u) := fun w' hb j u hu => by rw [(hb.cell (p := ⟨g28, 33 + j, none⟩) B28.out.lt), B28.out.cell (33 + j), List.getElem?_toArray]; exact headCells_root okA.out j u (by rw [hrA.out]; exact hu)
  have p29 : Hid (∀ j u, (cells8 rB)[j]? = some u → w8.cell? ⟨g29, 33 + j, none⟩ = some u) := fun j u hu => by rw [B29.out.cell (33 + j), List.getElem?_toArray]; exact headCells_root okB.out j u (by rw [hrB.out]; exact hu)
  have lrA : Hid (rA.length = 32) := by show _ = _; rw [← hrA.out]; exact okA.out.root
  have lrB : Hid (rB.length = 32) := by show _ = _; rw [← hrB.out]; exact okB.out.root
  have srA : Hid ((Tryz.prog.info? 23).map (·.size) = some (cells8 rA).length) := by show _ = _; rw [cells8_len, lrA.out]; exact size32t
  have srB : Hid ((Tryz.prog.info? 23).map (·.size) = some (cells8 rB).length) := by show _ = _; rw [cells8_len, lrB.out]; exact size32t
  have hqh : Hid (∀ w', (binOp .neq 36 (.agg (headCells Ha).toArray) (.agg (headCells Hb).toArray)).run Tryz.prog w' = .ok (.bool (!headB Ha Hb)) w') := fun w' => neq_head2 Ha Hb okA.out okB.out w'
  have hqr : Hid ((binOp .neq 23 (.agg (cells8 rA).toArray) (.agg (cells8 rB).toArray)).run Tryz.prog w8 = .ok (.bool (!decide (rA = rB))) w8) := neq_dig _ _ lrA.out lrB.out w8
  have bb8 : Hid (Below w.heap.size w w8) := bb1.out.trans (b18.out.mono bb1.out.size)
  by_cases hfk : sA = sB ∧ headB Ha Hb = false
  · obtain ⟨hss, hh⟩ := hfk
    subst hss
    rw [hh] at hqh
    have hk1 : Hid (∀ (x y : Int) (ds : List Text), takeA sc 1 ks Ha Hb sb x y ds = 173) := fun x y ds => hTa8.out.ver hTb8.out hz0.out (hsA.out.trans hsB.out.symm) hh
    have hk2 : Hid (∀ (x y : Int) (ds : List Text), takeA sc 1 ks Hb Ha sa x y ds = 173) := fun x y ds => hTb8.out.ver hTa8.out hz0.out (hsB.out.trans hsA.out.symm) (headB_symm hh)
    have ha1 : Hid (∀ w', (binOp .eql 36 (.agg (headCells Ha).toArray) (.agg (headCells Ha).toArray)).run Tryz.prog w' = .ok (.bool true) w') := fun w' => by rw [eql_head2 Ha Ha okA.out okA.out, headB_refl]
    have ha2 : Hid (∀ w', (binOp .eql 36 (.agg (headCells Hb).toArray) (.agg (headCells Hb).toArray)).run Tryz.prog w' = .ok (.bool true) w') := fun w' => by rw [eql_head2 Hb Hb okB.out okB.out, headB_refl]
    have hTk : Hid (∀ (u : Nat) (H K : HeadD) (A B : Option Addr) (n c m d : Nat) (ss rs : List Text) w', K.Ok → m ≤ 16 → (B = none → m = 0 ∧ d = 0) → Sgs w' B m rs → Below w1.heap.size w1 w' → AudAt w' u sc 1 R H A n c ss → Calls Tryz.prog 17 #[.pointer (some ⟨u, 0, none⟩), .agg (noteCells K (.slice B m d)).toArray, .agg #[Value.int .i64 sA, Value.int .i64 sA, Value.slice none 0 0]] w' (TakeOut u sc 1 R ks H K rs sA sA [] w')) := fun u H K A B n c m d ss rs w' okK hm hnil hS hb hAu => by
      have hbw := bb1.out.trans (hb.mono bb1.out.size)
      exact take_any ks kd hpm0.out hst0.out hll.out hlk.out u sc 1 R H A n c ss K okK rs m B d hnil sA sA [] none 0 0 (by decide) w' (hBs.out w' hbw) (hRs.out w' hb) hAu hS ⟨rfl, (fun d hd => by cases hd), Reads.nil_ _ _ _⟩
    clear hh hqr p28 p29 srA srB
    go_upto_region 23 with (first
    | (((with_reducible change wpList _ _ _ (⟨some 140, _, _, _, _, _⟩ :: _) _ _); (with_reducible refine Veil.out ?_); refine wpList_rowW (o := ⟨some 140, _, _, _, _, _⟩) rfl 36 (.tmp 28) rfl (g28) rfl 36 ((headCells Ha).toArray) (0, 0) _ B28.out Tryz.underlying36 rfl FA.out.size ?_))
    | (((with_reducible change wpList _ _ _ (⟨some 141, _, _, _, _, _⟩ :: _) _ _); (with_reducible refine Veil.out ?_); refine wpList_rowW (o := ⟨some 141, _, _, _, _, _⟩) rfl 36 (.tmp 29) rfl (g29) rfl 36 ((headCells Hb).toArray) (0, 0) _ B29.out Tryz.underlying36 rfl FB.out.size ?_))
    | ((with_reducible change wpList _ _ _ (⟨some 142, _, _, _, _, _⟩ :: _) _ _); (with_reducible refine Veil.out ?_); refine wpList_cmpW (o := ⟨some 142, _, _, _, _, _⟩) rfl .neq 36 36 (.tmp 140) (.tmp 141) rfl ((headCells Ha).toArray) ((headCells Hb).toArray) rfl rfl qHDt (_) (hqh.out _) ?_))
    obtain ⟨w9, hw9⟩ : ∃ w9, w8.alloc (.cells #[Value.int .i64 sA, Value.int .i64 sA, Value.slice none 0 0] 46) = w9 := ⟨_, rfl⟩
    have B30 : Hid (Blk w9 w8.heap.size 46 #[Value.int .i64 sA, Value.int .i64 sA, Value.slice none 0 0]) := by show Blk _ _ _ _; rw [← hw9]; exact Blk.new w8 _ _
    have hb9 : Below w8.heap.size w8 w9 := by rw [← hw9]; exact Below.heap_below w8 _
    rw [hw9]
    have hTa9 := Lib.hid (hTa8.out.below hb9)
    have hTb9 := Lib.hid (hTb8.out.below hb9)
    have b19 : Hid (Below w1.heap.size w1 w9) := b18.out.trans (hb9.mono b18.out.size)
    have B28' : Hid (Blk w9 g28 36 (headCells Ha).toArray) := (hb9.block _ B28.out.lt).trans B28.out
    have B29' : Hid (Blk w9 g29 36 (headCells Hb).toArray) := (hb9.block _ B29.out.lt).trans B29.out
    clear hw9 hb9 c28 c29
    generalize w8.heap.size = g30 at *
    have s0 : Hid (Below w9.heap.size w9 w9.drew) := (Below.refl _ _).drew
    refine held_start (fun w' => Below w9.heap.size w9 w') 27 rfl (by kernel_rfl) ?_
    refine Held.tk0 (i := 0) (v := .pointer (some ⟨a, 0, none⟩)) rfl s0.out (fun w' hw' => run_mv (.tmp 21) rfl w') ?_
    (intro K k; go_simp; apply k; clear k K)
    refine Held.tk0 (i := 1) (v := .pointer (some ⟨b, 0, none⟩)) rfl s0.out (fun w' hw' => run_mv (.tmp 22) rfl w') ?_
    (intro K k; go_simp; apply k; clear k K)
    refine Held.tk0 (i := 3) (v := .agg (#[.int .i64 sA, .int .i64 sA, .slice none 0 0])) rfl s0.out (fun w' hw' => exec_row 46 (.tmp 30) rfl (g30) rfl 46 (#[.int .i64 sA, .int .i64 sA, .slice none 0 0]) (0, 0) _ ((show Blk w' g30 46 #[.int .i64 sA, .int .i64 sA, .slice none 0 0] from (hw'.block _ B30.out.lt).trans B30.out)) Tryz.underlying46 rfl sizeCt) ?_
    (intro K k; go_simp; apply k; clear k K)
    refine held_only (i := 2) rfl (by kernel_rfl) (by rfl) (fun K hK => ?_)
    refine wp_fn (R := fun v w'' => ∃ A2 c2, v = .agg (noteCells Hb (.slice A2 n6 c2)).toArray ∧ (A2 = none → n6 = 0 ∧ c2 = 0) ∧ Sgs w'' A2 n6 sb ∧ Below w9.heap.size w9 w'') (args := #[.pointer (some ⟨b, 0, none⟩)]) _ _ rfl rfl Tryz.func19 (by kernel_rfl) (by kernel_rfl) ((audNote_any b sc 1 R Hb A6 n6 c6 sb _ (hTb9.out.aud.below s0.out)).mono fun e w'' ⟨A2, c2, he, hO, hb2⟩ => ⟨_, he, A2, c2, rfl, own_nil hO, (copy_store hO).1, s0.out.trans (hb2.mono (s0.out).size)⟩) ?_
    rintro qq wq1 ⟨Aq1, cq1, rfl, hnq1, hSq1, hq1⟩
    replace hq1 := Lib.hid hq1
    replace hSq1 := Lib.hid hSq1
    replace hnq1 := Lib.hid hnq1
    go_simp
    refine hK _ _ hq1.out ?_
    clear hK K
    refine held_only (i := 4) rfl (by kernel_rfl) (by rfl) (fun K hK => ?_)
    refine wp_fn (R := fun v w'' => v = .int .i64 173 ∧ Below w9.heap.size w9 w'') (args := #[.pointer (some ⟨a, 0, none⟩), .agg (noteCells Hb (.slice Aq1 n6 cq1)).toArray, .agg #[Value.int .i64 sA, Value.int .i64 sA, Value.slice none 0 0]]) _ _ rfl rfl Tryz.func17 (by kernel_rfl) (by kernel_rfl) ((hTk.out a Ha Hb A5 Aq1 n5 c5 n6 cq1 sa sb _ okB.out hTb9.out.aud.few hnq1.out hSq1.out (b19.out.trans (hq1.out.mono b19.out.size)) (hTa9.out.aud.below hq1.out)).mono fun e w'' hT => ⟨_, hT.1, by rw [hk1.out sA sA []], hq1.out.trans ((fork_below hT.2 (hk1.out sA sA [])).mono (hq1.out).size)⟩) ?_
    rintro qq wq2 ⟨rfl, hq2⟩
    replace hq2 := Lib.hid hq2
    go_simp
    refine hK _ _ hq2.out ?_
    clear hK K
    refine Held.tk0 (i := 5) (v := .bool true) rfl hq2.out (fun w' hw' => by go_simp) ?_
    (intro K k; go_simp; apply k; clear k K)
    refine Held.tk0 (i := 6) (v := .bool true) rfl hq2.out (fun w' hw' => run_mv (.tmp 154) rfl w') ?_
    (intro K k; go_simp; apply k; clear k K)
    refine Held.tk0 (i := 7) (v := .pointer (some ⟨b, 0, none⟩)) rfl hq2.out (fun w' hw' => run_mv (.tmp 22) rfl w') ?_
    (intro K k; go_simp; apply k; clear k K)
    refine Held.tk0 (i := 8) (v := .pointer (some ⟨a, 0, none⟩)) rfl hq2.out (fun w' hw' => run_mv (.tmp 21) rfl w') ?_
    (intro K k; go_simp; apply k; clear k K)
    refine Held.tk0 (i := 10) (v := .agg (#[.int .i64 sA, .int .i64 sA, .slice none 0 0])) rfl hq2.out (fun w' hw' => exec_row 46 (.tmp 30) rfl (g30) rfl 46 (#[.int .i64 sA, .int .i64 sA, .slice none 0 0]) (0, 0) _ ((show Blk w' g30 46 #[.int .i64 sA, .int .i64 sA, .slice none 0 0] from (hw'.block _ B30.out.lt).trans B30.out)) Tryz.underlying46 rfl sizeCt) ?_
    (intro K k; go_simp; apply k; clear k K)
    refine held_only (i := 9) rfl (by kernel_rfl) (by rfl) (fun K hK => ?_)
    refine wp_fn (R := fun v w'' => ∃ A2 c2, v = .agg (noteCells Ha (.slice A2 n5 c2)).toArray ∧ (A2 = none → n5 = 0 ∧ c2 = 0) ∧ Sgs w'' A2 n5 sa ∧ Below w9.heap.size w9 w'') (args := #[.pointer (some ⟨a, 0, none⟩)]) _ _ rfl rfl Tryz.func19 (by kernel_rfl) (by kernel_rfl) ((audNote_any a sc 1 R Ha A5 n5 c5 sa _ (hTa9.out.aud.below hq2.out)).mono fun e w'' ⟨A2, c2, he, hO, hb2⟩ => ⟨_, he, A2, c2, rfl, own_nil hO, (copy_store hO).1, hq2.out.trans (hb2.mono (hq2.out).size)⟩) ?_
    rintro qq wq3 ⟨Aq3, cq3, rfl, hnq3, hSq3, hq3⟩
    replace hq3 := Lib.hid hq3
    replace hSq3 := Lib.hid hSq3
    replace hnq3 := Lib.hid hnq3
    go_simp
    refine hK _ _ hq3.out ?_
    clear hK K
    refine held_only (i := 11) rfl (by kernel_rfl) (by rfl) (fun K hK => ?_)
    refine wp_fn (R := fun v w'' => v = .int .i64 173 ∧ Below w9.heap.size w9 w'') (args := #[.pointer (some ⟨b, 0, none⟩), .agg (noteCells Ha (.slice Aq3 n5 cq3)).toArray, .agg #[Value.int .i64 sA, Value.int .i64 sA, Value.slice none 0 0]]) _ _ rfl rfl Tryz.func17 (by kernel_rfl) (by kernel_rfl) ((hTk.out b Hb Ha A6 Aq3 n6 c6 n5 cq3 sb sa _ okA.out hTa9.out.aud.few hnq3.out hSq3.out (b19.out.trans (hq3.out.mono b19.out.size)) (hTb9.out.aud.below hq3.out)).mono fun e w'' hT => ⟨_, hT.1, by rw [hk2.out sA sA []], hq3.out.trans ((fork_below hT.2 (hk2.out sA sA [])).mono (hq3.out).size)⟩) ?_
    rintro qq wq4 ⟨rfl, hq4⟩
    replace hq4 := Lib.hid hq4
    go_simp
    refine hK _ _ hq4.out ?_
    clear hK K
    refine Held.tk0 (i := 12) (v := .bool true) rfl hq4.out (fun w' hw' => by go_simp) ?_
    (intro K k; go_simp; apply k; clear k K)
    refine Held.tk0 (i := 13) (v := .bool true) rfl hq4.out (fun w' hw' => by go_simp) ?_
    (intro K k; go_simp; apply k; clear k K)
    refine Held.tk0 (i := 14) (v := .bool true) rfl hq4.out (fun w' hw' => run_mv (.tmp 162) rfl w') ?_
    (intro K k; go_simp; apply k; clear k K)
    refine Held.tk0 (i := 15) (v := .pointer (some ⟨a, 0, none⟩)) rfl hq4.out (fun w' hw' => run_mv (.tmp 21) rfl w') ?_
    (intro K k; go_simp; apply k; clear k K)
    refine Held.tk0 (i := 17) (v := .agg ((headCells Ha).toArray)) rfl hq4.out (fun w' hw' => exec_row 36 (.tmp 28) rfl (g28) rfl 36 ((headCells Ha).toArray) (0, 0) _ ((show Blk w' g28 36 (headCells Ha).toArray from (hw'.block _ B28'.out.lt).trans B28'.out)) Tryz.underlying36 rfl FA.out.size) ?_
    (intro K k; go_simp; apply k; clear k K)
    refine held_only (i := 16) rfl (by kernel_rfl) (by rfl) (fun K hK => ?_)
    refine wp_fn (R := fun v w'' => v = .agg (headCells Ha).toArray ∧ Below w9.heap.size w9 w'') (args := #[.pointer (some ⟨a, 0, none⟩)]) _ _ rfl rfl Tryz.func18 (by kernel_rfl) (by kernel_rfl) ((audHead_any a sc 1 R Ha A5 n5 c5 sa _ (hTa9.out.aud.below hq4.out)).mono fun e w'' ⟨he, hb2⟩ => ⟨_, he, rfl, hq4.out.trans (hb2.mono (hq4.out).size)⟩) ?_
    rintro qq wq5 ⟨rfl, hq5⟩
    replace hq5 := Lib.hid hq5
    go_simp
    refine hK _ _ hq5.out ?_
    clear hK K
    refine Held.tk0 (i := 18) (v := .bool true) rfl hq5.out (fun w' hw' => run_cmp rfl rfl rfl qHDt (ha1.out w')) ?_
    (intro K k; go_simp; apply k; clear k K)
    refine Held.tk0 (i := 19) (v := .bool true) rfl hq5.out (fun w' hw' => by go_simp) ?_
    (intro K k; go_simp; apply k; clear k K)
    refine Held.tk0 (i := 20) (v := .bool true) rfl hq5.out (fun w' hw' => run_mv (.tmp 168) rfl w') ?_
    (intro K k; go_simp; apply k; clear k K)
    refine Held.tk0 (i := 21) (v := .pointer (some ⟨b, 0, none⟩)) rfl hq5.out (fun w' hw' => run_mv (.tmp 22) rfl w') ?_
    (intro K k; go_simp; apply k; clear k K)
    refine Held.tk0 (i := 23) (v := .agg ((headCells Hb).toArray)) rfl hq5.out (fun w' hw' => exec_row 36 (.tmp 29) rfl (g29) rfl 36 ((headCells Hb).toArray) (0, 0) _ ((show Blk w' g29 36 (headCells Hb).toArray from (hw'.block _ B29'.out.lt).trans B29'.out)) Tryz.underlying36 rfl FB.out.size) ?_
    (intro K k; go_simp; apply k; clear k K)
    refine held_only (i := 22) rfl (by kernel_rfl) (by rfl) (fun K hK => ?_)
    refine wp_fn (R := fun v w'' => v = .agg (headCells Hb).toArray ∧ Below w9.heap.size w9 w'') (args := #[.pointer (some ⟨b, 0, none⟩)]) _ _ rfl rfl Tryz.func18 (by kernel_rfl) (by kernel_rfl) ((audHead_any b sc 1 R Hb A6 n6 c6 sb _ (hTb9.out.aud.below hq5.out)).mono fun e w'' ⟨he, hb2⟩ => ⟨_, he, rfl, hq5.out.trans (hb2.mono (hq5.out).size)⟩) ?_
    rintro qq wq6 ⟨rfl, hq6⟩
    replace hq6 := Lib.hid hq6
    go_simp
    refine hK _ _ hq6.out ?_
    clear hK K
    refine Held.tk0 (i := 24) (v := .bool true) rfl hq6.out (fun w' hw' => run_cmp rfl rfl rfl qHDt (ha2.out w')) ?_
    (intro K k; go_simp; apply k; clear k K)
    refine Held.tk0 (i := 25) (v := .bool true) rfl hq6.out (fun w' hw' => by go_simp) ?_
    (intro K k; go_simp; apply k; clear k K)
    refine Held.tk0 (i := 26) (v := .bool true) rfl hq6.out (fun w' hw' => by go_simp) ?_
    (intro K k; go_simp; apply k; clear k K)
    refine held_end (by kernel_rfl) ?_
    have bbZ : Hid (Below w.heap.size w wq6) := bb1.out.trans ((b19.out.trans (hq6.out.mono b19.out.size)).mono bb1.out.size)
    go_wp2_with fail
    go_ret
    exact ⟨rfl, bbZ.out⟩
  · by_cases hr : rA = rB
    · subst hr
      rw [decide_eq_true rfl] at hqr
      by_cases hss : sA = sB
      · subst hss
        have hh : headB Ha Hb = true := by
          cases e : headB Ha Hb with
          | true => rfl
          | false => exact absurd ⟨rfl, e⟩ hfk
        rw [hh] at hqh
        clear hfk hh
        obtain ⟨ke, hke⟩ : ∃ x, Hid (evA sc Ha ev x1 x2 ds = x) := ⟨_, Lib.hid rfl⟩
        obtain ⟨kf, hkf⟩ : ∃ x, Hid (evA sc Hb ew y1 y2 fs = x) := ⟨_, Lib.hid rfl⟩
        by_cases he0 : ke = 0
        · subst he0
          by_cases hf0 : kf = 0
          · subst hf0
            obtain ⟨he1, he2⟩ := ev_zero hke.out
            obtain ⟨hf1, hf2⟩ := ev_zero hkf.out
            have hxy1 : Hid (x1 = y1) := by show _ = _; rw [he1, hf1, hsA.out, hsB.out]
            rw [hrA.out] at he2
            rw [hrB.out] at hf2
            by_cases hnum : x2 = y2
            · subst hnum
              by_cases hsame : ev = ew
              · have hsm : (decide (ev = ew)) = true := decide_eq_true hsame
                rw [hsm] at hSe
                clear hsm hsame he1 hf1 he2 hf2
                go_wp2_with (first
    | (((with_reducible change wpList _ _ _ (⟨some 140, _, _, _, _, _⟩ :: _) _ _); (with_reducible refine Veil.out ?_); refine wpList_rowW (o := ⟨some 140, _, _, _, _, _⟩) rfl 36 (.tmp 28) rfl (g28) rfl 36 ((headCells Ha).toArray) (0, 0) _ B28.out Tryz.underlying36 rfl FA.out.size ?_))
    | (((with_reducible change wpList _ _ _ (⟨some 141, _, _, _, _, _⟩ :: _) _ _); (with_reducible refine Veil.out ?_); refine wpList_rowW (o := ⟨some 141, _, _, _, _, _⟩) rfl 36 (.tmp 29) rfl (g29) rfl 36 ((headCells Hb).toArray) (0, 0) _ B29.out Tryz.underlying36 rfl FB.out.size ?_))
    | ((with_reducible change wpList _ _ _ (⟨some 142, _, _, _, _, _⟩ :: _) _ _); (with_reducible refine Veil.out ?_); refine wpList_cmpW (o := ⟨some 142, _, _, _, _, _⟩) rfl .neq 36 36 (.tmp 140) (.tmp 141) rfl ((headCells Ha).toArray) ((headCells Hb).toArray) rfl rfl qHDt (_) (hqh.out _) ?_)
    | (((with_reducible change wpList _ _ _ (⟨some 176, _, _, _, _, _⟩ :: _) _ _); refine wpList_load_part (o := ⟨some 176, _, _, _, _, _⟩) rfl 23 (.tmp 175) rfl (g28) (33) rfl (cells8 rA) _ (p28.out w8 (Below.refl _ _)) Tryz.underlying23 rfl srA.out ?_))
    | (((with_reducible change wpList _ _ _ (⟨some 178, _, _, _, _, _⟩ :: _) _ _); refine wpList_load_part (o := ⟨some 178, _, _, _, _, _⟩) rfl 23 (.tmp 177) rfl (g29) (33) rfl (cells8 _) _ p29.out Tryz.underlying23 rfl (by first | exact srB.out | exact srA.out) ?_))
    | ((with_reducible change wpList _ _ _ (⟨some 179, _, _, _, _, _⟩ :: _) _ _); (with_reducible refine Veil.out ?_); refine wpList_cmpW (o := ⟨some 179, _, _, _, _, _⟩) rfl .neq 23 23 (.tmp 176) (.tmp 178) rfl ((cells8 rA).toArray) ((cells8 _).toArray) rfl rfl qDGt (_) (hqr.out) ?_)
    | (((with_reducible change wpList _ _ _ (⟨some 190, _, _, _, _, _⟩ :: _) _ _); (with_reducible refine Veil.out ?_); refine wpList_rowW (o := ⟨some 190, _, _, _, _, _⟩) rfl 48 (.tmp 15) rfl ((w.heap.size + 1)) rfl 48 (#[Value.int .i64 x1, Value.int .i64 x2, Value.slice A2 n2 c2]) (0, 0) _ (hPs.out w8 b18.out) Tryz.underlying48 rfl sizeIe ?_))
    | (go_at_call 20; have tok := b18; clear b18; refine (hEv1.out w8 a sc R Ha A5 n5 c5 sa bb8.out hTa8.out.aud).mono ?_; rw [hke.out]; rintro e w9 ⟨rfl, hb⟩; have b19 : Hid (Below w1.heap.size w1 w9) := tok.out.trans (hb.mono tok.out.size); have bb9 : Hid (Below w.heap.size w w9) := bb8.out.trans (hb.mono bb8.out.size); have hTb9 := Lib.hid (hTb8.out.below hb); have bx9 : Hid (Below w8.heap.size w8 w9) := hb; clear hb tok)
    | (((with_reducible change wpList _ _ _ (⟨some 197, _, _, _, _, _⟩ :: _) _ _); (with_reducible refine Veil.out ?_); refine wpList_rowW (o := ⟨some 197, _, _, _, _, _⟩) rfl 48 (.tmp 17) rfl ((w.heap.size + 2)) rfl 48 (_) (0, 0) _ (hQs.out w9 b19.out) Tryz.underlying48 rfl sizeIe ?_))
    | (go_at_call 20; refine (hEv2.out w9 b sc R Hb A6 n6 c6 sb bb9.out hTb9.out.aud).mono ?_; rw [hkf.out]; rintro e w10 ⟨rfl, hb⟩; have b1_10 : Hid (Below w1.heap.size w1 w10) := b19.out.trans (hb.mono b19.out.size); have bb10 : Hid (Below w.heap.size w w10) := bb9.out.trans (hb.mono bb9.out.size); have bx10 : Hid (Below w8.heap.size w8 w10) := bx9.out.trans (hb.mono bx9.out.size); have cp1 := (hPs.out w10 b1_10.out).cell 1; have cq1 := (hQs.out w10 b1_10.out).cell 1; clear hb)
    | (go_at_call 21; refine (hSe.out w10 bb10.out).mono ?_; rintro e w11 ⟨rfl, hb⟩; have b1_11 : Hid (Below w1.heap.size w1 w11) := b1_10.out.trans (hb.mono b1_10.out.size); have bb11 : Hid (Below w.heap.size w w11) := bb10.out.trans (hb.mono bb10.out.size); have bx11 : Hid (Below w8.heap.size w8 w11) := bx10.out.trans (hb.mono bx10.out.size); clear hb cp1 cq1))
                go_ret
                exact ⟨rfl, bb11.out⟩
              · have hsm : (decide (ev = ew)) = false := decide_eq_false hsame
                rw [hsm] at hSe
                have hW := Lib.hid (want_yes hsc.out he2 hf2 hxy1.out rfl hsame)
                have hf3 := Lib.hid (incl_few hdl1.out he2)
                have hf4 := Lib.hid (incl_few hdl2.out hf2)
                clear hsm hsame he1 hf1 he2 hf2
                go_upto_region 26 with (first
    | (((with_reducible change wpList _ _ _ (⟨some 140, _, _, _, _, _⟩ :: _) _ _); (with_reducible refine Veil.out ?_); refine wpList_rowW (o := ⟨some 140, _, _, _, _, _⟩) rfl 36 (.tmp 28) rfl (g28) rfl 36 ((headCells Ha).toArray) (0, 0) _ B28.out Tryz.underlying36 rfl FA.out.size ?_))
    | (((with_reducible change wpList _ _ _ (⟨some 141, _, _, _, _, _⟩ :: _) _ _); (with_reducible refine Veil.out ?_); refine wpList_rowW (o := ⟨some 141, _, _, _, _, _⟩) rfl 36 (.tmp 29) rfl (g29) rfl 36 ((headCells Hb).toArray) (0, 0) _ B29.out Tryz.underlying36 rfl FB.out.size ?_))
    | ((with_reducible change wpList _ _ _ (⟨some 142, _, _, _, _, _⟩ :: _) _ _); (with_reducible refine Veil.out ?_); refine wpList_cmpW (o := ⟨some 142, _, _, _, _, _⟩) rfl .neq 36 36 (.tmp 140) (.tmp 141) rfl ((headCells Ha).toArray) ((headCells Hb).toArray) rfl rfl qHDt (_) (hqh.out _) ?_)
    | (((with_reducible change wpList _ _ _ (⟨some 176, _, _, _, _, _⟩ :: _) _ _); refine wpList_load_part (o := ⟨some 176, _, _, _, _, _⟩) rfl 23 (.tmp 175) rfl (g28) (33) rfl (cells8 rA) _ (p28.out w8 (Below.refl _ _)) Tryz.underlying23 rfl srA.out ?_))
    | (((with_reducible change wpList _ _ _ (⟨some 178, _, _, _, _, _⟩ :: _) _ _); refine wpList_load_part (o := ⟨some 178, _, _, _, _, _⟩) rfl 23 (.tmp 177) rfl (g29) (33) rfl (cells8 _) _ p29.out Tryz.underlying23 rfl (by first | exact srB.out | exact srA.out) ?_))
    | ((with_reducible change wpList _ _ _ (⟨some 179, _, _, _, _, _⟩ :: _) _ _); (with_reducible refine Veil.out ?_); refine wpList_cmpW (o := ⟨some 179, _, _, _, _, _⟩) rfl .neq 23 23 (.tmp 176) (.tmp 178) rfl ((cells8 rA).toArray) ((cells8 _).toArray) rfl rfl qDGt (_) (hqr.out) ?_)
    | (((with_reducible change wpList _ _ _ (⟨some 190, _, _, _, _, _⟩ :: _) _ _); (with_reducible refine Veil.out ?_); refine wpList_rowW (o := ⟨some 190, _, _, _, _, _⟩) rfl 48 (.tmp 15) rfl ((w.heap.size + 1)) rfl 48 (#[Value.int .i64 x1, Value.int .i64 x2, Value.slice A2 n2 c2]) (0, 0) _ (hPs.out w8 b18.out) Tryz.underlying48 rfl sizeIe ?_))
    | (go_at_call 20; have tok := b18; clear b18; refine (hEv1.out w8 a sc R Ha A5 n5 c5 sa bb8.out hTa8.out.aud).mono ?_; rw [hke.out]; rintro e w9 ⟨rfl, hb⟩; have b19 : Hid (Below w1.heap.size w1 w9) := tok.out.trans (hb.mono tok.out.size); have bb9 : Hid (Below w.heap.size w w9) := bb8.out.trans (hb.mono bb8.out.size); have hTb9 := Lib.hid (hTb8.out.below hb); have bx9 : Hid (Below w8.heap.size w8 w9) := hb; clear hb tok)
    | (((with_reducible change wpList _ _ _ (⟨some 197, _, _, _, _, _⟩ :: _) _ _); (with_reducible refine Veil.out ?_); refine wpList_rowW (o := ⟨some 197, _, _, _, _, _⟩) rfl 48 (.tmp 17) rfl ((w.heap.size + 2)) rfl 48 (_) (0, 0) _ (hQs.out w9 b19.out) Tryz.underlying48 rfl sizeIe ?_))
    | (go_at_call 20; refine (hEv2.out w9 b sc R Hb A6 n6 c6 sb bb9.out hTb9.out.aud).mono ?_; rw [hkf.out]; rintro e w10 ⟨rfl, hb⟩; have b1_10 : Hid (Below w1.heap.size w1 w10) := b19.out.trans (hb.mono b19.out.size); have bb10 : Hid (Below w.heap.size w w10) := bb9.out.trans (hb.mono bb9.out.size); have bx10 : Hid (Below w8.heap.size w8 w10) := bx9.out.trans (hb.mono bx9.out.size); have cp1 := (hPs.out w10 b1_10.out).cell 1; have cq1 := (hQs.out w10 b1_10.out).cell 1; clear hb)
    | (go_at_call 21; refine (hSe.out w10 bb10.out).mono ?_; rintro e w11 ⟨rfl, hb⟩; have b1_11 : Hid (Below w1.heap.size w1 w11) := b1_10.out.trans (hb.mono b1_10.out.size); have bb11 : Hid (Below w.heap.size w w11) := bb10.out.trans (hb.mono bb10.out.size); have bx11 : Hid (Below w8.heap.size w8 w11) := bx10.out.trans (hb.mono bx10.out.size); clear hb cp1 cq1))
                have hTw1 := Lib.hid (hTw.out rA w11 lrA.out hf3.out hf4.out bb11.out)
                rw [hW.out] at hTw1
                have hPx := Lib.hid (hPs.out w11 b1_11.out)
                have hQx := Lib.hid (hQs.out w11 b1_11.out)
                go_wp2_with (first
    | (((with_reducible change wpList _ _ _ (⟨some 216, _, _, _, _, _⟩ :: _) _ _); refine wpList_load_part (o := ⟨some 216, _, _, _, _, _⟩) rfl 23 (.tmp 215) rfl (g28) (33) rfl (cells8 rA) _ (p28.out w11 bx11.out) Tryz.underlying23 rfl srA.out ?_))
    | (((with_reducible change wpList _ _ _ (⟨some 218, _, _, _, _, _⟩ :: _) _ _); refine wpList_load_row (o := ⟨some 218, _, _, _, _, _⟩) rfl 48 (.tmp 15) rfl (w.heap.size + 1) rfl 48 (#[Value.int .i64 x1, Value.int .i64 x2, Value.slice A2 n2 c2]) (0, 0) _ hPx.out Tryz.underlying48 rfl sizeIe ?_))
    | (((with_reducible change wpList _ _ _ (⟨some 220, _, _, _, _, _⟩ :: _) _ _); refine wpList_load_row (o := ⟨some 220, _, _, _, _, _⟩) rfl 48 (.tmp 17) rfl (w.heap.size + 2) rfl 48 (_) (0, 0) _ hQx.out Tryz.underlying48 rfl sizeIe ?_))
    | (go_at_call 22; refine hTw1.out.mono ?_; rintro e w12 hTP; obtain ⟨hb, hTP⟩ := hTP; obtain ⟨va, vb, pp, qq, rfl, hpm, hpq, hra, hrb⟩ := tp_yes hTP; have hLs2 := hTl.out pp hpm; clear hpm; obtain ⟨Ava, cva, rfl, -, -, -, hRa, -⟩ := Append.Own.reads hra; obtain ⟨Avb, cvb, rfl, -, -, -, hRb, -⟩ := Append.Own.reads hrb; obtain ⟨La, hLa⟩ : ∃ L, Hid (pp.length = L) := ⟨_, Lib.hid rfl⟩; obtain ⟨Lb, hLb⟩ : ∃ L, Hid (qq.length = L) := ⟨_, Lib.hid rfl⟩; rw [hLa.out] at hRa hLs2 ⊢; replace hLs2 := Lib.hid hLs2; rw [hLb.out] at hRb ⊢; have bb12 : Hid (Below w.heap.size w w12) := bb11.out.trans (hb.mono bb11.out.size); replace hRa := Lib.hid hRa; replace hRb := Lib.hid hRb; replace hpq := Lib.hid hpq; have FE := Lib.hid (fitE2 Ava Avb La cva Lb cvb); clear hb hTP hra hrb)
    | ((with_reducible change wpList _ _ _ ({ dst := none, op := Op.store 77 (.tmp 31) (.tmp 222), type := _, pos := _, after := _, guard := _ } :: _) _ _); refine wpList_store_allX (o := ⟨none, _, _, _, _, _⟩) rfl rfl 77 (.tmp 31) (.tmp 222) rfl w12.heap.size #[.slice Ava La cva, .slice Avb Lb cvb] rfl rfl 77 #[Value.slice none 0 0, Value.slice none 0 0] (Blk.new w12 _ _) FE.out.size FE.out.zero FE.out.one ?_; intro w13 B31 k13; have hb := below_new k13; have bb13 : Hid (Below w.heap.size w w13) := bb12.out.trans (hb.mono bb12.out.size); have hRa3 := Lib.hid (hRa.out.below hb); have hRb3 := Lib.hid (hRb.out.below hb); have ce0 := B31.out.cell 0; have ce1 := B31.out.cell 1; clear k13 hb hRa hRb; generalize w12.heap.size = g31 at *)
    | (go_at_call 21; refine (same8_any pp qq La Lb hLa.out hLb.out (by have := hLs2.out; omega) Ava Avb cva cvb w13 hRa3.out hRb3.out).mono ?_; rw [decide_eq_false hpq.out]; rintro e w14 ⟨rfl, n14, rfl⟩; have bb14 : Hid (Below w.heap.size w (w13.drewN n14)) := below_drawn bb13.out n14))
                go_ret
                exact ⟨rfl, bb14.out⟩
            · clear he1 hf1 he2 hf2
              go_wp2_with (first
    | (((with_reducible change wpList _ _ _ (⟨some 140, _, _, _, _, _⟩ :: _) _ _); (with_reducible refine Veil.out ?_); refine wpList_rowW (o := ⟨some 140, _, _, _, _, _⟩) rfl 36 (.tmp 28) rfl (g28) rfl 36 ((headCells Ha).toArray) (0, 0) _ B28.out Tryz.underlying36 rfl FA.out.size ?_))
    | (((with_reducible change wpList _ _ _ (⟨some 141, _, _, _, _, _⟩ :: _) _ _); (with_reducible refine Veil.out ?_); refine wpList_rowW (o := ⟨some 141, _, _, _, _, _⟩) rfl 36 (.tmp 29) rfl (g29) rfl 36 ((headCells Hb).toArray) (0, 0) _ B29.out Tryz.underlying36 rfl FB.out.size ?_))
    | ((with_reducible change wpList _ _ _ (⟨some 142, _, _, _, _, _⟩ :: _) _ _); (with_reducible refine Veil.out ?_); refine wpList_cmpW (o := ⟨some 142, _, _, _, _, _⟩) rfl .neq 36 36 (.tmp 140) (.tmp 141) rfl ((headCells Ha).toArray) ((headCells Hb).toArray) rfl rfl qHDt (_) (hqh.out _) ?_)
    | (((with_reducible change wpList _ _ _ (⟨some 176, _, _, _, _, _⟩ :: _) _ _); refine wpList_load_part (o := ⟨some 176, _, _, _, _, _⟩) rfl 23 (.tmp 175) rfl (g28) (33) rfl (cells8 rA) _ (p28.out w8 (Below.refl _ _)) Tryz.underlying23 rfl srA.out ?_))
    | (((with_reducible change wpList _ _ _ (⟨some 178, _, _, _, _, _⟩ :: _) _ _); refine wpList_load_part (o := ⟨some 178, _, _, _, _, _⟩) rfl 23 (.tmp 177) rfl (g29) (33) rfl (cells8 _) _ p29.out Tryz.underlying23 rfl (by first | exact srB.out | exact srA.out) ?_))
    | ((with_reducible change wpList _ _ _ (⟨some 179, _, _, _, _, _⟩ :: _) _ _); (with_reducible refine Veil.out ?_); refine wpList_cmpW (o := ⟨some 179, _, _, _, _, _⟩) rfl .neq 23 23 (.tmp 176) (.tmp 178) rfl ((cells8 rA).toArray) ((cells8 _).toArray) rfl rfl qDGt (_) (hqr.out) ?_)
    | (((with_reducible change wpList _ _ _ (⟨some 190, _, _, _, _, _⟩ :: _) _ _); (with_reducible refine Veil.out ?_); refine wpList_rowW (o := ⟨some 190, _, _, _, _, _⟩) rfl 48 (.tmp 15) rfl ((w.heap.size + 1)) rfl 48 (#[Value.int .i64 x1, Value.int .i64 x2, Value.slice A2 n2 c2]) (0, 0) _ (hPs.out w8 b18.out) Tryz.underlying48 rfl sizeIe ?_))
    | (go_at_call 20; have tok := b18; clear b18; refine (hEv1.out w8 a sc R Ha A5 n5 c5 sa bb8.out hTa8.out.aud).mono ?_; rw [hke.out]; rintro e w9 ⟨rfl, hb⟩; have b19 : Hid (Below w1.heap.size w1 w9) := tok.out.trans (hb.mono tok.out.size); have bb9 : Hid (Below w.heap.size w w9) := bb8.out.trans (hb.mono bb8.out.size); have hTb9 := Lib.hid (hTb8.out.below hb); have bx9 : Hid (Below w8.heap.size w8 w9) := hb; clear hb tok)
    | (((with_reducible change wpList _ _ _ (⟨some 197, _, _, _, _, _⟩ :: _) _ _); (with_reducible refine Veil.out ?_); refine wpList_rowW (o := ⟨some 197, _, _, _, _, _⟩) rfl 48 (.tmp 17) rfl ((w.heap.size + 2)) rfl 48 (_) (0, 0) _ (hQs.out w9 b19.out) Tryz.underlying48 rfl sizeIe ?_))
    | (go_at_call 20; refine (hEv2.out w9 b sc R Hb A6 n6 c6 sb bb9.out hTb9.out.aud).mono ?_; rw [hkf.out]; rintro e w10 ⟨rfl, hb⟩; have b1_10 : Hid (Below w1.heap.size w1 w10) := b19.out.trans (hb.mono b19.out.size); have bb10 : Hid (Below w.heap.size w w10) := bb9.out.trans (hb.mono bb9.out.size); have bx10 : Hid (Below w8.heap.size w8 w10) := bx9.out.trans (hb.mono bx9.out.size); have cp1 := (hPs.out w10 b1_10.out).cell 1; have cq1 := (hQs.out w10 b1_10.out).cell 1; clear hb)
    | (go_at_call 21; refine (hSe.out w10 bb10.out).mono ?_; rintro e w11 ⟨rfl, hb⟩; have b1_11 : Hid (Below w1.heap.size w1 w11) := b1_10.out.trans (hb.mono b1_10.out.size); have bb11 : Hid (Below w.heap.size w w11) := bb10.out.trans (hb.mono bb10.out.size); have bx11 : Hid (Below w8.heap.size w8 w11) := bx10.out.trans (hb.mono bx10.out.size); clear hb cp1 cq1))
              go_ret
              exact ⟨rfl, bb10.out⟩
          · have hf1 : ¬ (kf = 0) := hf0
            go_wp2_with (first
    | (((with_reducible change wpList _ _ _ (⟨some 140, _, _, _, _, _⟩ :: _) _ _); (with_reducible refine Veil.out ?_); refine wpList_rowW (o := ⟨some 140, _, _, _, _, _⟩) rfl 36 (.tmp 28) rfl (g28) rfl 36 ((headCells Ha).toArray) (0, 0) _ B28.out Tryz.underlying36 rfl FA.out.size ?_))
    | (((with_reducible change wpList _ _ _ (⟨some 141, _, _, _, _, _⟩ :: _) _ _); (with_reducible refine Veil.out ?_); refine wpList_rowW (o := ⟨some 141, _, _, _, _, _⟩) rfl 36 (.tmp 29) rfl (g29) rfl 36 ((headCells Hb).toArray) (0, 0) _ B29.out Tryz.underlying36 rfl FB.out.size ?_))
    | ((with_reducible change wpList _ _ _ (⟨some 142, _, _, _, _, _⟩ :: _) _ _); (with_reducible refine Veil.out ?_); refine wpList_cmpW (o := ⟨some 142, _, _, _, _, _⟩) rfl .neq 36 36 (.tmp 140) (.tmp 141) rfl ((headCells Ha).toArray) ((headCells Hb).toArray) rfl rfl qHDt (_) (hqh.out _) ?_)
    | (((with_reducible change wpList _ _ _ (⟨some 176, _, _, _, _, _⟩ :: _) _ _); refine wpList_load_part (o := ⟨some 176, _, _, _, _, _⟩) rfl 23 (.tmp 175) rfl (g28) (33) rfl (cells8 rA) _ (p28.out w8 (Below.refl _ _)) Tryz.underlying23 rfl srA.out ?_))
    | (((with_reducible change wpList _ _ _ (⟨some 178, _, _, _, _, _⟩ :: _) _ _); refine wpList_load_part (o := ⟨some 178, _, _, _, _, _⟩) rfl 23 (.tmp 177) rfl (g29) (33) rfl (cells8 _) _ p29.out Tryz.underlying23 rfl (by first | exact srB.out | exact srA.out) ?_))
    | ((with_reducible change wpList _ _ _ (⟨some 179, _, _, _, _, _⟩ :: _) _ _); (with_reducible refine Veil.out ?_); refine wpList_cmpW (o := ⟨some 179, _, _, _, _, _⟩) rfl .neq 23 23 (.tmp 176) (.tmp 178) rfl ((cells8 rA).toArray) ((cells8 _).toArray) rfl rfl qDGt (_) (hqr.out) ?_)
    | (((with_reducible change wpList _ _ _ (⟨some 190, _, _, _, _, _⟩ :: _) _ _); (with_reducible refine Veil.out ?_); refine wpList_rowW (o := ⟨some 190, _, _, _, _, _⟩) rfl 48 (.tmp 15) rfl ((w.heap.size + 1)) rfl 48 (#[Value.int .i64 x1, Value.int .i64 x2, Value.slice A2 n2 c2]) (0, 0) _ (hPs.out w8 b18.out) Tryz.underlying48 rfl sizeIe ?_))
    | (go_at_call 20; have tok := b18; clear b18; refine (hEv1.out w8 a sc R Ha A5 n5 c5 sa bb8.out hTa8.out.aud).mono ?_; rw [hke.out]; rintro e w9 ⟨rfl, hb⟩; have b19 : Hid (Below w1.heap.size w1 w9) := tok.out.trans (hb.mono tok.out.size); have bb9 : Hid (Below w.heap.size w w9) := bb8.out.trans (hb.mono bb8.out.size); have hTb9 := Lib.hid (hTb8.out.below hb); have bx9 : Hid (Below w8.heap.size w8 w9) := hb; clear hb tok)
    | (((with_reducible change wpList _ _ _ (⟨some 197, _, _, _, _, _⟩ :: _) _ _); (with_reducible refine Veil.out ?_); refine wpList_rowW (o := ⟨some 197, _, _, _, _, _⟩) rfl 48 (.tmp 17) rfl ((w.heap.size + 2)) rfl 48 (_) (0, 0) _ (hQs.out w9 b19.out) Tryz.underlying48 rfl sizeIe ?_))
    | (go_at_call 20; refine (hEv2.out w9 b sc R Hb A6 n6 c6 sb bb9.out hTb9.out.aud).mono ?_; rw [hkf.out]; rintro e w10 ⟨rfl, hb⟩; have b1_10 : Hid (Below w1.heap.size w1 w10) := b19.out.trans (hb.mono b19.out.size); have bb10 : Hid (Below w.heap.size w w10) := bb9.out.trans (hb.mono bb9.out.size); have bx10 : Hid (Below w8.heap.size w8 w10) := bx9.out.trans (hb.mono bx9.out.size); have cp1 := (hPs.out w10 b1_10.out).cell 1; have cq1 := (hQs.out w10 b1_10.out).cell 1; clear hb)
    | (go_at_call 21; refine (hSe.out w10 bb10.out).mono ?_; rintro e w11 ⟨rfl, hb⟩; have b1_11 : Hid (Below w1.heap.size w1 w11) := b1_10.out.trans (hb.mono b1_10.out.size); have bb11 : Hid (Below w.heap.size w w11) := bb10.out.trans (hb.mono bb10.out.size); have bx11 : Hid (Below w8.heap.size w8 w11) := bx10.out.trans (hb.mono bx10.out.size); clear hb cp1 cq1))
            go_ret
            exact ⟨rfl, bb10.out⟩
        · have he1 : ¬ (ke = 0) := he0
          go_wp2_with (first
    | (((with_reducible change wpList _ _ _ (⟨some 140, _, _, _, _, _⟩ :: _) _ _); (with_reducible refine Veil.out ?_); refine wpList_rowW (o := ⟨some 140, _, _, _, _, _⟩) rfl 36 (.tmp 28) rfl (g28) rfl 36 ((headCells Ha).toArray) (0, 0) _ B28.out Tryz.underlying36 rfl FA.out.size ?_))
    | (((with_reducible change wpList _ _ _ (⟨some 141, _, _, _, _, _⟩ :: _) _ _); (with_reducible refine Veil.out ?_); refine wpList_rowW (o := ⟨some 141, _, _, _, _, _⟩) rfl 36 (.tmp 29) rfl (g29) rfl 36 ((headCells Hb).toArray) (0, 0) _ B29.out Tryz.underlying36 rfl FB.out.size ?_))
    | ((with_reducible change wpList _ _ _ (⟨some 142, _, _, _, _, _⟩ :: _) _ _); (with_reducible refine Veil.out ?_); refine wpList_cmpW (o := ⟨some 142, _, _, _, _, _⟩) rfl .neq 36 36 (.tmp 140) (.tmp 141) rfl ((headCells Ha).toArray) ((headCells Hb).toArray) rfl rfl qHDt (_) (hqh.out _) ?_)
    | (((with_reducible change wpList _ _ _ (⟨some 176, _, _, _, _, _⟩ :: _) _ _); refine wpList_load_part (o := ⟨some 176, _, _, _, _, _⟩) rfl 23 (.tmp 175) rfl (g28) (33) rfl (cells8 rA) _ (p28.out w8 (Below.refl _ _)) Tryz.underlying23 rfl srA.out ?_))
    | (((with_reducible change wpList _ _ _ (⟨some 178, _, _, _, _, _⟩ :: _) _ _); refine wpList_load_part (o := ⟨some 178, _, _, _, _, _⟩) rfl 23 (.tmp 177) rfl (g29) (33) rfl (cells8 _) _ p29.out Tryz.underlying23 rfl (by first | exact srB.out | exact srA.out) ?_))
    | ((with_reducible change wpList _ _ _ (⟨some 179, _, _, _, _, _⟩ :: _) _ _); (with_reducible refine Veil.out ?_); refine wpList_cmpW (o := ⟨some 179, _, _, _, _, _⟩) rfl .neq 23 23 (.tmp 176) (.tmp 178) rfl ((cells8 rA).toArray) ((cells8 _).toArray) rfl rfl qDGt (_) (hqr.out) ?_)
    | (((with_reducible change wpList _ _ _ (⟨some 190, _, _, _, _, _⟩ :: _) _ _); (with_reducible refine Veil.out ?_); refine wpList_rowW (o := ⟨some 190, _, _, _, _, _⟩) rfl 48 (.tmp 15) rfl ((w.heap.size + 1)) rfl 48 (#[Value.int .i64 x1, Value.int .i64 x2, Value.slice A2 n2 c2]) (0, 0) _ (hPs.out w8 b18.out) Tryz.underlying48 rfl sizeIe ?_))
    | (go_at_call 20; have tok := b18; clear b18; refine (hEv1.out w8 a sc R Ha A5 n5 c5 sa bb8.out hTa8.out.aud).mono ?_; rw [hke.out]; rintro e w9 ⟨rfl, hb⟩; have b19 : Hid (Below w1.heap.size w1 w9) := tok.out.trans (hb.mono tok.out.size); have bb9 : Hid (Below w.heap.size w w9) := bb8.out.trans (hb.mono bb8.out.size); have hTb9 := Lib.hid (hTb8.out.below hb); have bx9 : Hid (Below w8.heap.size w8 w9) := hb; clear hb tok)
    | (((with_reducible change wpList _ _ _ (⟨some 197, _, _, _, _, _⟩ :: _) _ _); (with_reducible refine Veil.out ?_); refine wpList_rowW (o := ⟨some 197, _, _, _, _, _⟩) rfl 48 (.tmp 17) rfl ((w.heap.size + 2)) rfl 48 (_) (0, 0) _ (hQs.out w9 b19.out) Tryz.underlying48 rfl sizeIe ?_))
    | (go_at_call 20; refine (hEv2.out w9 b sc R Hb A6 n6 c6 sb bb9.out hTb9.out.aud).mono ?_; rw [hkf.out]; rintro e w10 ⟨rfl, hb⟩; have b1_10 : Hid (Below w1.heap.size w1 w10) := b19.out.trans (hb.mono b19.out.size); have bb10 : Hid (Below w.heap.size w w10) := bb9.out.trans (hb.mono bb9.out.size); have bx10 : Hid (Below w8.heap.size w8 w10) := bx9.out.trans (hb.mono bx9.out.size); have cp1 := (hPs.out w10 b1_10.out).cell 1; have cq1 := (hQs.out w10 b1_10.out).cell 1; clear hb)
    | (go_at_call 21; refine (hSe.out w10 bb10.out).mono ?_; rintro e w11 ⟨rfl, hb⟩; have b1_11 : Hid (Below w1.heap.size w1 w11) := b1_10.out.trans (hb.mono b1_10.out.size); have bb11 : Hid (Below w.heap.size w w11) := bb10.out.trans (hb.mono bb10.out.size); have bx11 : Hid (Below w8.heap.size w8 w11) := bx10.out.trans (hb.mono bx10.out.size); clear hb cp1 cq1))
          go_ret
          exact ⟨rfl, bb9.out⟩
      · clear hfk
        go_wp2_with (first
    | (((with_reducible change wpList _ _ _ (⟨some 140, _, _, _, _, _⟩ :: _) _ _); (with_reducible refine Veil.out ?_); refine wpList_rowW (o := ⟨some 140, _, _, _, _, _⟩) rfl 36 (.tmp 28) rfl (g28) rfl 36 ((headCells Ha).toArray) (0, 0) _ B28.out Tryz.underlying36 rfl FA.out.size ?_))
    | (((with_reducible change wpList _ _ _ (⟨some 141, _, _, _, _, _⟩ :: _) _ _); (with_reducible refine Veil.out ?_); refine wpList_rowW (o := ⟨some 141, _, _, _, _, _⟩) rfl 36 (.tmp 29) rfl (g29) rfl 36 ((headCells Hb).toArray) (0, 0) _ B29.out Tryz.underlying36 rfl FB.out.size ?_))
    | ((with_reducible change wpList _ _ _ (⟨some 142, _, _, _, _, _⟩ :: _) _ _); (with_reducible refine Veil.out ?_); refine wpList_cmpW (o := ⟨some 142, _, _, _, _, _⟩) rfl .neq 36 36 (.tmp 140) (.tmp 141) rfl ((headCells Ha).toArray) ((headCells Hb).toArray) rfl rfl qHDt (_) (hqh.out _) ?_)
    | (((with_reducible change wpList _ _ _ (⟨some 176, _, _, _, _, _⟩ :: _) _ _); refine wpList_load_part (o := ⟨some 176, _, _, _, _, _⟩) rfl 23 (.tmp 175) rfl (g28) (33) rfl (cells8 rA) _ (p28.out w8 (Below.refl _ _)) Tryz.underlying23 rfl srA.out ?_))
    | (((with_reducible change wpList _ _ _ (⟨some 178, _, _, _, _, _⟩ :: _) _ _); refine wpList_load_part (o := ⟨some 178, _, _, _, _, _⟩) rfl 23 (.tmp 177) rfl (g29) (33) rfl (cells8 _) _ p29.out Tryz.underlying23 rfl (by first | exact srB.out | exact srA.out) ?_))
    | ((with_reducible change wpList _ _ _ (⟨some 179, _, _, _, _, _⟩ :: _) _ _); (with_reducible refine Veil.out ?_); refine wpList_cmpW (o := ⟨some 179, _, _, _, _, _⟩) rfl .neq 23 23 (.tmp 176) (.tmp 178) rfl ((cells8 rA).toArray) ((cells8 _).toArray) rfl rfl qDGt (_) (hqr.out) ?_)
    | (((with_reducible change wpList _ _ _ (⟨some 190, _, _, _, _, _⟩ :: _) _ _); (with_reducible refine Veil.out ?_); refine wpList_rowW (o := ⟨some 190, _, _, _, _, _⟩) rfl 48 (.tmp 15) rfl ((w.heap.size + 1)) rfl 48 (#[Value.int .i64 x1, Value.int .i64 x2, Value.slice A2 n2 c2]) (0, 0) _ (hPs.out w8 b18.out) Tryz.underlying48 rfl sizeIe ?_))
    | (go_at_call 20; have tok := b18; clear b18; refine (hEv1.out w8 a sc R Ha A5 n5 c5 sa bb8.out hTa8.out.aud).mono ?_; rw [hke.out]; rintro e w9 ⟨rfl, hb⟩; have b19 : Hid (Below w1.heap.size w1 w9) := tok.out.trans (hb.mono tok.out.size); have bb9 : Hid (Below w.heap.size w w9) := bb8.out.trans (hb.mono bb8.out.size); have hTb9 := Lib.hid (hTb8.out.below hb); have bx9 : Hid (Below w8.heap.size w8 w9) := hb; clear hb tok)
    | (((with_reducible change wpList _ _ _ (⟨some 197, _, _, _, _, _⟩ :: _) _ _); (with_reducible refine Veil.out ?_); refine wpList_rowW (o := ⟨some 197, _, _, _, _, _⟩) rfl 48 (.tmp 17) rfl ((w.heap.size + 2)) rfl 48 (_) (0, 0) _ (hQs.out w9 b19.out) Tryz.underlying48 rfl sizeIe ?_))
    | (go_at_call 20; refine (hEv2.out w9 b sc R Hb A6 n6 c6 sb bb9.out hTb9.out.aud).mono ?_; rw [hkf.out]; rintro e w10 ⟨rfl, hb⟩; have b1_10 : Hid (Below w1.heap.size w1 w10) := b19.out.trans (hb.mono b19.out.size); have bb10 : Hid (Below w.heap.size w w10) := bb9.out.trans (hb.mono bb9.out.size); have bx10 : Hid (Below w8.heap.size w8 w10) := bx9.out.trans (hb.mono bx9.out.size); have cp1 := (hPs.out w10 b1_10.out).cell 1; have cq1 := (hQs.out w10 b1_10.out).cell 1; clear hb)
    | (go_at_call 21; refine (hSe.out w10 bb10.out).mono ?_; rintro e w11 ⟨rfl, hb⟩; have b1_11 : Hid (Below w1.heap.size w1 w11) := b1_10.out.trans (hb.mono b1_10.out.size); have bb11 : Hid (Below w.heap.size w w11) := bb10.out.trans (hb.mono bb10.out.size); have bx11 : Hid (Below w8.heap.size w8 w11) := bx10.out.trans (hb.mono bx10.out.size); clear hb cp1 cq1))
        go_ret
        exact ⟨rfl, bb8.out⟩
    · rw [decide_eq_false hr] at hqr
      by_cases hss : sA = sB
      · subst hss
        have hh : headB Ha Hb = true := by
          cases e : headB Ha Hb with
          | true => rfl
          | false => exact absurd ⟨rfl, e⟩ hfk
        exfalso
        have e := headB_yes hh
        exact hr (by rw [← hrA.out, ← hrB.out, e])
      · clear hfk hr
        go_wp2_with (first
    | (((with_reducible change wpList _ _ _ (⟨some 140, _, _, _, _, _⟩ :: _) _ _); (with_reducible refine Veil.out ?_); refine wpList_rowW (o := ⟨some 140, _, _, _, _, _⟩) rfl 36 (.tmp 28) rfl (g28) rfl 36 ((headCells Ha).toArray) (0, 0) _ B28.out Tryz.underlying36 rfl FA.out.size ?_))
    | (((with_reducible change wpList _ _ _ (⟨some 141, _, _, _, _, _⟩ :: _) _ _); (with_reducible refine Veil.out ?_); refine wpList_rowW (o := ⟨some 141, _, _, _, _, _⟩) rfl 36 (.tmp 29) rfl (g29) rfl 36 ((headCells Hb).toArray) (0, 0) _ B29.out Tryz.underlying36 rfl FB.out.size ?_))
    | ((with_reducible change wpList _ _ _ (⟨some 142, _, _, _, _, _⟩ :: _) _ _); (with_reducible refine Veil.out ?_); refine wpList_cmpW (o := ⟨some 142, _, _, _, _, _⟩) rfl .neq 36 36 (.tmp 140) (.tmp 141) rfl ((headCells Ha).toArray) ((headCells Hb).toArray) rfl rfl qHDt (_) (hqh.out _) ?_)
    | (((with_reducible change wpList _ _ _ (⟨some 176, _, _, _, _, _⟩ :: _) _ _); refine wpList_load_part (o := ⟨some 176, _, _, _, _, _⟩) rfl 23 (.tmp 175) rfl (g28) (33) rfl (cells8 rA) _ (p28.out w8 (Below.refl _ _)) Tryz.underlying23 rfl srA.out ?_))
    | (((with_reducible change wpList _ _ _ (⟨some 178, _, _, _, _, _⟩ :: _) _ _); refine wpList_load_part (o := ⟨some 178, _, _, _, _, _⟩) rfl 23 (.tmp 177) rfl (g29) (33) rfl (cells8 _) _ p29.out Tryz.underlying23 rfl (by first | exact srB.out | exact srA.out) ?_))
    | ((with_reducible change wpList _ _ _ (⟨some 179, _, _, _, _, _⟩ :: _) _ _); (with_reducible refine Veil.out ?_); refine wpList_cmpW (o := ⟨some 179, _, _, _, _, _⟩) rfl .neq 23 23 (.tmp 176) (.tmp 178) rfl ((cells8 rA).toArray) ((cells8 _).toArray) rfl rfl qDGt (_) (hqr.out) ?_)
    | (((with_reducible change wpList _ _ _ (⟨some 190, _, _, _, _, _⟩ :: _) _ _); (with_reducible refine Veil.out ?_); refine wpList_rowW (o := ⟨some 190, _, _, _, _, _⟩) rfl 48 (.tmp 15) rfl ((w.heap.size + 1)) rfl 48 (#[Value.int .i64 x1, Value.int .i64 x2, Value.slice A2 n2 c2]) (0, 0) _ (hPs.out w8 b18.out) Tryz.underlying48 rfl sizeIe ?_))
    | (go_at_call 20; have tok := b18; clear b18; refine (hEv1.out w8 a sc R Ha A5 n5 c5 sa bb8.out hTa8.out.aud).mono ?_; rw [hke.out]; rintro e w9 ⟨rfl, hb⟩; have b19 : Hid (Below w1.heap.size w1 w9) := tok.out.trans (hb.mono tok.out.size); have bb9 : Hid (Below w.heap.size w w9) := bb8.out.trans (hb.mono bb8.out.size); have hTb9 := Lib.hid (hTb8.out.below hb); have bx9 : Hid (Below w8.heap.size w8 w9) := hb; clear hb tok)
    | (((with_reducible change wpList _ _ _ (⟨some 197, _, _, _, _, _⟩ :: _) _ _); (with_reducible refine Veil.out ?_); refine wpList_rowW (o := ⟨some 197, _, _, _, _, _⟩) rfl 48 (.tmp 17) rfl ((w.heap.size + 2)) rfl 48 (_) (0, 0) _ (hQs.out w9 b19.out) Tryz.underlying48 rfl sizeIe ?_))
    | (go_at_call 20; refine (hEv2.out w9 b sc R Hb A6 n6 c6 sb bb9.out hTb9.out.aud).mono ?_; rw [hkf.out]; rintro e w10 ⟨rfl, hb⟩; have b1_10 : Hid (Below w1.heap.size w1 w10) := b19.out.trans (hb.mono b19.out.size); have bb10 : Hid (Below w.heap.size w w10) := bb9.out.trans (hb.mono bb9.out.size); have bx10 : Hid (Below w8.heap.size w8 w10) := bx9.out.trans (hb.mono bx9.out.size); have cp1 := (hPs.out w10 b1_10.out).cell 1; have cq1 := (hQs.out w10 b1_10.out).cell 1; clear hb)
    | (go_at_call 21; refine (hSe.out w10 bb10.out).mono ?_; rintro e w11 ⟨rfl, hb⟩; have b1_11 : Hid (Below w1.heap.size w1 w11) := b1_10.out.trans (hb.mono b1_10.out.size); have bb11 : Hid (Below w.heap.size w w11) := bb10.out.trans (hb.mono bb10.out.size); have bx11 : Hid (Below w8.heap.size w8 w11) := bx10.out.trans (hb.mono bx10.out.size); clear hb cp1 cq1))
        go_ret
        exact ⟨rfl, bb8.out⟩
end Go.Proofs.YtgldkfaiofkhbaaGreatDoor.AuditAgree
