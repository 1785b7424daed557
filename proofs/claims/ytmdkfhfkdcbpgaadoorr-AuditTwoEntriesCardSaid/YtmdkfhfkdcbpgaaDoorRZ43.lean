/-
  Texts of the claim, put into one file: TwoEv, Told20b, TwoEvAny.
-/
import Derived.Test.YtmdkfhfkdcbpgaaDoorRZ38
import Derived.Test.YtmdkfhfkdcbpgaaDoorRZ42

namespace Go.Proofs.YtmdkfhfkdcbpgaaDoorR.TwoEv
open Go Go.RowKit Go.Proofs.YtmdkfhfkdcbpgaaDoorR Mem Sha Bytes HashMem DigestMem TreeMem TreeRoot Go.Proofs.YtmdkfhfkdcbpgaaDoorR.Append Held Guard Chain ProofEnc Ref17 TwiceP Clash RowsY Extract Book AudIncl Way20 TwoEvP Included

def TPost (w : World) (s : Int) (want : Bool) (ts : List Text) (e : Ending) (w' : World) : Prop :=
 Below w.heap.size w w' ∧ ((want = false ∧ e = .returned (.tuple #[.agg #[Value.slice none 0 0, Value.slice none 0 0], .bool false])) ∨
  (want = true ∧ ∃ va vb p q, e = .returned (.tuple #[.agg #[va, vb], .bool true]) ∧ p ∈ ts ∧ q ∈ ts ∧ p ≠ q ∧ sumOf s p = sumOf s q ∧ w'.ownsRow w.heap.size 5 1 va p.length (cells8 p) ∧ w'.ownsRow w.heap.size 5 1 vb q.length (cells8 q)))
theorem TPost.no {w w' : World} {s : Int} {ts : List Text} {e : Ending} (h : e = .returned (.tuple #[.agg #[Value.slice none 0 0, Value.slice none 0 0], .bool false])) (hb : Below w.heap.size w w') : TPost w s false ts e w' := ⟨hb, .inl ⟨rfl, h⟩⟩
theorem fold_at : ∀ (xs old pre post : List Value) (k : Nat) (o : Nat), pre.length = o + k → old.length = xs.length → (xs.zipIdx k).foldl (fun (cs : Array Value) (x : Value × Nat) => cs.setIfInBounds (o + x.2) x.1) (pre ++ old ++ post).toArray = (pre ++ xs ++ post).toArray
 | [], old, pre, post, k, o, hp, ho => by
  have : old = [] := List.eq_nil_of_length_eq_zero ho
  subst this
  rfl
 | x :: xs, y :: old, pre, post, k, o, hp, ho => by
  rw [List.zipIdx_cons, List.foldl_cons]
  have e : ((pre ++ (y :: old) ++ post).toArray).setIfInBounds (o + k) x = ((pre ++ [x]) ++ old ++ post).toArray := by
   rw [List.setIfInBounds_toArray, List.append_assoc, List.set_append_right _ _ (by omega), hp, Nat.sub_self]
   simp
  show List.foldl _ (Array.setIfInBounds _ (o + k) x) _ = _
  rw [e, fold_at xs old (pre ++ [x]) post (k + 1) o (by rw [List.length_append, List.length_singleton]; omega) (by simpa using ho)]
  simp
 | x :: xs, [], _, _, _, _, _, ho => by simp at ho
section
variable (s : Int) (root : Text) (e f : Text) (k l : Nat) (A B : Option Addr) (c d : Nat) (x1 x2 y1 y2 : Int) (A2 B2 : Option Addr) (n c2 m d2 : Nat) (w : World)
theorem extract_T (L : List Ans) (want : Bool) (hw : want = true → (∀ a ∈ L, a.tk = true) ∧ TwiceP.Met s (L.flatMap (·.ts))) (hw2 : want = false → ¬ ∀ a ∈ L, a.tk = true) (w' w2 : World) (cs : Array Value) (T : TypeId) (e : Ending) (h : EPost (w'.alloc (.cells cs T)) s L e w2) : TPost w' s want (L.flatMap (·.ts)) e w2 := by
 obtain ⟨hb, h⟩ := h
 have hle : w'.heap.size ≤ (w'.alloc (.cells cs T)).heap.size := by simp
 have hb2 : Below w'.heap.size w' w2 := (Below.heap_below w' _).trans (hb.mono hle)
 rcases h with ⟨rfl, hn⟩ | ⟨va, vb, p, q, rfl, hall, hp, hq, hne, hs, oa, ob⟩
 ·cases want with
  | true => exact absurd (hw rfl) hn
  | false => exact TPost.no rfl hb2
 ·cases want with
  | false => exact absurd hall (hw2 rfl)
  | true => exact ⟨hb2, .inr ⟨rfl, va, vb, p, q, rfl, hp, hq, hne, hs, own_base8 oa hle, own_base8 ob hle⟩⟩
end
end Go.Proofs.YtmdkfhfkdcbpgaaDoorR.TwoEv

namespace Go.Proofs.YtmdkfhfkdcbpgaaDoorR.Told20b
open Go Go.RowKit Go.Proofs.YtmdkfhfkdcbpgaaDoorR Mem Sha Bytes HashMem TreeMem TreeRoot Go.Proofs.YtmdkfhfkdcbpgaaDoorR.Append TwiceP Clash RowsT RowsY Extract Included TwoEv Told20

def XR (w : World) (s : Int) (want : Bool) (ts : List Text) (xa xb : Value) (ok : Bool) : Prop :=
 (want = false ∧ xa = .slice none 0 0 ∧ xb = .slice none 0 0 ∧ ok = false) ∨
 (want = true ∧ ok = true ∧ ∃ ga ca gb cb p q, xa = .slice (some ⟨ga, 0, none⟩) p.length ca ∧ xb = .slice (some ⟨gb, 0, none⟩) q.length cb ∧ p ∈ ts ∧ q ∈ ts ∧ p ≠ q ∧ sumOf s p = sumOf s q ∧ 0 < p.length ∧ 0 < q.length ∧ Reads w 1 (some ⟨ga, 0, none⟩) p.length (cells8 p) ∧ Reads w 1 (some ⟨gb, 0, none⟩) q.length (cells8 q))
theorem XR.below {w w' : World} {s : Int} {want : Bool} {ts : List Text} {xa xb : Value} {ok : Bool} (h : XR w s want ts xa xb ok) (hb : Below w.heap.size w w') : XR w' s want ts xa xb ok :=
 h.imp id fun ⟨a, b, ga, ca, gb, cb, p, q, c1, c2, c3, c4, c5, c6, c7, c8, c9, c10⟩ => ⟨a, b, ga, ca, gb, cb, p, q, c1, c2, c3, c4, c5, c6, c7, c8, c9.below hb, c10.below hb⟩
theorem reads_keep {S : Nat → Prop} {w w' : World} {g : Nat} {p : Text} (h : Reads w 1 (some ⟨g, 0, none⟩) p.length (cells8 p)) (hp : 0 < p.length) (hk : Kept S w w') (hS : ∀ g, S g → ∃ u, w.cell? ⟨g, 0, none⟩ = some u ∧ ∀ n, u ≠ .int .u8 n) : Reads w' 1 (some ⟨g, 0, none⟩) p.length (cells8 p) :=
 h.kept hk (fun b o e hs => by
  injection e with e
  injection e with e1 e2
  subst e1 e2
  obtain ⟨b', o, e1, -, e2⟩ := h.at_ (by omega)
  injection e1 with e1
  injection e1 with e3 e4
  subst e3 e4
  obtain ⟨u, hu, hne⟩ := hS _ hs
  have h2 := e2 0 _ (cells8_at p 0 hp)
  rw [Nat.add_zero, hu] at h2
  exact hne _ (Option.some.inj h2))
theorem XR.keep {S : Nat → Prop} {w w' : World} {s : Int} {want : Bool} {ts : List Text} {xa xb : Value} {ok : Bool} (h : XR w s want ts xa xb ok) (hk : Kept S w w') (hS : ∀ g, S g → ∃ u, w.cell? ⟨g, 0, none⟩ = some u ∧ ∀ n, u ≠ .int .u8 n) : XR w' s want ts xa xb ok :=
 h.imp id fun ⟨a, b, ga, ca, gb, cb, p, q, c1, c2, c3, c4, c5, c6, c7, c8, c9, c10⟩ => ⟨a, b, ga, ca, gb, cb, p, q, c1, c2, c3, c4, c5, c6, c7, c8, reads_keep c9 c7 hk hS, reads_keep c10 c8 hk hS⟩
theorem XR.keptN {w w' : World} {m : Nat} {s : Int} {want : Bool} {ts : List Text} {xa xb : Value} {ok : Bool} (h : XR w s want ts xa xb ok) (hB : Blk w m 82 #[.slice none 0 0, .slice none 0 0]) (hk : Kept (· = m) w w') : XR w' s want ts xa xb ok :=
 h.keep hk (fun g e => by
  have e : g = m := e
  subst e
  exact ⟨_, hB.cell 0, fun n e => by cases e⟩)
theorem TPost.xr {w w' : World} {s : Int} {want : Bool} {ts : List Text} {e : Ending} (hl : ∀ q ∈ ts, 0 < q.length) (h : TPost w s want ts e w') : Below w.heap.size w w' ∧ ∃ xa xb ok, e = .returned (.tuple #[.agg #[xa, xb], .bool ok]) ∧ XR w' s want ts xa xb ok := by
 obtain ⟨hb, h⟩ := h
 refine ⟨hb, ?_⟩
 rcases h with ⟨rfl, rfl⟩ | ⟨rfl, va, vb, p, q, rfl, hp, hq, hne, hsum, oa, ob⟩
 ·exact ⟨_, _, _, rfl, .inl ⟨rfl, rfl, rfl, rfl⟩⟩
 ·obtain ⟨ga, ca, rfl, -⟩ := own_some oa (hl p hp)
  obtain ⟨gb, cb, rfl, -⟩ := own_some ob (hl q hq)
  obtain ⟨A, c, e1, -, -, h1, -⟩ := Own.own_reads oa
  obtain ⟨B, d, e2, -, -, h2, -⟩ := Own.own_reads ob
  injection e1 with e1
  injection e2 with e2
  subst e1 e2
  exact ⟨_, _, _, rfl, .inr ⟨rfl, rfl, ga, ca, gb, cb, p, q, rfl, rfl, hp, hq, hne, hsum, hl p hp, hl q hq, h1, h2⟩⟩
theorem told_any (s : Int) (hs63 : s < 9223372036854775808) (ts : List Text) (n : Nat) (hn : ts.length = n) (hn47 : n < 140737488355328) (hl : ∀ q ∈ ts, q.length < 140737488355328) (want : Bool) (A : Option Addr) (c : Nat) (w : World) (hps : Pieces w A ts) (xa xb : Value) (ok : Bool) (h : XR w s want ts xa xb ok) :
  Calls Tryd.prog 43 #[.int .i64 s, .agg #[xa, xb], .bool ok, .bool want, .slice A n c] w fun e w' => e = .returned (.bool true) ∧ Below w.heap.size w w' := by
 rcases h with ⟨rfl, rfl, rfl, rfl⟩ | ⟨rfl, rfl, ga, ca, gb, cb, p, q, rfl, rfl, hp, hq, hne, hsum, -, -, h1, h2⟩
 ·exact told_no s A n c w
 ·exact told_yes s hs63 ts n hn hn47 hl A c w hps p q hp hq hne hsum _ _ ca cb h1 h2
end Go.Proofs.YtmdkfhfkdcbpgaaDoorR.Told20b

namespace Go.Proofs.YtmdkfhfkdcbpgaaDoorR.TwoEvAny
open Go Go.RowKit Go.Proofs.YtmdkfhfkdcbpgaaDoorR Mem Sha Bytes HashMem TreeMem Chain ProofEnc Ref17 TwiceP Clash Extract AudIncl TwoEvP Included TwoEv

end Go.Proofs.YtmdkfhfkdcbpgaaDoorR.TwoEvAny
