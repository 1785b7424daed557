/-
  Texts of the claim, put into one file: SgM, EncNoteP, RowS, Stranger.
-/
import Derived.Test.YteelanamlhfmgaaZ19
import Derived.Test.YteelanamlhfmgaaZ8
import Derived.Lib.Hide
import Derived.Outline
import Derived.WalkLawsBesides
import Derived.StillTailTactics
import Derived.OwnWalk
import Derived.IntWalk
import Derived.Deep.Cut

namespace Go.Proofs.Yteelanamlhfmgaa.SgM
open Go Go.RowKit Go.Proofs.Yteelanamlhfmgaa Go.Proofs.Yteelanamlhfmgaa.Mem Go.Proofs.Yteelanamlhfmgaa.Sha Go.Proofs.Yteelanamlhfmgaa.Bytes Go.Proofs.Yteelanamlhfmgaa.SortP Go.Proofs.Yteelanamlhfmgaa.NoteP Go.Proofs.Yteelanamlhfmgaa.Rise Go.Proofs.Yteelanamlhfmgaa.SortM Go.Proofs.Yteelanamlhfmgaa.Append Go.Proofs.Yteelanamlhfmgaa.Own

/-- Each is 64 bytes long. -/
def Sns (ds : List Text) : Prop := ∀ d ∈ ds, d.length = 64
theorem Sns.take_ {ds : List Text} (h : Sns ds) (k : Nat) : Sns (ds.take k) := fun d hd => h d (List.mem_of_mem_take hd)
theorem Sns.at_ {ds : List Text} (h : Sns ds) {i : Nat} {d : Text} (hi : ds[i]? = some d) : d.length = 64 := h d (List.mem_of_getElem? hi)
theorem Sns.append_ {xs ys : List Text} (h : Sns xs) (k : Sns ys) : Sns (xs ++ ys) := fun d hd => by
  rcases List.mem_append.1 hd with x | x
  · exact h d x
  · exact k d x
theorem Sns.one {d : Text} (h : d.length = 64) : Sns [d] := fun x hx => by simp only [List.mem_singleton] at hx; rw [hx, h]
theorem Sns.nil : Sns [] := fun _ h => by cases h
theorem flat_take : ∀ (ds : List Text) (k : Nat), Sns ds → (ds.flatMap cells8).take (k * 64) = (ds.take k).flatMap cells8
  | [], k, _ => by simp
  | d :: ds, 0, _ => by simp
  | d :: ds, k + 1, h => by
    have h1 := flat_take ds k (fun x hx => h x (List.mem_cons_of_mem _ hx))
    have h2 : (cells8 d).length = 64 := by rw [cells8_len]; exact h d (List.mem_cons_self ..)
    simp only [List.flatMap_cons, List.take_succ_cons]
    rw [List.take_append, h2, List.take_of_length_le (by omega), show (k + 1) * 64 - 64 = k * 64 by omega, h1]
theorem flat_drop : ∀ (ds : List Text) (k : Nat), Sns ds → (ds.flatMap cells8).drop (k * 64) = (ds.drop k).flatMap cells8
  | [], k, _ => by simp
  | d :: ds, 0, _ => by simp
  | d :: ds, k + 1, h => by
    have h1 := flat_drop ds k (fun x hx => h x (List.mem_cons_of_mem _ hx))
    have h2 : (cells8 d).length = 64 := by rw [cells8_len]; exact h d (List.mem_cons_self ..)
    simp only [List.flatMap_cons, List.drop_succ_cons]
    rw [List.drop_append, h2, List.drop_of_length_le (by omega), show (k + 1) * 64 - 64 = k * 64 by omega, h1, List.nil_append]
theorem one_signs (ss : List Text) : ∀ u ∈ ss.flatMap cells8, u.oneCell' = true := by
  intro u hu
  obtain ⟨t, -, ht⟩ := List.mem_flatMap.1 hu
  exact cells8_one t u ht
section
variable {w w' : World} {A : Option Addr} {n : Nat} {ds : List Text}
theorem _root_.Go.Proofs.Yteelanamlhfmgaa.Rise.Sgs.nil_ (w : World) (A : Option Addr) : Sgs w A 0 [] := ⟨rfl, (fun _ h => by cases h), Reads.nil_ _ _ _⟩
theorem _root_.Go.Proofs.Yteelanamlhfmgaa.Rise.Sgs.drewN (h : Sgs w A n ds) (k : Nat) : Sgs (w.drewN k) A n ds := ⟨h.len, h.all, h.rd.drewN k⟩
theorem _root_.Go.Proofs.Yteelanamlhfmgaa.Rise.Sgs.take_ (h : Sgs w A n ds) (k : Nat) (hk : k ≤ n) : Sgs w A k (ds.take k) := by
  have hl := h.len
  have ha : Sns (ds.take k) := Sns.take_ h.all k
  have hlen : (ds.take k).length = k := by rw [List.length_take]; omega
  refine ⟨hlen, ha, by rw [flat_len _ ha, hlen], fun h0 => ?_⟩
  obtain ⟨b, o, e, hb, hc⟩ := h.rd.2 (by omega)
  refine ⟨b, o, e, hb, fun j u hu => hc j u ?_⟩
  rw [← flat_take ds k h.all, List.getElem?_take] at hu
  by_cases hj : j < k * 64
  · rw [if_pos hj] at hu; exact hu
  · rw [if_neg hj] at hu; cases hu
end
theorem size64s (w : World) : (sizeOf (Try.prog.elem 26)).run Try.prog w = .ok 64 w := by kernel_rfl
theorem undS : Try.prog.underlying 26 = some (.slice (Try.prog.elem 26)) := by kernel_rfl
theorem run_headS {A : Option Addr} {n c k : Nat} (hk : k ≤ c) (x : Int) (hx : x = k) (w : World) :
    (Instr.sliceAt 26 (.slice A n c) none (some (.int .i64 x)) none).run Try.prog w = .ok (.slice A k c) w := by
  subst hx
  rw [run_sliceAt_slice w _ _ _ _ _ undS, run_slice_h w _ A n c undS .i64 (k : Int) (by omega) (by omega), size64s]
  simp only [Result.andThen, sliced, Int.toNat_natCast, Nat.zero_mul, Nat.sub_zero]
  cases A with
  | none => simp
  | some a => simp [Bytes.add_zero]
def Z64 : Array Value := #[Value.int IntKind.u8 0, Value.int IntKind.u8 0, Value.int IntKind.u8 0, Value.int IntKind.u8 0, Value.int IntKind.u8 0, Value.int IntKind.u8 0, Value.int IntKind.u8 0, Value.int IntKind.u8 0, Value.int IntKind.u8 0, Value.int IntKind.u8 0, Value.int IntKind.u8 0, Value.int IntKind.u8 0, Value.int IntKind.u8 0, Value.int IntKind.u8 0, Value.int IntKind.u8 0, Value.int IntKind.u8 0, Value.int IntKind.u8 0, Value.int IntKind.u8 0, Value.int IntKind.u8 0, Value.int IntKind.u8 0, Value.int IntKind.u8 0, Value.int IntKind.u8 0, Value.int IntKind.u8 0, Value.int IntKind.u8 0, Value.int IntKind.u8 0, Value.int IntKind.u8 0, Value.int IntKind.u8 0, Value.int IntKind.u8 0, Value.int IntKind.u8 0, Value.int IntKind.u8 0, Value.int IntKind.u8 0, Value.int IntKind.u8 0, Value.int IntKind.u8 0, Value.int IntKind.u8 0, Value.int IntKind.u8 0, Value.int IntKind.u8 0, Value.int IntKind.u8 0, Value.int IntKind.u8 0, Value.int IntKind.u8 0, Value.int IntKind.u8 0, Value.int IntKind.u8 0, Value.int IntKind.u8 0, Value.int IntKind.u8 0, Value.int IntKind.u8 0, Value.int IntKind.u8 0, Value.int IntKind.u8 0, Value.int IntKind.u8 0, Value.int IntKind.u8 0, Value.int IntKind.u8 0, Value.int IntKind.u8 0, Value.int IntKind.u8 0, Value.int IntKind.u8 0, Value.int IntKind.u8 0, Value.int IntKind.u8 0, Value.int IntKind.u8 0, Value.int IntKind.u8 0, Value.int IntKind.u8 0, Value.int IntKind.u8 0, Value.int IntKind.u8 0, Value.int IntKind.u8 0, Value.int IntKind.u8 0, Value.int IntKind.u8 0, Value.int IntKind.u8 0, Value.int IntKind.u8 0]
theorem info64 : (Try.prog.info? 50).map (fun i => (i.zero, i.size, i.bytes)) = some (some (.agg Z64), 64, 64) := by kernel_rfl
theorem info_partsN {P : Program} {e : TypeId} {z : Value} {s b : Nat} (h : (P.info? e).map (fun i => (i.zero, i.size, i.bytes)) = some (some z, s, b)) : ∃ i : TypeInfo, P.info? e = some i ∧ i.zero = some z ∧ i.size = s ∧ i.bytes = b := by
  cases hq : P.info? e with
  | none => simp [hq] at h
  | some i =>
    simp [hq] at h
    exact ⟨i, rfl, h.1, h.2.1, h.2.2⟩
/-- A row of signs of one's own. -/
def OwnS (w : World) (B : Nat) (v : Value) (n : Nat) (ds : List Text) : Prop := Sns ds ∧ ds.length = n ∧ w.ownsRow B 50 64 v n (ds.flatMap cells8)
theorem OwnS.nil (w : World) (B : Nat) : OwnS w B (.slice none 0 0) 0 [] := ⟨Sns.nil, rfl, World.ownsRow_nil _ _ _ _⟩
theorem OwnS.below {w w' : World} {B n : Nat} {v : Value} {ds : List Text} (h : OwnS w B v n ds) (hb : Below w.heap.size w w') : OwnS w' B v n ds := ⟨h.1, h.2.1, own_below h.2.2 hb⟩
theorem OwnS.reads {w : World} {B n : Nat} {v : Value} {ds : List Text} (h : OwnS w B v n ds) : ∃ A c, v = .slice A n c ∧ n ≤ c ∧ c ≤ maxLen ∧ (A = none → n = 0 ∧ c = 0) ∧ Sgs w A n ds ∧ ∀ a, A = some a → B ≤ a.block := by
  obtain ⟨A, c, e, h1, h2, h3, h4, h5⟩ := Own.reads h.2.2
  exact ⟨A, c, e, h1, h2, h3, ⟨h.2.1, h.1, h4⟩, fun a ha => (h5 a ha).1⟩
theorem OwnS.base {w : World} {B B' n : Nat} {v : Value} {ds : List Text} (h : OwnS w B v n ds) (hB : B' ≤ B) : OwnS w B' v n ds := ⟨h.1, h.2.1, ownsRow_base h.2.2 hB⟩
theorem own_some {w : World} {B n c : Nat} {A : Option Addr} {ds : List Text} (h : OwnS w B (.slice A n c) n ds) (hn : 0 < n) : ∃ g, A = some ⟨g, 0, none⟩ := by
  rcases h.2.2.2 with ⟨h2, h3⟩ | ⟨g, c2, cur, h2, -⟩
  · omega
  · injection h2 with h2
    exact ⟨g, h2⟩
/-- What an append of signs onto signs leaves. -/
theorem grew_signs {w w' : World} {B n m : Nat} {v v' : Value} {xs ys : List Text} (h : Grew w B 50 64 v n m (xs.flatMap cells8) (ys.flatMap cells8) v' w') {w0 : World} (hb : Below B w0 w) (hB : B ≤ w.heap.size) (hx : OwnS w B v n xs) (hy : Sns ys) (hm : ys.length = m) :
    OwnS w' B v' (n + m) (xs ++ ys) ∧ Below B w0 w' := by
  refine ⟨⟨Sns.append_ hx.1 hy, by rw [List.length_append, hx.2.1, hm], ?_⟩, ?_⟩
  · have := h.own
    rwa [← List.flatMap_append] at this
  · obtain ⟨A, c, rfl, -, -, -, -, -⟩ := OwnS.reads hx
    exact h.below hb hB (own_block hx.2.2)
end Go.Proofs.Yteelanamlhfmgaa.SgM

namespace Go.Proofs.Yteelanamlhfmgaa.EncNoteP
open Go Go.RowKit Go.Proofs.Yteelanamlhfmgaa Go.Proofs.Yteelanamlhfmgaa.Mem Go.Proofs.Yteelanamlhfmgaa.Sha Go.Proofs.Yteelanamlhfmgaa.Bytes Go.Proofs.Yteelanamlhfmgaa.SortP Go.Proofs.Yteelanamlhfmgaa.NoteP Go.Proofs.Yteelanamlhfmgaa.Rise Go.Proofs.Yteelanamlhfmgaa.SgM

/-- A sign's tag: its last 32 bytes. -/
def tgS (t : Text) : Text := t.drop 32
theorem kyS_len {t : Text} (h : t.length = 64) : (kyS t).length = 32 := by unfold kyS; rw [List.length_take]; omega
theorem tgS_len {t : Text} (h : t.length = 64) : (tgS t).length = 32 := by unfold tgS; rw [List.length_drop]; omega
theorem kt_eq (t : Text) : [kyS t, tgS t].flatten = t := by unfold kyS tgS; simp
theorem ky_cell {t : Text} {j : Nat} {u : Value} (hu : (cells8 (kyS t))[j]? = some u) : (cells8 t)[0 + j]? = some u := by
  unfold kyS cells8 at hu
  rw [List.map_take, List.getElem?_take] at hu
  rw [Nat.zero_add]
  by_cases hj : j < 32
  · rw [if_pos hj] at hu; exact hu
  · rw [if_neg hj] at hu; cases hu
theorem tg_cell {t : Text} {j : Nat} {u : Value} (hu : (cells8 (tgS t))[j]? = some u) : (cells8 t)[32 + j]? = some u := by
  unfold tgS cells8 at hu
  rw [List.map_drop, List.getElem?_drop] at hu
  exact hu
end Go.Proofs.Yteelanamlhfmgaa.EncNoteP

namespace Go.Proofs.Yteelanamlhfmgaa.RowS
open Go Go.RowKit Go.Proofs.Yteelanamlhfmgaa Go.Proofs.Yteelanamlhfmgaa.Mem Go.Proofs.Yteelanamlhfmgaa.Sha Go.Proofs.Yteelanamlhfmgaa.Bytes Go.Proofs.Yteelanamlhfmgaa.SortP Go.Proofs.Yteelanamlhfmgaa.NoteP Go.Proofs.Yteelanamlhfmgaa.Rise Go.Proofs.Yteelanamlhfmgaa.SortM Go.Proofs.Yteelanamlhfmgaa.SgM

def z64 : Text := List.replicate 64 0
def RowS (w : World) (g : Nat) (ds : List Text) : Prop := Blk w g 50 (ds.flatMap cells8).toArray
theorem flat_set (ds : List Text) (h : Sns ds) (i : Nat) (hi : i < ds.length) (x : Text) : (ds.flatMap cells8).take (i * 64) ++ cells8 x ++ (ds.flatMap cells8).drop (i * 64 + 64) = (ds.set i x).flatMap cells8 := by
  rw [flat_take ds i h, show i * 64 + 64 = (i + 1) * 64 by omega, flat_drop ds (i + 1) h, List.set_eq_take_append_cons_drop, if_pos hi, List.flatMap_append, List.flatMap_cons, List.append_assoc]
theorem flat_zero : ∀ m, (List.replicate m z64).flatMap cells8 = List.replicate (m * 64) (.int .u8 0)
  | 0 => rfl
  | m + 1 => by
    have hz : cells8 z64 = List.replicate 64 (.int .u8 0) := by unfold cells8 z64; rw [List.map_replicate]; rfl
    rw [List.replicate_succ, List.flatMap_cons, flat_zero m, hz, Nat.succ_mul, Nat.add_comm (m * 64) 64, List.replicate_append_replicate]
theorem made64 (m : Nat) : (madeCells (Value.agg Z64).cells (m * 64)).toList = List.replicate (m * 64) (.int .u8 0) := by
  have hz : (Value.agg Z64).cells = Array.replicate 64 (.int .u8 0) := rfl
  rw [hz]
  unfold madeCells
  apply List.ext_getElem
  · simp
  · intro j h1 h2
    have hm : j % 64 < 64 := Nat.mod_lt _ (by omega)
    simp [hm]
theorem Sns.set_ {ds : List Text} (h : Sns ds) (i : Nat) {x : Text} (hx : x.length = 64) : Sns (ds.set i x) := fun d hd => by
  rcases List.mem_or_eq_of_mem_set hd with h1 | h1
  · exact h d h1
  · rw [h1]; exact hx
theorem Sns.rep (m : Nat) {x : Text} (hx : x.length = 64) : Sns (List.replicate m x) := fun d hd => by rw [List.eq_of_mem_replicate hd, hx]
theorem z64_len : z64.length = 64 := by unfold z64; simp
theorem RowS.rd {w : World} {g : Nat} {ds : List Text} (h : RowS w g ds) (hd : Sns ds) : Sgs w (some ⟨g, 0, none⟩) ds.length ds :=
  ⟨rfl, hd, Blk.reads h 0 _ (flat_len ds hd) (fun j u hu => by rw [Nat.zero_add, List.getElem?_toArray]; exact hu)⟩
theorem RowS.below {w w' : World} {g : Nat} {ds : List Text} (h : RowS w g ds) (hb : Below w.heap.size w w') : RowS w' g ds := (hb.block g (Blk.lt h)).trans h
theorem RowS.kept {w w' : World} {g : Nat} {ds : List Text} {S : Nat → Prop} (h : RowS w g ds) (hk : Kept S w w') (hS : ¬ S g) : RowS w' g ds := Blk.kept h hk hS
theorem ownBlkS {w : World} {base e g n sz : Nat} {xs : List Value} (h : w.ownsRow base e sz (.slice (some ⟨g, 0, none⟩) n n) n xs) : Blk w g e xs.toArray := by
  rcases h.2 with ⟨h1, _⟩ | ⟨g', cap, cur, hv, _, hg, _, _, hs, ht⟩
  · cases h1
  · injection hv with h1 h2 h3
    injection h1 with h1
    injection h1 with h1
    subst h1
    subst h3
    rw [List.take_of_length_le (by rw [Array.length_toList, hs]; exact Nat.le_refl _)] at ht
    rw [← ht]
    exact hg
end Go.Proofs.Yteelanamlhfmgaa.RowS

namespace Go.Proofs.Yteelanamlhfmgaa.Stranger
open Go Go.RowKit Go.Proofs.Yteelanamlhfmgaa Go.Proofs.Yteelanamlhfmgaa.Mem Go.Proofs.Yteelanamlhfmgaa.Sha Go.Proofs.Yteelanamlhfmgaa.Bytes Go.Proofs.Yteelanamlhfmgaa.SgM Go.Proofs.Yteelanamlhfmgaa.RowS

/-- The sign that no statement draws. -/
def stS : Text := List.replicate 32 165 ++ List.replicate 32 90
theorem stS_len : stS.length = 64 := by unfold stS; simp
end Go.Proofs.Yteelanamlhfmgaa.Stranger
