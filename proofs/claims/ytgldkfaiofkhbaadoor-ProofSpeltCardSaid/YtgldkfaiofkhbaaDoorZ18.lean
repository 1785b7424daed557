/-
  Texts of the claim, put into one file: IdxMem, IdxBuild.
-/
import Derived.Test.YtgldkfaiofkhbaaDoorZ14
import Derived.Laws.BytesArg

namespace Go.Proofs.YtgldkfaiofkhbaaDoor.IdxMem
open Go Go.RowKit Go.Proofs.YtgldkfaiofkhbaaDoor Go.Proofs.YtgldkfaiofkhbaaDoor.Mem Go.Proofs.YtgldkfaiofkhbaaDoor.Sha Go.Proofs.YtgldkfaiofkhbaaDoor.Bytes Go.Proofs.YtgldkfaiofkhbaaDoor.HeadMem Go.Proofs.YtgldkfaiofkhbaaDoor.ProofIdx2 Go.Proofs.YtgldkfaiofkhbaaDoor.ProofIdx3 Go.Proofs.YtgldkfaiofkhbaaDoor.StructEq

/-- A text as a string. -/
def strT (p : Text) : ByteArray := strOfNums (p.map b8)
theorem strT_size (p : Text) : (strT p).size = p.length := by unfold strT; rw [strOfNums_size, List.length_map]
theorem nm_strT (p : Text) : nm (strT p) = p := by
  unfold nm strT
  rw [strOfNums_data, List.map_map, List.map_map]
  have h : ∀ x : BitVec 8, (((fun b : UInt8 => b.toBitVec) ∘ fun n : Int => UInt8.ofNat n.toNat) ∘ b8) x = x := fun x => by
    apply BitVec.eq_of_toNat_eq
    show (UInt8.ofNat (b8 x).toNat).toBitVec.toNat = x.toNat
    have := x.isLt
    unfold b8
    simp
  rw [List.map_congr_left (fun x _ => h x), List.map_id']
theorem conv8 (p : Text) (A : Option Addr) (c : Nat) (w : World) (hr : Reads w 1 A p.length (cells8 p)) (hA : p.length = 0 → A = none ∨ ∃ b o, A = some ⟨b, o, none⟩) : (convert 31 9 (.slice A p.length c)).run Tryd.prog w = .ok (.string (strT p)) w := by
  have key : ∀ b o, A = some ⟨b, o, none⟩ → (convert 31 9 (.slice A p.length c)).run Tryd.prog w = .ok (.string (strT p)) w := fun b o e => by
    subst e
    refine run_convert_bytes_arg w 31 5 Tryd.underlying31 Tryd.underlying5 b o p.length c (p.map b8) (by rw [List.length_map]) (fun i hi => ?_) 9 Tryd.underlying9
    obtain ⟨b', o', e1, -, e2⟩ := hr.at_ (by omega)
    injection e1 with e1
    injection e1 with e3 e4
    subst e3 e4
    rw [e2 i _ (cells8_at p i hi)]
    have h2 : (p.map b8).getD i 0 = b8 (p.getD i 0) := by
      rw [List.getD_eq_getElem?_getD, List.getElem?_map, List.getElem?_eq_getElem hi, List.getD_eq_getElem?_getD, List.getElem?_eq_getElem hi]
      rfl
    rw [h2]
    rfl
  rcases Nat.eq_zero_or_pos p.length with h0 | h0
  · rcases hA h0 with rfl | ⟨b, o, e⟩
    · have hp : p = [] := List.length_eq_zero_iff.1 h0
      subst hp
      exact run_convert_bytes_nil w 31 5 Tryd.underlying31 Tryd.underlying5 0 c 9 Tryd.underlying9
    · exact key b o e
  · obtain ⟨b, o, e, -⟩ := hr.at_ (by omega)
    exact key b o e
theorem conv_zero (ad : Addr) (c : Nat) (w : World) : (convert 31 9 (.slice (some ad) 0 c)).run Tryd.prog w = .ok (.string ByteArray.empty) w := by
  have hl : (loadCells ad 0).run Tryd.prog w = .ok ((([] : List Int).map (Value.int .u8)).toArray) w := by
    simpa using run_loadCells_list (P := Tryd.prog) w ad [] (fun j v hj => by simp at hj)
  rw [run_convert_bytes_string w 31 9 5 _ 0 c Tryd.underlying31 Tryd.underlying5 Tryd.underlying9, run_bytesToString w _ 0 c [] hl]
  rfl
/-- A text in memory as a string, wherever it lies. -/
theorem convAny (p : Text) (A : Option Addr) (c : Nat) (w : World) (hr : Reads w 1 A p.length (cells8 p)) : (convert 31 9 (.slice A p.length c)).run Tryd.prog w = .ok (.string (strT p)) w := by
  rcases Nat.eq_zero_or_pos p.length with h0 | h0
  · have hp : p = [] := List.length_eq_zero_iff.1 h0
    subst hp
    cases A with
    | none => exact run_convert_bytes_nil w 31 5 Tryd.underlying31 Tryd.underlying5 0 c 9 Tryd.underlying9
    | some ad => exact conv_zero ad c w
  · exact conv8 p A c w hr (fun h => by omega)
section
variable {s s' : ByteArray} {f f' : Bool} {ent ent' : List Value} {d d' : Text} {A A' : Option Addr} {n n' c c' : Nat}
theorem set_name : (idxCells s f ent d A n c).toArray.setIfInBounds 0 (.string s') = (idxCells s' f ent d A n c).toArray := by
  simp [idxCells]
theorem set_found : (idxCells s f ent d A n c).toArray.setIfInBounds 1 (.bool f') = (idxCells s f' ent d A n c).toArray := by
  simp [idxCells]
theorem set_way (he : ent.length = 33) (hd : d.length = 32) : (idxCells s f ent d A n c).toArray.setIfInBounds 67 (.slice A' n' c') = (idxCells s f ent d A' n' c').toArray := by
  have h : ([Value.string s, .bool f] ++ ent ++ cells8 d).length = 67 := by simp [he, cells8_len, hd]
  unfold idxCells
  rw [List.setIfInBounds_toArray, List.set_append_right _ _ (by omega), h]
  rfl
theorem set_ent (he : ent.length = 33) (he' : ent'.length = 33) : (((idxCells s f ent d A n c).toArray.toList.take 2 ++ ent'.toArray.toList ++ (idxCells s f ent d A n c).toArray.toList.drop (2 + ent'.toArray.size)).toArray : Array Value) = (idxCells s f ent' d A n c).toArray := by
  congr 1
  simp only [List.size_toArray, he']
  show List.take 2 ([Value.string s, .bool f] ++ ent ++ cells8 d ++ [.slice A n c]) ++ ent' ++ List.drop 35 ([Value.string s, .bool f] ++ ent ++ cells8 d ++ [.slice A n c]) = [Value.string s, .bool f] ++ ent' ++ cells8 d ++ [.slice A n c]
  have h1 : List.take 2 ([Value.string s, .bool f] ++ ent ++ cells8 d ++ [.slice A n c]) = [Value.string s, .bool f] := rfl
  have h2 : List.drop 35 ([Value.string s, .bool f] ++ ent ++ cells8 d ++ [.slice A n c]) = cells8 d ++ [.slice A n c] := by
    rw [List.append_assoc, List.drop_left' (by simp [he])]
  rw [h1, h2]
  simp
theorem set_bm (he : ent.length = 33) (hd : d.length = 32) (hd' : d'.length = 32) : (((idxCells s f ent d A n c).toArray.toList.take 35 ++ (cells8 d').toArray.toList ++ (idxCells s f ent d A n c).toArray.toList.drop (35 + (cells8 d').toArray.size)).toArray : Array Value) = (idxCells s f ent d' A n c).toArray := by
  congr 1
  simp only [List.size_toArray, cells8_len, hd']
  show List.take 35 ([Value.string s, .bool f] ++ ent ++ cells8 d ++ [.slice A n c]) ++ cells8 d' ++ List.drop 67 ([Value.string s, .bool f] ++ ent ++ cells8 d ++ [.slice A n c]) = [Value.string s, .bool f] ++ ent ++ cells8 d' ++ [.slice A n c]
  have h1 : List.take 35 ([Value.string s, .bool f] ++ ent ++ cells8 d ++ [.slice A n c]) = [Value.string s, .bool f] ++ ent := by
    rw [List.append_assoc, List.take_left' (by simp [he])]
  have h2 : List.drop 67 ([Value.string s, .bool f] ++ ent ++ cells8 d ++ [.slice A n c]) = [.slice A n c] := by
    rw [List.drop_left' (by simp [he, cells8_len, hd])]
  rw [h1, h2]
end
end Go.Proofs.YtgldkfaiofkhbaaDoor.IdxMem

namespace Go.Proofs.YtgldkfaiofkhbaaDoor.IdxBuild
open Go Go.RowKit Go.Proofs.YtgldkfaiofkhbaaDoor Go.Proofs.YtgldkfaiofkhbaaDoor.Mem Go.Proofs.YtgldkfaiofkhbaaDoor.Sha Go.Proofs.YtgldkfaiofkhbaaDoor.Bytes Go.Proofs.YtgldkfaiofkhbaaDoor.StructEq

theorem fold_set : ∀ (xs old pre post : List Value) (k : Nat), pre.length = 1 + k → old.length = xs.length → (xs.zipIdx k).foldl (fun (cs : Array Value) (x : Value × Nat) => cs.setIfInBounds (1 + x.2) x.1) (pre ++ old ++ post).toArray = (pre ++ xs ++ post).toArray
  | [], old, pre, post, k, hp, ho => by
    have : old = [] := List.eq_nil_of_length_eq_zero ho
    subst this
    rfl
  | x :: xs, o :: old, pre, post, k, hp, ho => by
    rw [List.zipIdx_cons, List.foldl_cons]
    have e : ((pre ++ (o :: old) ++ post).toArray).setIfInBounds (1 + k) x = ((pre ++ [x]) ++ old ++ post).toArray := by
      rw [List.setIfInBounds_toArray, List.append_assoc, List.set_append_right _ _ (by omega), hp, Nat.sub_self]
      simp
    show List.foldl _ (Array.setIfInBounds _ (1 + k) x) _ = _
    rw [e, fold_set xs old (pre ++ [x]) post (k + 1) (by rw [List.length_append, List.length_singleton]; omega) (by simpa using ho)]
    simp
  | x :: xs, [], _, _, _, _, ho => by simp at ho
theorem build_ent (xn : Int) (ch : Text) (h : ch.length = 32) : (cells8 ch).zipIdx.foldl (fun (cs : Array Value) (x : Value × Nat) => cs.setIfInBounds (1 + x.2) x.1) #[.int .i64 xn, .int .u8 0, .int .u8 0, .int .u8 0, .int .u8 0, .int .u8 0, .int .u8 0, .int .u8 0, .int .u8 0, .int .u8 0, .int .u8 0, .int .u8 0, .int .u8 0, .int .u8 0, .int .u8 0, .int .u8 0, .int .u8 0, .int .u8 0, .int .u8 0, .int .u8 0, .int .u8 0, .int .u8 0, .int .u8 0, .int .u8 0, .int .u8 0, .int .u8 0, .int .u8 0, .int .u8 0, .int .u8 0, .int .u8 0, .int .u8 0, .int .u8 0, .int .u8 0] = (entC xn ch).toArray := by
  have := fold_set (cells8 ch) (List.replicate 32 (.int .u8 0)) [.int .i64 xn] [] 0 rfl (by rw [List.length_replicate, cells8_len, h])
  rw [List.append_nil, List.append_nil] at this
  exact this
end Go.Proofs.YtgldkfaiofkhbaaDoor.IdxBuild
