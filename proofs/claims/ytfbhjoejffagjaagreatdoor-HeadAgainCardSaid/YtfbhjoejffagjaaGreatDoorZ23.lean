/-
  Texts of the claim, put into one file: Sign.
-/
import Derived.Test.YtfbhjoejffagjaaGreatDoorZ20
import Derived.Test.YtfbhjoejffagjaaGreatDoorZ15
import Derived.Test.YtfbhjoejffagjaaGreatDoorZ21
import Derived.Great.FillDense

namespace Go.Proofs.YtfbhjoejffagjaaGreatDoor.Sign
open Go Go.RowKit Go.Proofs.YtfbhjoejffagjaaGreatDoor Mem Sha Bytes DigestMem Digest Mac HeadMem HeadID

def signOf (h : HeadD) (q : Text) : Text := idOf q ++ macOf q (headBytes h)
theorem signOf_len (h : HeadD) (q : Text) : (signOf h q).length = 64 := by unfold signOf; rw [List.length_append, idOf_len, macOf_len]
theorem sign_fill (z : Array Value) (hz : z.size = 64) (xs ys : List Value) (hx : xs.length = 32) (hy : ys.length = 32) :
  Instr.fill (#[((0 : Nat), (32 : Nat)), (32, 32)][·]?) z [(0, .agg xs.toArray), (1, .agg ys.toArray)] = some (xs ++ ys).toArray := by
 have h := Great.fill_whole (s := 32) (by omega) [.agg xs.toArray, .agg ys.toArray] z (fun v hv => by
  rcases List.mem_cons.1 hv with rfl | hv
  ·exact hx
  ·rcases List.mem_cons.1 hv with rfl | hv
   ·exact hy
   ·cases hv) (by rw [hz]; rfl)
 have e : ([Value.agg xs.toArray, .agg ys.toArray].flatMap fun v => v.cells.toList) = xs ++ ys := by
  simp [Value.cells]
 rw [e] at h
 exact h
theorem built_any (parts : List (Nat × Value)) : Tryz.prog.built 56 parts = Instr.fill (#[((0 : Nat), (32 : Nat)), (32, 32)][·]?) (Array.replicate 64 (.int .u8 0)) parts := by kernel_rfl
theorem built_sign (xs ys : List Value) (hx : xs.length = 32) (hy : ys.length = 32) : Tryz.prog.built 56 [(0, .agg xs.toArray), (1, .agg ys.toArray)] = some (xs ++ ys).toArray := by
 have h := sign_fill (Array.replicate 64 (.int .u8 0)) (by simp) xs ys hx hy
 rw [built_any]
 exact h
theorem run_sign (h : HeadD) (q : Text) (w : World) : (Instr.build 56 #[(0, .agg (cells8 (idOf q)).toArray), (1, .agg (cells8 (macOf q (headBytes h))).toArray)]).run Tryz.prog w = .ok (.agg (cells8 (signOf h q)).toArray) w := by
 have e : cells8 (signOf h q) = cells8 (idOf q) ++ cells8 (macOf q (headBytes h)) := by simp [signOf, cells8]
 rw [e]
 exact run_build w _ _ _ (built_sign _ _ (by rw [cells8_len, idOf_len]) (by rw [cells8_len, macOf_len]))
theorem size64 : (Tryz.prog.info? 56).map (·.size) = some 64 := by kernel_rfl
theorem sign_size (x : Text) (hx : x.length = 64) : (Tryz.prog.info? 56).map (·.size) = some (cells8 x).toArray.size := size64.trans (congrArg some (by simp [cells8_len, hx]))
theorem sign_one (x : Text) : (cells8 x).toArray.all (fun v => v.oneCell') = true := dig_one x
theorem sign_zero (x : Text) (hx : x.length = 64) : (Z64 : Array Value).size = (cells8 x).toArray.size := by simp [cells8_len, hx, Z64]
end Go.Proofs.YtfbhjoejffagjaaGreatDoor.Sign
