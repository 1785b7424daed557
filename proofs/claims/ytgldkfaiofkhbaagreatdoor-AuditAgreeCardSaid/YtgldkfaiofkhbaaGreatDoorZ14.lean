/-
  Texts of the claim, put into one file: Compare.
-/
import Derived.Test.YtgldkfaiofkhbaaGreatDoorZ1
import Derived.Test.YtgldkfaiofkhbaaGreatDoorZ10
import Derived.Lib.BytesEntry
import Derived.Laws.Externs
import Derived.Lib.Hide
import Derived.Outline
import Derived.WalkLawsBesides
import Derived.StillTailTactics
import Derived.OwnWalk
import Derived.IntWalk

namespace Go.Proofs.YtgldkfaiofkhbaaGreatDoor.Compare
open Go Go.RowKit Go.Proofs.YtgldkfaiofkhbaaGreatDoor Mem Sha Bytes SortP

def cmpT (p q : Text) : Int := if lex p q = true then -1 else if lex q p = true then 1 else 0
theorem b8_byte (a : BitVec 8) : ((b8 a).toNat.toUInt8).toNat = a.toNat := by
 have := a.isLt
 unfold b8
 simp
theorem cmp_lists : ∀ p q : Text, Lib.compareBytes (Lib.bytesOf (p.map b8)) (Lib.bytesOf (q.map b8)) = cmpT p q
 | [], [] => rfl
 | [], _ :: _ => rfl
 | _ :: _, [] => rfl
 | a :: p, b :: q => by
  have ih := cmp_lists p q
  have e : ∀ (x : BitVec 8) (l : Text), Lib.bytesOf ((x :: l).map b8) = (b8 x).toNat.toUInt8 :: Lib.bytesOf (l.map b8) := fun x l => rfl
  rw [e, e]
  unfold Lib.compareBytes cmpT
  have l1 : ((b8 a).toNat.toUInt8 < (b8 b).toNat.toUInt8) = (a.toNat < b.toNat) := by rw [UInt8.lt_iff_toNat_lt, b8_byte, b8_byte]
  have l2 : ((b8 b).toNat.toUInt8 < (b8 a).toNat.toUInt8) = (b.toNat < a.toNat) := by rw [UInt8.lt_iff_toNat_lt, b8_byte, b8_byte]
  simp only [l1, l2]
  unfold lex
  by_cases h1 : a.toNat < b.toNat
  ·simp [h1]
  ·by_cases h2 : b.toNat < a.toNat
   ·simp [h1, h2]
   ·simp only [h1, h2, if_false]
    rw [ih]
    rfl
theorem run_bytesOf {P : Program} {w : World} {A : Option Addr} {n c : Nat} {q : Text} (h : Reads w 1 A n (cells8 q)) (hk : q.length = n) :
  (Extern.Bytes.bytesOf (.slice A n c)).run P w = .ok ⟨(Lib.bytesOf (q.map b8)).toArray⟩ w := by
 subst hk
 cases A with
 | none =>
  have h0 : q.length = 0 := by
   rcases Nat.eq_zero_or_pos q.length with h0 | h0
   ·exact h0
   ·obtain ⟨b, o, e, -⟩ := h.at_ (by omega)
    cases e
  have : q = [] := List.eq_nil_of_length_eq_zero h0
  subst this
  rfl
 | some a =>
  have hl := Lib.run_loadBytesX (P := P) w (q.map b8) a .empty (fun j x hj => by
   have hjl : j < q.length := by
    have := (List.getElem?_eq_some_iff.1 hj).1
    simpa using this
   obtain ⟨b, o, e, hb, hc⟩ := h.at_ (by omega)
   obtain rfl := Option.some.inj e
   rw [add_at, hc j _ (cells8_at q j hjl)]
   rw [List.getElem?_map, List.getElem?_eq_getElem hjl] at hj
   have hx : b8 q[j] = x := Option.some.inj hj
   rw [← hx, List.getD_eq_getElem?_getD, List.getElem?_eq_getElem hjl]
   rfl)
  rw [List.length_map] at hl
  have he : (⟨ByteArray.empty.data ++ (Lib.bytesOf (q.map b8)).toArray⟩ : ByteArray) = ⟨(Lib.bytesOf (q.map b8)).toArray⟩ := by
   apply ByteArray.ext
   show (#[] : Array UInt8) ++ (Lib.bytesOf (q.map b8)).toArray = _
   simp
  rw [he] at hl
  exact hl
theorem run_compare {P : Program} {w : World} {A B : Option Addr} {n m c d : Nat} {p q : Text} (hp : Reads w 1 A n (cells8 p)) (hpn : p.length = n) (hq : Reads w 1 B m (cells8 q)) (hqm : q.length = m) :
  (Extern.BytealgCompare.compare #[.slice A n c, .slice B m d]).run P w = .ok (.int .i64 (cmpT p q)) w := by
 change Sem.run P (do pure (goInt (Extern.BytealgCompare.cmp (← Extern.Bytes.bytesOf (.slice A n c)) (← Extern.Bytes.bytesOf (.slice B m d))))) w = _
 simp only [Sem.run_bind, Sem.run_pure, Result.andThen, run_bytesOf hp hpn, run_bytesOf hq hqm]
 rw [Lib.cmp_eq]
 show Result.ok (Value.int .i64 (Lib.compareBytes (Lib.bytesOf (p.map b8)) (Lib.bytesOf (q.map b8)))) w = _
 rw [cmp_lists]
set_option maxRecDepth 100000 in
set_option maxHeartbeats 1000000 in
theorem compare_any (p q : Text) (n m : Nat) (hpn : p.length = n) (hqm : q.length = m) (A B : Option Addr) (c d : Nat) (w : World) (hp : Reads w 1 A n (cells8 p)) (hq : Reads w 1 B m (cells8 q)) :
  Calls Tryz.prog 63 #[.slice A n c, .slice B m d] w fun e w' => e = .returned (.int .i64 (cmpT p q)) ∧ w' = w := by
 replace hp := Lib.hid hp
 replace hq := Lib.hid hq
 replace hpn := Lib.hid hpn
 replace hqm := Lib.hid hqm
 go_enter Tryz.func63, Tryz.ntmps63
 go_wp2
 rw [run_callFunc_extern Tryz.func122 (by kernel_rfl) (by kernel_rfl) (by kernel_rfl) (e := Extern.BytealgCompare.compare) (by kernel_rfl), run_compare hp.out hpn.out hq.out hqm.out]
 simp only [Result.andThen]
 rw [Oper.upon_value]
 go_wp2
 go_ret
 exact ⟨rfl, rfl⟩
end Go.Proofs.YtgldkfaiofkhbaaGreatDoor.Compare
