/-
  Texts of the claim, put into one file: Told, Spelt.
-/
import Derived.Test.YtgldkfaiofkhbaaDoorZ32
import Derived.Test.YtgldkfaiofkhbaaDoorZ18
import Derived.Test.YtgldkfaiofkhbaaDoorZ28
import Derived.Test.YtgldkfaiofkhbaaDoorZ15
import Derived.Test.YtgldkfaiofkhbaaDoorZ29
import Derived.Test.YtgldkfaiofkhbaaDoorZ4

namespace Go.Proofs.YtgldkfaiofkhbaaDoor.Told
open Go Go.RowKit Go.Proofs.YtgldkfaiofkhbaaDoor Go.Proofs.YtgldkfaiofkhbaaDoor.Digest Go.Proofs.YtgldkfaiofkhbaaDoor.Mem Go.Proofs.YtgldkfaiofkhbaaDoor.Sha Go.Proofs.YtgldkfaiofkhbaaDoor.ShaWalk Go.Proofs.YtgldkfaiofkhbaaDoor.Bytes Go.Proofs.YtgldkfaiofkhbaaDoor.HashMem Go.Proofs.YtgldkfaiofkhbaaDoor.DigestMem Go.Proofs.YtgldkfaiofkhbaaDoor.DigestTop Go.Proofs.YtgldkfaiofkhbaaDoor.RefTop Go.Proofs.YtgldkfaiofkhbaaDoor.QuietTail Go.Proofs.YtgldkfaiofkhbaaDoor.Grown Go.Proofs.YtgldkfaiofkhbaaDoor.Chain Go.Proofs.YtgldkfaiofkhbaaDoor.TreeMath Go.Proofs.YtgldkfaiofkhbaaDoor.TreeMem Go.Proofs.YtgldkfaiofkhbaaDoor.TreeRoot Go.Proofs.YtgldkfaiofkhbaaDoor.Append Go.Proofs.YtgldkfaiofkhbaaDoor.Book Go.Proofs.YtgldkfaiofkhbaaDoor.Held Go.Proofs.YtgldkfaiofkhbaaDoor.RefOf Go.Proofs.YtgldkfaiofkhbaaDoor.Want Go.Proofs.YtgldkfaiofkhbaaDoor.WayP Go.Proofs.YtgldkfaiofkhbaaDoor.AskP Go.Proofs.YtgldkfaiofkhbaaDoor.Octet Go.Proofs.YtgldkfaiofkhbaaDoor.Octet2 Go.Proofs.YtgldkfaiofkhbaaDoor.Own Go.Proofs.YtgldkfaiofkhbaaDoor.Ref17 Go.Proofs.YtgldkfaiofkhbaaDoor.Eight

/-- A function value that tells of the spots of a size. -/
def AtF (dg : Nat × Nat → Text) (size : Nat) (w : World) (v : Value) : Prop :=
  ∃ (F : FuncId) (fn : Func) (first cap : Array Value), v = .func (.func F) first cap ∧ Tryd.prog.funcs[F]? = some fn ∧ (fn.name == "runtime.NumGoroutine") = false ∧ fn.body.isNone = false ∧
    ∀ w', Below w.heap.size w w' → ∀ p : Nat × Nat, p.1 ≤ 40 → (p.2 + 1) * 2 ^ p.1 ≤ size → Calls Tryd.prog F (first ++ #[.agg (pcells p).toArray] ++ cap) w' fun e w'' => e = .returned (.agg (cells8 (dg p)).toArray) ∧ Below w'.heap.size w' w''
theorem AtF.below {dg : Nat × Nat → Text} {size : Nat} {w w' : World} {v : Value} (h : AtF dg size w v) (hb : Below w.heap.size w w') : AtF dg size w' v := by
  obtain ⟨F, fn, first, cap, h1, h2, h3, h4, h5⟩ := h
  exact ⟨F, fn, first, cap, h1, h2, h3, h4, fun w2 hb2 => h5 w2 (hb.trans (hb2.mono hb.size))⟩

end Go.Proofs.YtgldkfaiofkhbaaDoor.Told

namespace Go.Proofs.YtgldkfaiofkhbaaDoor.Spelt
open Go Go.RowKit Go.Proofs.YtgldkfaiofkhbaaDoor Go.Proofs.YtgldkfaiofkhbaaDoor.Mem Go.Proofs.YtgldkfaiofkhbaaDoor.Sha Go.Proofs.YtgldkfaiofkhbaaDoor.Bytes Go.Proofs.YtgldkfaiofkhbaaDoor.Append Go.Proofs.YtgldkfaiofkhbaaDoor.Grown Go.Proofs.YtgldkfaiofkhbaaDoor.Held Go.Proofs.YtgldkfaiofkhbaaDoor.Own Go.Proofs.YtgldkfaiofkhbaaDoor.Book Go.Proofs.YtgldkfaiofkhbaaDoor.Same8 Go.Proofs.YtgldkfaiofkhbaaDoor.Octet

theorem infoU8 : (Tryd.prog.info? 5).map (fun i => (i.zero, i.size, i.bytes)) = some (some (.int .u8 0), 1, 1) := by kernel_rfl
theorem same_yes (q : Text) (k : Nat) (hk : q.length = k) (h47 : k < 140737488355328) (A B : Option Addr) (c d : Nat) (w : World) (ha : Reads w 1 A k (cells8 q)) (hb : Reads w 1 B k (cells8 q)) : Calls Tryd.prog 36 #[.slice A k c, .slice B k d] w fun e w' => e = .returned (.bool true) ∧ Below w.heap.size w w' :=
  (same8_any q q k k hk hk (by omega) A B c d w ha hb).mono fun e w' ⟨he, n, hw⟩ => ⟨by rw [he]; simp, by rw [hw]; exact below_drawn (Below.refl _ _) n⟩

end Go.Proofs.YtgldkfaiofkhbaaDoor.Spelt
