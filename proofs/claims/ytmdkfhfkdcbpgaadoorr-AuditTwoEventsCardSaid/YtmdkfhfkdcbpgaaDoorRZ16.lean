/-
  Texts of the claim, put into one file: Guard2.
-/
import Derived.Test.YtmdkfhfkdcbpgaaDoorRZ14
import Derived.Test.YtmdkfhfkdcbpgaaDoorRZ12
import Derived.Test.YtmdkfhfkdcbpgaaDoorRZ4

namespace Go.Proofs.YtmdkfhfkdcbpgaaDoorR.Guard2
open Go Go.RowKit Go.Proofs.YtmdkfhfkdcbpgaaDoorR Go.Proofs.YtmdkfhfkdcbpgaaDoorR.Mem Go.Proofs.YtmdkfhfkdcbpgaaDoorR.Bytes Go.Proofs.YtmdkfhfkdcbpgaaDoorR.Held Go.Proofs.YtmdkfhfkdcbpgaaDoorR.Guard Go.Proofs.YtmdkfhfkdcbpgaaDoorR.Want

theorem wpList_rowW {P : Program} {w : World} {l : List Oper} {ts : List Value} {df : List Deferred} {rest : List Oper} {o : Oper} {Q : Exit → Act → World → Prop} (hgd : wantB o.guard l ts = true) (ty : TypeId) (x : Operand) (ho : o.op = .load ty x)
    (g : Nat) (hx : (Act.mk ts.toArray df).eval x = .pointer (some ⟨g, 0, none⟩)) (t : TypeId) (cs : Array Value) (fr : Nat × Nat) (d : TypeDesc) (hg : w.heap[g]? = some (.cells cs t fr))
    (hu : P.underlying ty = some d) (hd : (match d with | .struct _ | .array _ _ => true | _ => false) = true) (hi : (P.info? ty).map (·.size) = some cs.size)
    (h : wpList P l.toArray Q rest ((Act.mk ts.toArray df).put o.dst (.agg cs)) w) : Veil (wpList P l.toArray Q (o :: rest) ⟨ts.toArray, df⟩ w) :=
  ⟨wpList_load_rowG (want hgd) ty x ho g hx t cs fr d hg hu hd hi h⟩
theorem wpList_partW {P : Program} {w : World} {l : List Oper} {ts : List Value} {df : List Deferred} {rest : List Oper} {o : Oper} {Q : Exit → Act → World → Prop} (hgd : wantB o.guard l ts = true) (ty : TypeId) (x : Operand) (ho : o.op = .load ty x)
    (g i : Nat) (hx : (Act.mk ts.toArray df).eval x = .pointer (some ⟨g, i, none⟩)) (xs : List Value) (d : TypeDesc) (hc : ∀ j v, xs[j]? = some v → w.cell? ⟨g, i + j, none⟩ = some v)
    (hu : P.underlying ty = some d) (hd : (match d with | .struct _ | .array _ _ => true | _ => false) = true) (hi : (P.info? ty).map (·.size) = some xs.length)
    (h : wpList P l.toArray Q rest ((Act.mk ts.toArray df).put o.dst (.agg xs.toArray)) w) : Veil (wpList P l.toArray Q (o :: rest) ⟨ts.toArray, df⟩ w) :=
  ⟨wpList_load_partG (want hgd) ty x ho g i hx xs d hc hu hd hi h⟩
theorem wpList_appendW {P : Program} (w : World) {l : List Oper} {ts : List Value} {df : List Deferred} {rest : List Oper} {o : Oper} {Q : Exit → Act → World → Prop} (hgd : wantB o.guard l ts = true) (s x : Operand) (t : TypeId)
    (ho : o.op = .call { callee := .builtin .append, args := #[s, x], argTypes := #[t, t] })
    (base : Nat) (e : TypeId) (i : TypeInfo) (z : Value) (size bytes : Nat) (ht : P.underlying t = some (.slice e)) (hi : P.info? e = some i) (hz : i.zero = some z)
    (hsize : i.size = size) (hby : i.bytes = bytes) (hzs : z.cells.size = size) (hsz : 0 < size)
    (v : Value) (n : Nat) (xs : List Value) (hs : (Act.mk ts.toArray df).eval s = v) (hown : w.ownsRow base e size v n xs)
    (A : Option Addr) (m c : Nat) (news : List Value) (hx : (Act.mk ts.toArray df).eval x = .slice A m c) (hr : Reads w size A m news) (hnil : A = none → m = 0 ∧ c = 0) (h1 : ∀ u ∈ news, u.oneCell' = true)
    (h63 : n + m ≤ maxLen) (hbytes : (n + m) * bytes ≤ 140737488355328) (hbase : base ≤ w.heap.size)
    (h : ∀ v' w', Append.Grew w base e size v n m xs news v' w' → wpList P l.toArray Q rest ((Act.mk ts.toArray df).put o.dst v') w') : Veil (wpList P l.toArray Q (o :: rest) ⟨ts.toArray, df⟩ w) :=
  ⟨BigFrame.wpList_want (want hgd) fun _ hK => Append.wp_append_src w s x t ho base e i z size bytes ht hi hz hsize hby hzs hsz v n xs hs hown A m c news hx hr hnil h1 h63 hbytes hbase fun v' w' h2 => hK _ _ (h v' w' h2)⟩
end Go.Proofs.YtmdkfhfkdcbpgaaDoorR.Guard2
