/-
  Texts of the claim, put into one file: Row, Row2.
-/
import Derived.Test.YtgldkfaiofkhbaaDoorZ2
import Derived.Test.YtgldkfaiofkhbaaDoorZ3
import Derived.Carry
import Derived.ChangeSame
import Derived.SizedLaws
import Derived.Deep.Slices
import Derived.Deep.DeepHandedRow

namespace Go.Proofs.YtgldkfaiofkhbaaDoor.Row
open Go Go.RowKit Go.ChangeShapes Go.WideShapes Go.Proofs.YtgldkfaiofkhbaaDoor Go.Proofs.YtgldkfaiofkhbaaDoor.Mem Go.Proofs.YtgldkfaiofkhbaaDoor.Sha Go.Proofs.YtgldkfaiofkhbaaDoor.Bytes

/-- A cell's kind. -/
inductive CK where
  | int (k : IntKind)
  | bool
  deriving DecidableEq

def fits : CK → Value → Prop
  | .int k, v => ∃ n, v = .int k n ∧ (Lit.int k n).wf = true
  | .bool, v => ∃ b, v = .bool b

/-- The kinds of a flat type's cells; the second: of a struct's fields from a place on. -/
def reps (m : Nat) (l : List CK) : List CK := (List.range m).flatMap fun _ => l

def flat (P : Program) : Nat → TypeId → Option (List CK)
  | 0, _ => none
  | n + 1, t => match P.underlying t with
    | some .bool => some [.bool]
    | some (.int k) => some [.int k]
    | some (.array m e) => match flat P n e with
      | some l => if P.cellsOf e = l.length ∧ P.cellsOf t = m * l.length then some (reps m l) else none
      | none => none
    | some (.struct fs) => match (fs.toList.foldl (fun (acc : Option (List CK)) f => match acc, flat P n f.type with
        | some l, some k => if f.offset = l.length ∧ P.cellsOf f.type = k.length then some (l ++ k) else none
        | _, _ => none) (some [])) with
      | some l => if P.cellsOf t = l.length then some l else none
      | none => none
    | _ => none

def Fits : List CK → List Value → Prop
  | [], [] => True
  | k :: ks, v :: vs => fits k v ∧ Fits ks vs
  | _, _ => False

theorem Fits.length : ∀ {ks : List CK} {vs : List Value}, Fits ks vs → vs.length = ks.length
  | [], [], _ => rfl
  | _ :: _, _ :: _, h => by simp [Fits.length h.2]
theorem Fits.append : ∀ {ks : List CK} {vs : List Value} {ks' : List CK} {vs' : List Value}, Fits ks vs → Fits ks' vs' → Fits (ks ++ ks') (vs ++ vs')
  | [], [], _, _, _, h' => h'
  | _ :: _, _ :: _, _, _, h, h' => ⟨h.1, Fits.append h.2 h'⟩
theorem Fits.split : ∀ {ks ks' : List CK} {vs : List Value}, Fits (ks ++ ks') vs → Fits ks (vs.take ks.length) ∧ Fits ks' (vs.drop ks.length)
  | [], _, _, h => ⟨trivial, by simpa using h⟩
  | _ :: ks, ks', v :: vs, h => by
    have := Fits.split (ks := ks) (ks' := ks') h.2
    exact ⟨⟨h.1, by simpa using this.1⟩, by simpa using this.2⟩
theorem Fits.at_ : ∀ {ks : List CK} {vs : List Value} (i : Nat) (k : CK), Fits ks vs → ks[i]? = some k → ∃ v, vs[i]? = some v ∧ fits k v
  | k0 :: ks, v :: vs, 0, k, h, hk => by simp at hk; subst hk; exact ⟨v, rfl, h.1⟩
  | _ :: ks, _ :: vs, i + 1, k, h, hk => by
    obtain ⟨v, hv, hf⟩ := Fits.at_ i k h.2 (by simpa using hk)
    exact ⟨v, by simpa using hv, hf⟩
theorem fits_one {k : CK} {v : Value} (h : fits k v) : v.oneCell' = true := by
  cases k with
  | int k => obtain ⟨n, rfl, _⟩ := h; rfl
  | bool => obtain ⟨b, rfl⟩ := h; rfl
theorem Fits.one : ∀ {ks : List CK} {vs : List Value}, Fits ks vs → ∀ v ∈ vs, v.oneCell' = true
  | [], [], _, _, h => by simp at h
  | _ :: _, _ :: _, h, v, hv => by
    rcases List.mem_cons.1 hv with rfl | hv
    · exact fits_one h.1
    · exact Fits.one h.2 v hv
theorem reps_succ (m : Nat) (l : List CK) : reps (m + 1) l = reps m l ++ l := by simp [reps, List.range_succ]
theorem reps_len (m : Nat) (l : List CK) : (reps m l).length = m * l.length := by
  induction m with
  | zero => simp [reps]
  | succ m ih => rw [reps_succ, List.length_append, ih, Nat.succ_mul]

/-- m rows of one length, each of which fits. -/
theorem Fits.rows {l : List CK} {cs : List Value} : ∀ m, m * l.length ≤ cs.length → (∀ i, i < m → Fits l ((cs.drop (i * l.length)).take l.length)) → Fits (reps m l) (cs.take (m * l.length))
  | 0, _, _ => by simp [reps, Fits]
  | m + 1, hm, h => by
    have hm' : m * l.length + l.length ≤ cs.length := by rw [← Nat.succ_mul]; exact hm
    have a := Fits.rows (l := l) (cs := cs) m (by omega) (fun i hi => h i (by omega))
    have b := h m (by omega)
    rw [reps_succ, Nat.succ_mul, List.take_add]
    exact a.append b

section
variable {H : Type} {enc : TypeId × Value → H} {P : Program} {w : World} {base : Nat} {spare : Nat → Bool} {held : Bool}

theorem trod_array {t e : TypeId} {m fuel : Nat} {cs : List Value} {x : DataW H × List MemPlace} (ht : P.underlying t = some (.array m e)) (h : DataW.trod enc P w base spare held fuel t cs = some x) :
    ∃ n, fuel = n + 1 ∧ cs.length = P.cellsOf t ∧ ∀ i, i < m → ∃ y, DataW.trod enc P w base spare held n e ((cs.drop (i * P.cellsOf e)).take (P.cellsOf e)) = some y := by
  cases fuel with
  | zero => simp [DataW.trod] at h
  | succ n =>
    unfold DataW.trod at h
    rw [ht] at h
    split at h <;> simp_all
    obtain ⟨hl, h⟩ := h
    obtain ⟨xs, hp, _⟩ := h
    have hlen := mapM_some_length hp
    refine fun i hi => ?_
    have hget := mapM_some_get hp i i (by simp [hi])
    have hi' : i < xs.length := by simp at hlen; omega
    rw [List.getElem?_eq_getElem hi'] at hget
    exact ⟨_, _, hget⟩

theorem flat_fits : ∀ (n : Nat) (t : TypeId) (ks : List CK) (fuel : Nat) (cs : List Value) (x : DataW H × List MemPlace), flat P n t = some ks → DataW.trod enc P w base spare held fuel t cs = some x → Fits ks cs
  | 0, _, _, _, _, _, h, _ => by simp [flat] at h
  | n + 1, t, ks, fuel, cs, x, h, ht => by
    unfold flat at h
    split at h
    · rename_i hu
      obtain ⟨b, rfl, _⟩ := DataW.trod_bool hu ht
      obtain rfl : [CK.bool] = ks := by simpa using h
      exact ⟨⟨b, rfl⟩, trivial⟩
    · rename_i k hu
      obtain ⟨v, rfl, _, hw⟩ := DataW.trod_int hu ht
      obtain rfl : [CK.int k] = ks := by simpa using h
      exact ⟨⟨v, rfl, hw⟩, trivial⟩
    · rename_i m e hu
      split at h
      · rename_i l hl
        split at h
        · rename_i hc
          obtain rfl : reps m l = ks := by simpa using h
          obtain ⟨f, _, hlen, hx⟩ := trod_array hu ht
          rw [hc.1] at hx
          rw [hc.2] at hlen
          have hr := Fits.rows (l := l) (cs := cs) m (by omega) (fun i hi => by
            obtain ⟨y, hy⟩ := hx i hi
            exact flat_fits n e l _ _ _ hl hy)
          rwa [List.take_of_length_le (by omega)] at hr
        · cases h
      · cases h
    · rename_i fs hu
      split at h
      · rename_i l hl
        split at h
        · rename_i hc
          obtain rfl : l = ks := by simpa using h
          obtain ⟨xs, n', _, _, hlen, _, hg⟩ := DataW.trod_struct hu ht
          have hg' : ∀ f ∈ fs.toList, ∃ y, DataW.trod enc P w base spare held n' f.type ((cs.drop f.offset).take (P.cellsOf f.type)) = some y := by
            intro f hf
            obtain ⟨i, hi, he⟩ := List.getElem_of_mem hf
            have h1 := hg i f (by rw [← he]; simp [Array.getElem?_eq_getElem (show i < fs.size by simpa using hi)])
            have h2 : i < xs.length := by
              have : xs.length = fs.size := by assumption
              rw [this]; simpa using hi
            rw [List.getElem?_eq_getElem h2] at h1
            exact ⟨_, h1⟩
          have key : ∀ (L : List Field) (acc l : List CK), (∀ f ∈ L, ∃ y, DataW.trod enc P w base spare held n' f.type ((cs.drop f.offset).take (P.cellsOf f.type)) = some y) →
              Fits acc (cs.take acc.length) → L.foldl (fun (acc : Option (List CK)) f => match acc, flat P n f.type with
                | some l, some k => if f.offset = l.length ∧ P.cellsOf f.type = k.length then some (l ++ k) else none
                | _, _ => none) (some acc) = some l → Fits l (cs.take l.length) := by
            intro L
            induction L with
            | nil =>
              intro acc l _ ha hl
              obtain rfl : acc = l := by simpa using hl
              exact ha
            | cons f L ih =>
              intro acc l hL ha hl
              rw [List.foldl_cons] at hl
              cases hk : flat P n f.type with
              | none =>
                exfalso
                simp only [hk] at hl
                have : ∀ L : List Field, L.foldl (fun (acc : Option (List CK)) f => match acc, flat P n f.type with
                  | some l, some k => if f.offset = l.length ∧ P.cellsOf f.type = k.length then some (l ++ k) else none
                  | _, _ => none) none = none := by
                  intro L; induction L with
                  | nil => rfl
                  | cons _ _ ih => rw [List.foldl_cons]; exact ih
                rw [this] at hl
                cases hl
              | some k =>
                simp only [hk] at hl
                by_cases hc' : f.offset = acc.length ∧ P.cellsOf f.type = k.length
                · rw [if_pos hc'] at hl
                  obtain ⟨y, hy⟩ := hL f (by simp)
                  rw [hc'.1, hc'.2] at hy
                  have hf := flat_fits n f.type k _ _ _ hk hy
                  refine ih (acc ++ k) l (fun g hgm => hL g (by simp [hgm])) ?_ hl
                  rw [List.length_append, List.take_add]
                  exact ha.append hf
                · rw [if_neg hc'] at hl
                  exfalso
                  have : ∀ L : List Field, L.foldl (fun (acc : Option (List CK)) f => match acc, flat P n f.type with
                    | some l, some k => if f.offset = l.length ∧ P.cellsOf f.type = k.length then some (l ++ k) else none
                    | _, _ => none) none = none := by
                    intro L; induction L with
                    | nil => rfl
                    | cons _ _ ih => rw [List.foldl_cons]; exact ih
                  rw [this] at hl
                  cases hl
          have := key fs.toList [] l hg' (by simp [Fits]) hl
          rwa [List.take_of_length_le (by rw [hlen, hc]; exact Nat.le_refl _)] at this
        · cases h
      · cases h
    · cases h

/-- Cells that are all bytes: a text. -/
theorem fits_bytes : ∀ (m : Nat) (cs : List Value), Fits (reps m [.int .u8]) cs → ∃ q : Text, q.length = m ∧ cs = cells8 q
  | 0, cs, h => by
    have := h.length
    rw [reps_len] at this
    obtain rfl : cs = [] := List.eq_nil_of_length_eq_zero (by simpa using this)
    exact ⟨[], rfl, rfl⟩
  | m + 1, cs, h => by
    have hl := h.length
    rw [reps_len] at hl
    rw [reps_succ] at h
    obtain ⟨h1, h2⟩ := h.split
    rw [reps_len] at h1 h2
    simp only [List.length_singleton, Nat.mul_one] at h1 h2 hl
    obtain ⟨q, hq, he⟩ := fits_bytes m _ h1
    have hd : cs.drop m = [cs[m]'(by omega)] := by
      rw [List.drop_eq_getElem_cons (by omega), List.drop_of_length_le (by omega)]
    rw [hd] at h2
    obtain ⟨n, hn, hw⟩ := h2.1
    have hb : 0 ≤ n ∧ n ≤ 255 := by simpa [Lit.wf, IntKind.min, IntKind.max, IntKind.signed, IntKind.bits] using hw
    refine ⟨q ++ [BitVec.ofNat 8 n.toNat], by simp [hq], ?_⟩
    have : cs = cs.take m ++ cs.drop m := (List.take_append_drop m cs).symm
    rw [this, he, hd, hn]
    have hx : b8 (BitVec.ofNat 8 n.toNat) = n := by
      unfold b8
      rw [BitVec.toNat_ofNat]
      omega
    simp [cells8, cell8, hx]

/-- An array argument: its cells. -/
theorem okWide_array {r : Reach} {b0 : Nat} {t e : TypeId} {m : Nat} {v : Value} (ht : P.underlying t = some (.array m e)) (h : Value.okWide P w r b0 t v) : ∃ cs, v = .agg cs ∧ cs.size = P.cellsOf t := by
  simp only [Value.okWide, ht] at h
  obtain ⟨cs, h1, h2, _⟩ := h
  exact ⟨cs, h1, h2⟩

/-- A flat slice: what it reads as. 'ks': its element's cells. -/
theorem open_flat {t e : TypeId} {ks : List CK} {N fuel : Nat} {cs : List Value} {x : DataW H × List MemPlace} (ht : P.underlying t = some (.slice e)) (hf : flat P N e = some ks) (hc : P.cellsOf e = ks.length) (h : DataW.trod enc P w base spare held fuel t cs = some x) :
    ∃ A n c xs, cs = [.slice A n c] ∧ n ≤ c ∧ c ≤ maxLen ∧ (A = none → n = 0 ∧ c = 0) ∧ Fits (reps n ks) xs ∧ Reads w ks.length A n xs ∧
      ((A = none ∧ x = (.nil, [])) ∨ ∃ a elems rest, A = some a ∧ x.1 = .slice elems rest ∧ elems.length = n ∧ rest.length = (if spare a.block then c else n) - n) := by
  rcases Go.Deep.open_slice ht h with ⟨rfl, rfl⟩ | ⟨a, len, cap, m, n, D, Pl, rfl, hb, hl, hm, hmm, rfl, hi⟩
  · exact ⟨none, 0, 0, [], rfl, Nat.le_refl _, by simp [maxLen], fun _ => ⟨rfl, rfl⟩, trivial, ⟨by simp, fun h => absurd h (by simp)⟩, .inl ⟨rfl, rfl⟩⟩
  · have hle : len ≤ m := by rw [hmm]; split <;> omega
    rw [hc] at hi
    obtain ⟨V, hV⟩ := Go.Deep.choose_lt (α := List Value) (p := fun i cs' => w.cells? base (a.add (i * ks.length)) ks.length = some cs' ∧ Fits ks cs') (fun i hi' => by
      obtain ⟨cs', h1, h2⟩ := hi i hi'
      exact ⟨cs', h1, flat_fits N e ks _ _ _ hf h2⟩)
    have hvl : ∀ i, i < m → (V i).length = ks.length := fun i hi' => (hV i hi').2.length
    have hxs : ∀ k, k ≤ m → Fits (reps k ks) ((List.range k).flatMap V) ∧ ((List.range k).flatMap V).length = k * ks.length := by
      intro k
      induction k with
      | zero => intro _; exact ⟨trivial, by simp⟩
      | succ k ih =>
        intro hk
        obtain ⟨h1, h2⟩ := ih (by omega)
        rw [reps_succ, List.range_succ, List.flatMap_append]
        simp only [List.flatMap_cons, List.flatMap_nil, List.append_nil]
        exact ⟨h1.append (hV k (by omega)).2, by rw [List.length_append, h2, hvl k (by omega), Nat.succ_mul]⟩
    have hget : ∀ k, k ≤ m → ∀ j u, ((List.range k).flatMap V)[j]? = some u → w.cell? (a.add j) = some u := by
      intro k
      induction k with
      | zero => intro _ j u hu; simp at hu
      | succ k ih =>
        intro hk j u hu
        rw [List.range_succ, List.flatMap_append] at hu
        simp only [List.flatMap_cons, List.flatMap_nil, List.append_nil] at hu
        have hlk := (hxs k (by omega)).2
        by_cases hj : j < k * ks.length
        · rw [List.getElem?_append_left (by omega)] at hu
          exact ih (by omega) j u hu
        · rw [List.getElem?_append_right (by omega), hlk] at hu
          obtain ⟨_, hl1, hat⟩ := World.cells?_some (hV k (by omega)).1
          have hjl : j - k * ks.length < ks.length := by
            have := (List.getElem?_eq_some_iff.1 hu).1
            rw [hvl k (by omega)] at this
            exact this
          have := hat (j - k * ks.length) hjl
          rw [Go.Deep.add_add, show k * ks.length + (j - k * ks.length) = j by omega] at this
          rw [this, hu]
    refine ⟨some a, len, cap, (List.range len).flatMap V, rfl, hl, hm, (fun h => by cases h), (hxs len hle).1, ⟨(hxs len hle).2, fun hn => ?_⟩, .inr ⟨a, _, _, rfl, rfl, by simp, by simp [hmm]⟩⟩
    have hx0 := hget len hle 0
    have hl0 := (hxs len hle).2
    have hu : ((List.range len).flatMap V)[0]? = some (((List.range len).flatMap V)[0]'(by omega)) := List.getElem?_eq_getElem (by omega)
    have hcell := hx0 _ hu
    obtain ⟨b, off, spot⟩ := a
    have hspot : spot = none := by simpa [Addr.add] using World.cell?_spot hcell
    subst hspot
    refine ⟨b, off, rfl, ?_, fun j u hu' => ?_⟩
    · have := World.block_lt_of_cell? w _ hcell
      simpa [add_at] using this
    · have := hget len hle j u hu'
      rwa [add_at] at this
end

section
variable {H : Type} {enc : TypeId × Value → H} {P : Program} {w : World} {base : Nat} {held : Bool}

/-- How many elements a slice's datum holds, its spare places too. -/
def Bulk (d : DataW H) (c : Nat) : Prop := (d = .nil ∧ c = 0) ∨ ∃ elems rest, d = .slice elems rest ∧ elems.length + rest.length = c

theorem Bulk.le {ts : List TypeId} {ds : List (DataW H)} (hsz : (DataW.weightsEach P ts ds).all (· ≤ reachBytes) = true) {j : Nat} {t e : TypeId} {d : DataW H} {c : Nat} (hb : Bulk d c) (ht : ts[j]? = some t) (hd : ds[j]? = some d) (hu : P.underlying t = some (.slice e)) (b : Nat) (hbytes : P.bytesOf e = b) : c * b ≤ 140737488351232 := by
  rcases hb with ⟨_, rfl⟩ | ⟨elems, rest, rfl, rfl⟩
  · simp
  · have := sized_slice hsz ht hd hu
    rw [hbytes] at this
    exact this

/-- A flat value as an argument. -/
theorem open_agg {r : Reach} {b0 : Nat} {t : TypeId} {ks : List CK} {N : Nat} {v : Value} {d : DataW H} {ps : List MemPlace} (ht : (∃ fs, P.underlying t = some (.struct fs)) ∨ ∃ m e, P.underlying t = some (.array m e)) (hf : flat P N t = some ks) (hval : Value.okWide P w r b0 t v)
    (h : DataW.Trod enc P w base (fun _ => true) held t v d ps) : ∃ cs : List Value, v = .agg cs.toArray ∧ Fits ks cs := by
  have : ∃ cs : Array Value, v = .agg cs := by
    rcases ht with ⟨fs, ht⟩ | ⟨m, e, ht⟩
    · obtain ⟨cs, h, _⟩ := okWide_struct ht hval; exact ⟨cs, h⟩
    · obtain ⟨cs, h, _⟩ := okWide_array ht hval; exact ⟨cs, h⟩
  obtain ⟨cs, rfl⟩ := this
  obtain ⟨fuel, hx⟩ := h
  exact ⟨cs.toList, by simp, flat_fits N t ks _ _ _ hf hx⟩

/-- A sum as an argument. -/
theorem open_dig {r : Reach} {b0 : Nat} {t e : TypeId} {v : Value} {d : DataW H} {ps : List MemPlace} (ht : P.underlying t = some (.array 32 e)) (he : P.underlying e = some (.int .u8)) (hc : P.cellsOf e = 1) (hct : P.cellsOf t = 32) (hval : Value.okWide P w r b0 t v)
    (h : DataW.Trod enc P w base (fun _ => true) held t v d ps) : ∃ q : Text, v = .agg (cells8 q).toArray ∧ q.length = 32 := by
  obtain ⟨cs, rfl, hf⟩ := open_agg (ks := reps 32 [.int .u8]) (N := 2) (.inr ⟨_, _, ht⟩) (by simp [flat, ht, he, hc, hct]) hval h
  obtain ⟨q, hq, rfl⟩ := fits_bytes 32 cs hf
  exact ⟨q, rfl, hq⟩
end

/-- Sums behind one another. -/
theorem fits_digs : ∀ (n : Nat) (xs : List Value), Fits (reps n (reps 32 [.int .u8])) xs → ∃ qs : List Text, qs.length = n ∧ (∀ q ∈ qs, q.length = 32) ∧ xs = qs.flatMap cells8
  | 0, xs, h => by
    have := h.length
    rw [reps_len] at this
    obtain rfl : xs = [] := List.eq_nil_of_length_eq_zero (by simpa using this)
    exact ⟨[], rfl, by simp, rfl⟩
  | n + 1, xs, h => by
    rw [reps_succ] at h
    obtain ⟨h1, h2⟩ := h.split
    obtain ⟨qs, hq, hl, he⟩ := fits_digs n _ h1
    obtain ⟨q, hq1, he1⟩ := fits_bytes 32 _ h2
    refine ⟨qs ++ [q], by simp [hq], fun x hx => ?_, ?_⟩
    · rcases List.mem_append.1 hx with hx | hx
      · exact hl x hx
      · simp only [List.mem_singleton] at hx; rw [hx]; exact hq1
    · rw [List.flatMap_append, ← he]
      simp only [List.flatMap_cons, List.flatMap_nil, List.append_nil]
      rw [← he1, List.take_append_drop]

/-- All arguments read behind the call as they did before it: below the heap's old size nothing has turned. -/
theorem carryAll {H : Type} {enc : TypeId × Value → H} {P : Program} (hl : laidOutB P = true) {W W' : World} (hb : Below W.heap.size W W') : ∀ {ts : List TypeId} {vs : List Value} {ds : List (DataW H)} {ps : List MemPlace},
    (ts.all fun t => P.readableRec t && decide (t < P.types.size)) = true → DataW.TrodAll enc P W 0 (fun _ => true) true ts vs ds ps → (∀ x ∈ ps, x.block < W.heap.size) →
    DataW.TrodAll enc P W' 0 (fun b => decide (b < W.heap.size)) true ts vs ds ps
  | [], vs, ds, ps, _, h, _ => by
    obtain ⟨rfl, rfl, rfl⟩ := trodAll_nil h
    exact trodAll_mk0
  | t :: ts, vs, ds, ps, ht, h, hlt => by
    obtain ⟨v, vs1, d, ds1, p, q, rfl, rfl, rfl, h1, h2⟩ := trodAll_cons h
    simp only [List.all_cons, Bool.and_eq_true, decide_eq_true_eq] at ht
    exact ⟨p, q, Below.trod hl ht.1.1 ht.1.2 h1 hb (fun x hx => hlt x (by simp [hx])), carryAll hl hb ht.2 h2 (fun x hx => hlt x (by simp [hx])), rfl⟩
end Go.Proofs.YtgldkfaiofkhbaaDoor.Row

namespace Go.Proofs.YtgldkfaiofkhbaaDoor.Row2
open Go Go.RowKit Go.ChangeShapes Go.WideShapes Go.Proofs.YtgldkfaiofkhbaaDoor Go.Proofs.YtgldkfaiofkhbaaDoor.Mem Go.Proofs.YtgldkfaiofkhbaaDoor.Sha Go.Proofs.YtgldkfaiofkhbaaDoor.Bytes Go.Proofs.YtgldkfaiofkhbaaDoor.Row

section
variable {H : Type} {enc : TypeId × Value → H} {P : Program} {w : World} {base : Nat} {held : Bool}

theorem weightsAll_mem {e : TypeId} : ∀ {l : List (DataW H)} {d : DataW H} {n : Nat}, d ∈ l → n ∈ d.weights P e → n ∈ DataW.weightsAll P e l
  | x :: l, d, n, hd, hn => by
    simp only [DataW.weightsAll, List.mem_append]
    rcases List.mem_cons.1 hd with rfl | hd
    · exact .inl hn
    · exact .inr (weightsAll_mem hd hn)
  | [], _, _, hd, _ => by cases hd

/-- A row of texts as an argument. -/
theorem open_texts {r : Reach} {b0 : Nat} {t q e : TypeId} {v : Value} {d : DataW H} {ps : List MemPlace} (ht : P.underlying t = some (.slice q)) (hq : P.underlying q = some (.slice e)) (he : P.underlying e = some (.int .u8)) (hcq : P.cellsOf q = 1) (hce : P.cellsOf e = 1) (hby : P.bytesOf e = 1)
    (hval : Value.okWide P w r b0 t v) (h : DataW.Trod enc P w base (fun _ => true) held t v d ps)
    {ts : List TypeId} {ds : List (DataW H)} (hsz : (DataW.weightsEach P ts ds).all (· ≤ reachBytes) = true) {j : Nat} (hts : ts[j]? = some t) (hds : ds[j]? = some d) :
    ∃ A n c es, v = .slice A n c ∧ es.length = n ∧ n ≤ c ∧ c ≤ maxLen ∧ (A = none → n = 0 ∧ c = 0) ∧ Pieces w A es ∧ (∀ x ∈ es, x.length < 140737488351233) ∧ Bulk d c := by
  obtain ⟨a0, len0, cap0, rfl⟩ := okWide_slice ht hval
  obtain ⟨fuel, hx⟩ := h
  rcases Go.Deep.open_slice1 ht hcq hx with ⟨hcs, hx0⟩ | ⟨a, len, cap, m, n, V, D, Pl, hcs, hb, hl, hm, hmm, hx0, hi⟩
  · simp only [Value.cells, List.cons.injEq, Value.slice.injEq, and_true] at hcs
    obtain ⟨rfl, rfl, rfl⟩ := hcs
    exact ⟨none, 0, 0, [], rfl, rfl, Nat.le_refl _, by simp [maxLen], fun _ => ⟨rfl, rfl⟩, fun h => absurd h (by simp), by simp, .inl ⟨congrArg Prod.fst hx0, rfl⟩⟩
  · simp only [Value.cells, List.cons.injEq, Value.slice.injEq, and_true] at hcs
    obtain ⟨rfl, rfl, rfl⟩ := hcs
    simp only [if_true] at hmm
    subst hmm
    have hd : d = .slice ((List.range len0).map D) ((List.range (m - len0)).map fun j => D (len0 + j)) := congrArg Prod.fst hx0
    obtain ⟨Q, hQ⟩ := Go.Deep.choose_lt (α := Text) (n := len0) (p := fun i x => ∃ Ai ci, V i = .slice Ai x.length ci ∧ x.length ≤ ci ∧ (Ai = none → x.length = 0 ∧ ci = 0) ∧ Reads w 1 Ai x.length (cells8 x) ∧ x.length < 140737488351233) (fun i hi' => by
      obtain ⟨_, h2⟩ := hi i (by omega)
      obtain ⟨Ai, ni, ci, xs, hv, g1, g2, g3, g4, g5, g6⟩ := open_flat (ks := [.int .u8]) (N := 1) hq (by simp [flat, he]) hce h2
      obtain ⟨x, hxl, rfl⟩ := fits_bytes ni xs g4
      subst hxl
      refine ⟨x, Ai, ci, by simpa using hv, g1, g3, g5, ?_⟩
      rcases g6 with ⟨h0, _⟩ | ⟨a', elems, rest, _, hDi, hel, hrl⟩
      · have := (g3 h0).1; omega
      · simp only [if_true] at hrl
        have hw : (elems.length + rest.length) * P.bytesOf e ∈ (D i).weights P q := by
          have : D i = .slice elems rest := hDi
          rw [this]
          simp [DataW.weights, hq]
        have hmem : D i ∈ (List.range len0).map D := List.mem_map.2 ⟨i, List.mem_range.2 hi', rfl⟩
        have hall := weightsAll_mem hmem hw
        have hin : (elems.length + rest.length) * P.bytesOf e ∈ DataW.weightsEach P ts ds := DataW.weights_mem_each hts hds _ (by
          rw [hd]
          simp only [DataW.weights, ht, List.mem_cons, List.mem_append]
          exact .inr (.inl hall))
        have := List.all_eq_true.1 hsz _ hin
        rw [hby] at this
        have h2 : (elems.length + rest.length) * 1 ≤ 140737488351232 := by simpa [reachBytes] using this
        omega)
    refine ⟨some a, len0, m, (List.range len0).map Q, rfl, by simp, hl, hm, (fun h => by cases h), fun h0 => ?_, ?_, .inr ⟨_, _, hd, by simp; omega⟩⟩
    · simp only [List.length_map, List.length_range] at h0
      have h00 := (hi 0 (by omega)).1
      obtain ⟨b, off, spot⟩ := a
      have hspot : spot = none := by simpa [Addr.add] using World.cell?_spot h00
      subst hspot
      refine ⟨b, off, rfl, ?_, fun i x hxi => ?_⟩
      · have := World.block_lt_of_cell? w _ h00
        simpa [add_at] using this
      · have hil : i < len0 := by
          have := (List.getElem?_eq_some_iff.1 hxi).1
          simpa using this
        rw [List.getElem?_map, List.getElem?_range hil] at hxi
        obtain rfl := Option.some.inj hxi
        obtain ⟨Ai, ci, g1, g2, g3, g4, _⟩ := hQ i hil
        have hc := (hi i (by omega)).1
        rw [add_at, g1] at hc
        exact ⟨Ai, ci, hc, g2, g4, g3⟩
    · intro x hx'
      obtain ⟨i, hi', rfl⟩ := List.mem_map.1 hx'
      obtain ⟨_, _, _, _, _, _, g5⟩ := hQ i (List.mem_range.1 hi')
      exact g5
end
end Go.Proofs.YtgldkfaiofkhbaaDoor.Row2
