/- Arguments that are slices: what a trodden slice reads as. -/
import Derived.Test.YtmldhgebbgalbaaE
import Derived.Deep.Slices
import Derived.Deep.Fields
import Derived.ChangeSame
import Derived.ProofKit
import Derived.OpenShut
namespace Go.Proofs.Ytmldhgebbgalbaa
set_option linter.unusedVariables false
set_option linter.unusedSimpArgs false
open Go.RowKit Go.ChangeShapes Go.WideShapes Go.Deep

theorem flatten_get {k : Nat} : ∀ (rows : List (List Value)) (h : ∀ r ∈ rows, r.length = k) (i j : Nat), j < k → (rows.flatten[i * k + j]?) = (rows[i]?).bind fun r => r[j]?
  | [], _, i, j, _ => by simp
  | r :: rows, h, 0, j, hj => by
    have hr := h r List.mem_cons_self
    rw [List.flatten_cons, Nat.zero_mul, Nat.zero_add, List.getElem?_append_left (by omega)]
    simp
  | r :: rows, h, i + 1, j, hj => by
    have hr := h r List.mem_cons_self
    rw [List.flatten_cons, List.getElem?_append_right (by rw [Nat.add_mul]; omega), hr, show (i + 1) * k + j - k = i * k + j from by rw [Nat.add_mul]; omega, flatten_get rows (fun r hr => h r (List.mem_cons_of_mem _ hr)) i j hj]
    simp
theorem flatten_length {k : Nat} : ∀ (rows : List (List Value)) (_ : ∀ r ∈ rows, r.length = k), rows.flatten.length = rows.length * k
  | [], _ => by simp
  | r :: rows, h => by
    rw [List.flatten_cons, List.length_append, flatten_length rows (fun r hr => h r (List.mem_cons_of_mem _ hr)), h r List.mem_cons_self, List.length_cons, Nat.add_mul]
    omega

section
variable {H : Type} {enc : TypeId × Value → H} {P : Program} {W : World} {base : Nat} {sp : Nat → Bool} {held : Bool}
theorem plain_of_cell {a : Addr} {v : Value} (h : W.cell? a = some v) : a = ⟨a.block, a.off, none⟩ := by
  obtain ⟨b, o, s⟩ := a
  cases s with
  | none => rfl
  | some s =>
    unfold World.cell? at h
    split at h <;> simp at h
theorem add_off (b o n : Nat) : (⟨b, o, none⟩ : Addr).add n = ⟨b, o + n, none⟩ := by unfold Addr.add; split <;> simp_all

/-- a slice of whatever elements: its rows -/
theorem arg_rows {t e : TypeId} {k : Nat} {A : Option Addr} {n c : Nat} {d : DataW H} {ps : List MemPlace} (ht : P.underlying t = some (.slice e)) (hk : P.cellsOf e = k) (hk0 : 0 < k)
    (h : DataW.Trod enc P W base sp held t (.slice A n c) d ps) :
    ∃ rows : List (List Value), rows.length = n ∧ n ≤ c ∧ n ≤ maxLen ∧ Rd W k A n rows.flatten ∧ ∀ r ∈ rows, r.length = k ∧ ∃ m y, DataW.trod enc P W base sp held m e r = some y := by
  obtain ⟨fuel, hf⟩ := h
  rcases open_slice ht hf with ⟨hcs, _⟩ | ⟨a, len, cap, m, q, D, Pl, hcs, hb, hl, hm, hmm, _, hi⟩
  · simp [Value.cells] at hcs
    obtain ⟨rfl, rfl, rfl⟩ := hcs
    exact ⟨[], rfl, Nat.le_refl _, Nat.zero_le _, Rd.nil _ _ _, fun r hr => by cases hr⟩
  · simp [Value.cells] at hcs
    obtain ⟨rfl, rfl, rfl⟩ := hcs
    have hnm : n ≤ m := by rw [hmm]; split <;> omega
    rw [hk] at hi
    have hex : ∀ i, i < n → ∃ cs', W.cells? base (a.add (i * k)) k = some cs' ∧ ∃ m y, DataW.trod enc P W base sp held m e cs' = some y := fun i h => by
      obtain ⟨cs', h1, h2⟩ := hi i (by omega)
      exact ⟨cs', h1, _, _, h2⟩
    have hall : ∀ r ∈ (List.range n).map (fun i => (W.cells? base (a.add (i * k)) k).getD []), r.length = k ∧ ∃ m y, DataW.trod enc P W base sp held m e r = some y := by
      intro r hr
      obtain ⟨i, hi', rfl⟩ := List.mem_map.1 hr
      obtain ⟨cs', h1, h2⟩ := hex i (List.mem_range.1 hi')
      rw [h1]
      exact ⟨(World.cells?_some h1).2.1, h2⟩
    refine ⟨_, by simp, hl, Nat.le_trans hl hm, ⟨?_, fun hn => ?_⟩, hall⟩
    · rw [flatten_length _ (fun r hr => (hall r hr).1)]; simp
    · obtain ⟨cs0, h1, _⟩ := hex 0 hn
      obtain ⟨_, hl0, hc0⟩ := World.cells?_some h1
      have h00 : cs0[0]? = some (cs0[0]'(by omega)) := List.getElem?_eq_getElem (by omega)
      have hcell := hc0 0 (by omega)
      rw [Nat.zero_mul, h00] at hcell
      have ha : W.cell? a = some (cs0[0]'(by omega)) := by
        have e : (a.add 0).add 0 = a := rfl
        rwa [e] at hcell
      have hp := plain_of_cell ha
      refine ⟨a.block, a.off, by rw [← hp], fun j u hu => ?_⟩
      have hjl := (List.getElem?_eq_some_iff.1 hu).1
      rw [flatten_length _ (fun r hr => (hall r hr).1)] at hjl
      simp only [List.length_map, List.length_range] at hjl
      have hj1 : j % k < k := Nat.mod_lt _ hk0
      have hj2 : j / k < n := Nat.div_lt_of_lt_mul (by rw [Nat.mul_comm]; exact hjl)
      have hjj : j / k * k + j % k = j := by rw [Nat.mul_comm]; exact Nat.div_add_mod j k
      rw [← hjj, flatten_get _ (fun r hr => (hall r hr).1) _ _ hj1] at hu
      rw [List.getElem?_map, List.getElem?_range hj2] at hu
      obtain ⟨cs', h1, _⟩ := hex (j / k) hj2
      simp only [Option.map_some, Option.bind_some, h1, Option.getD_some] at hu
      obtain ⟨_, hl', hc'⟩ := World.cells?_some h1
      have hcell' := hc' (j % k) hj1
      rw [hu, hp, add_off, add_off] at hcell'
      rw [← hjj, ← Nat.add_assoc]
      exact hcell'

/-- a field of an element -/
theorem row_field {e : TypeId} {fs : Array Field} {r : List Value} {m : Nat} {y : DataW H × List MemPlace} (he : P.underlying e = some (.struct fs)) (hone : oneCellFields P fs = true) (h : DataW.trod enc P W base sp held m e r = some y)
    (j : Nat) (f : Field) (hj : fs[j]? = some f) (v : Value) (hv : r[j]? = some v) : ∃ q z, DataW.trod enc P W base sp held q f.type [v] = some z := by
  obtain ⟨ys, n', hn', hy, hlen, hyl, hf⟩ := DataW.trod_struct he h
  obtain ⟨ho, hk⟩ := hone_of hone j f hj
  have h1 := hf j f hj
  rw [ho, hk] at h1
  obtain ⟨hlt, rfl⟩ := List.getElem?_eq_some_iff.1 hv
  have hone' : (r.drop j).take 1 = [r[j]] := by
    rw [List.drop_eq_getElem_cons hlt]
    rfl
  rw [hone'] at h1
  have hjf : j < ys.length := by rw [hyl]; exact (Array.getElem?_eq_some_iff.1 hj).1
  exact ⟨_, _, h1.trans (List.getElem?_eq_getElem hjf)⟩
theorem field_int {t : TypeId} {k : IntKind} {v : Value} {q : Nat} {z : DataW H × List MemPlace} (ht : P.underlying t = some (.int k)) (h : DataW.trod enc P W base sp held q t [v] = some z) : ∃ n, v = .int k n ∧ (Lit.int k n).wf = true := by
  obtain ⟨n, hn, _, hw⟩ := DataW.trod_int ht h
  exact ⟨n, by simpa using hn, hw⟩
theorem field_bool {t : TypeId} {v : Value} {q : Nat} {z : DataW H × List MemPlace} (ht : P.underlying t = some .bool) (h : DataW.trod enc P W base sp held q t [v] = some z) : ∃ b, v = .bool b := by
  obtain ⟨b, hb, _⟩ := DataW.trod_bool ht h
  exact ⟨b, by simpa using hb⟩
end

theorem rows_of {α : Type} {enc : α → List Value} {p : α → Prop} : ∀ (rows : List (List Value)), (∀ r ∈ rows, ∃ x, r = enc x ∧ p x) → ∃ xs : List α, rows = xs.map enc ∧ ∀ x ∈ xs, p x
  | [], _ => ⟨[], rfl, fun x hx => by cases hx⟩
  | r :: rows, h => by
    obtain ⟨x, h1, h2⟩ := h r List.mem_cons_self
    obtain ⟨xs, h3, h4⟩ := rows_of rows (fun r hr => h r (List.mem_cons_of_mem _ hr))
    exact ⟨x :: xs, by rw [h1, h3]; rfl, fun y hy => by
      rcases List.mem_cons.1 hy with rfl | hy
      · exact h2
      · exact h4 y hy⟩

theorem u8s_rows : ∀ l : List Int, (l.map fun z : Int => [Value.int .u8 z]).flatten = u8s l
  | [] => rfl
  | a :: l => by simp only [List.map_cons, List.flatten_cons, u8s_rows l]; rfl

/-- a slice of bytes that comes in -/
theorem arg_bytes {H : Type} {enc : TypeId × Value → H} {P : Program} {W : World} {base : Nat} {sp : Nat → Bool} {held : Bool} {t e : TypeId} {A : Option Addr} {n c : Nat} {d : DataW H} {ps : List MemPlace}
    (ht : P.underlying t = some (.slice e)) (he : P.underlying e = some (.int .u8)) (hk : P.cellsOf e = 1) (h : DataW.Trod enc P W base sp held t (.slice A n c) d ps) :
    ∃ l : List Int, l.length = n ∧ n ≤ c ∧ n ≤ maxLen ∧ Rd W 1 A n (u8s l) ∧ ∀ x ∈ l, 0 ≤ x ∧ x < 256 := by
  obtain ⟨rows, h1, h2, h3, h4, h5⟩ := arg_rows ht hk (by omega) h
  obtain ⟨l, hl, hp⟩ := rows_of (enc := fun z : Int => [Value.int .u8 z]) (p := fun z => 0 ≤ z ∧ z < 256) rows (fun r hr => by
    obtain ⟨hlen, m, y, hy⟩ := h5 r hr
    obtain ⟨z, hz, _, hw⟩ := DataW.trod_int he hy
    exact ⟨z, hz, u8_wf hw⟩)
  subst hl
  refine ⟨l, by simpa using h1, h2, h3, ?_, hp⟩
  rwa [u8s_rows] at h4

/-- a slice of structs of one-cell fields that comes in: enc writes an element's cells -/
theorem arg_structs {α : Type} (en : α → List Value) (p : α → Prop) {H : Type} {enc : TypeId × Value → H} {P : Program} {W : World} {base : Nat} {sp : Nat → Bool} {held : Bool} {t e : TypeId} {k : Nat} {A : Option Addr} {n c : Nat} {d : DataW H} {ps : List MemPlace}
    (ht : P.underlying t = some (.slice e)) (hk : P.cellsOf e = k) (hk0 : 0 < k) (h : DataW.Trod enc P W base sp held t (.slice A n c) d ps)
    (hel : ∀ (r : List Value) m y, r.length = k → DataW.trod enc P W base sp held m e r = some y → ∃ x, r = en x ∧ p x) :
    ∃ l : List α, l.length = n ∧ n ≤ c ∧ n ≤ maxLen ∧ Rd W k A n (l.flatMap en) ∧ ∀ x ∈ l, p x := by
  obtain ⟨rows, h1, h2, h3, h4, h5⟩ := arg_rows ht hk hk0 h
  obtain ⟨l, hl, hp⟩ := rows_of (enc := en) (p := p) rows (fun r hr => by
    obtain ⟨hlen, m, y, hy⟩ := h5 r hr
    exact hel r m y hlen hy)
  subst hl
  exact ⟨l, by simpa using h1, h2, h3, by rw [List.flatMap_def]; exact h4, hp⟩
/-- what the row of a law hands the walk for a slice -/
def Handed (P : Program) (H : Type) (w : World) (t : TypeId) (v : Value) : Prop := ∃ (enc : TypeId × Value → H) (d : DataW H) (ps : List MemPlace), DataW.Trod enc P w 0 (fun _ => true) true t v d ps
end Go.Proofs.Ytmldhgebbgalbaa
