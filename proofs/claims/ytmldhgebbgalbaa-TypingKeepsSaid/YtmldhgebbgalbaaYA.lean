/- Chapter 20, plain: what a step keeps (no program). -/
import Derived.Test.YtmldhgebbgalbaaY8
namespace Go.Proofs.Ytmldhgebbgalbaa
set_option linter.unusedVariables false
set_option linter.unusedSimpArgs false
open Go.RowKit
theorem pl_ext {p q : Pl} (h1 : q.rows = p.rows) (h2 : q.cols = p.cols) (h3 : q.cur = p.cur) (h4 : q.cells.length = p.cells.length) (h : ∀ i, 0 ≤ i → i < p.n → q.at i = p.at i) : q = p := by
  have hc : q.cells = p.cells := by
    refine List.ext_getElem h4 (fun k k1 k2 => ?_)
    have := h (k : Int) (by omega) (by unfold Pl.n; omega)
    unfold Pl.at Pl.n at this
    rw [if_pos (by omega), if_pos (by omega)] at this
    simpa [k1, k2] using this
  cases p; cases q
  simp only at h1 h2 h3 hc
  subst h1 h2 h3 hc
  rfl
theorem at_out {p : Pl} {i : Int} (h : ¬ (0 ≤ i ∧ i < p.n)) : p.at i = Cel.zero := by unfold Pl.at; rw [if_neg h]
theorem set_nF (p : Pl) (i : Int) (x : Cel) : (p.set i x).n = p.n := by unfold Pl.n; rw [(set_dims p i x).2.2]
theorem set_has (p : Pl) (i j : Int) (x : Cel) : (p.set i x).has j = p.has j := by unfold Pl.has; rw [set_nF]
theorem modB_idem2 (b : Int) (h : 0 ≤ b ∧ b < 256) (x y : Bool) : modB (modB b x) y = modB b y := by
  obtain ⟨k, rfl⟩ := Int.eq_ofNat_of_zero_le h.1
  have hk : k < 256 := by omega
  exact (by decide +kernel : ∀ k : Fin 256, ∀ x y : Bool, modB (modB (k.val : Int) x) y = modB (k.val : Int) y) ⟨k, hk⟩ x y
theorem modB_prot2 (b : Int) (h : 0 ≤ b ∧ b < 256) (x : Bool) : bitB (Go.bits .and .u8 (modB b x) 63) 32 = bitB (Go.bits .and .u8 b 63) 32 := by
  obtain ⟨k, rfl⟩ := Int.eq_ofNat_of_zero_le h.1
  have hk : k < 256 := by omega
  exact (by decide +kernel : ∀ k : Fin 256, ∀ x : Bool, bitB (Go.bits .and .u8 (modB (k.val : Int) x) 63) 32 = bitB (Go.bits .and .u8 (k.val : Int) 63) 32) ⟨k, hk⟩ x
/-- the same attributes, but for whether they are modified -/
structure Kin (p q : Pl) : Prop where
  len : q.cells.length = p.cells.length
  st : q.st = p.st
  prot : ∀ i, p.st i = true → bitB (q.attrAt i) 32 = bitB (p.attrAt i) 32
theorem Kin.n {p q : Pl} (h : Kin p q) : q.n = p.n := by unfold Pl.n; rw [h.len]
theorem Kin.before {p q : Pl} (h : Kin p q) (i : Int) : q.before i = p.before i := before_same h.st h.len i
theorem Kin.after {p q : Pl} (h : Kin p q) (i : Int) : q.after i = p.after i := by
  unfold Pl.after Pl.lookM
  rw [h.n, h.st, h.len]
theorem Kin.lenAt {p q : Pl} (h : Kin p q) (i : Int) : q.lenAt i = p.lenAt i := by
  unfold Pl.lenAt
  rw [h.after, h.n]
theorem Kin.open_ {p q : Pl} (h : Kin p q) (i : Int) : q.open_ i = p.open_ i := by
  unfold Pl.open_
  rw [h.before]
  by_cases hb : p.before i < 0
  · rw [if_pos hb, if_pos hb]
    unfold Pl.has
    rw [h.n]
  · rw [if_neg hb, if_neg hb, h.prot _ ((before_cases i).resolve_left (by omega))]
theorem Kin.refl (p : Pl) : Kin p p := ⟨rfl, rfl, fun _ _ => rfl⟩
theorem Kin.trans {p q r : Pl} (h : Kin p q) (k : Kin q r) : Kin p r :=
  ⟨k.len.trans h.len, k.st.trans h.st, fun i hi => (k.prot i (by rw [h.st]; exact hi)).trans (h.prot i hi)⟩
theorem Kin.of {p q : Pl} (hby : ∀ y ∈ p.cells, 0 ≤ y.b ∧ y.b < 256) (hl : q.cells.length = p.cells.length) (h : ∀ i, if p.st i = true then q.at i = p.at i ∨ ∃ x, q.at i = (p.at i).mod x else (q.at i).st = false) : Kin p q := by
  refine ⟨hl, ?_, fun i hi => ?_⟩
  · funext i
    have := h i
    split at this
    · next hs =>
      rw [hs]
      unfold Pl.st at *
      rcases this with e | ⟨x, e⟩ <;> rw [e]
      · exact hs
      · exact hs
    · next hs =>
      have : p.st i = false := by simpa using hs
      rw [this]
      unfold Pl.st
      assumption
  · have := h i
    rw [if_pos hi] at this
    unfold Pl.attrAt
    rcases this with e | ⟨x, e⟩ <;> rw [e]
    exact modB_prot2 _ (at_bdd hby i) x
/-- no attribute, where something may be typed -/
theorem open_st {p : Pl} {i : Int} (h : p.open_ i = true) : p.st i = false := by
  rcases Bool.eq_false_or_eq_true (p.st i) with hs | hs
  · exfalso
    have hb := before_self hs
    have := (st_in hs).1
    unfold Pl.open_ at h
    rw [hb, if_neg (by omega)] at h
    simp at h
  · exact hs
theorem open_in {p : Pl} (hn : 1 ≤ p.n) {i : Int} (h : p.open_ i = true) : 0 ≤ i ∧ i < p.n := by
  unfold Pl.open_ at h
  split at h
  · exact has_lt h
  · next hb =>
    rcases Classical.em (0 ≤ i ∧ i < p.n) with hc | hc
    · exact hc
    · exfalso
      apply hb
      unfold Pl.before Pl.lookM
      rw [if_neg hc]
      decide

/-- what a step keeps -/
structure KeepY (p q : Pl) : Prop where
  kin : Kin p q
  rows : q.rows = p.rows
  cols : q.cols = p.cols
  by_ : ∀ y ∈ q.cells, 0 ≤ y.b ∧ y.b < 256
  attr : ∀ i, p.st i = true → modB (q.at i).b false = modB (p.at i).b false
  shut : ∀ i, p.open_ i = false → p.st i = false → q.at i = p.at i
def ByOk (p : Pl) : Prop := ∀ y ∈ p.cells, 0 ≤ y.b ∧ y.b < 256
theorem KeepY.refl {p : Pl} (h : ByOk p) : KeepY p p := ⟨Kin.refl p, rfl, rfl, h, fun _ _ => rfl, fun _ _ _ => rfl⟩
theorem KeepY.trans {p q r : Pl} (h : KeepY p q) (k : KeepY q r) : KeepY p r :=
  ⟨h.kin.trans k.kin, k.rows.trans h.rows, k.cols.trans h.cols, k.by_, fun i hi => (k.attr i (by rw [h.kin.st]; exact hi)).trans (h.attr i hi), fun i ho hs => (k.shut i (by rw [h.kin.open_]; exact ho) (by rw [h.kin.st]; exact hs)).trans (h.shut i ho hs)⟩
theorem by_set {p : Pl} (h : ByOk p) (i : Int) (x : Cel) (hx : 0 ≤ x.b ∧ x.b < 256) : ByOk (p.set i x) := by
  unfold Pl.set
  split
  · intro y hy
    rcases List.mem_or_eq_of_mem_set hy with h1 | h1
    · exact h y h1
    · rw [h1]; exact hx
  · exact h
theorem KeepY.set {p : Pl} (h : ByOk p) {x : Int} (ho : p.open_ x = true) (c : Cel) (hc : c.st = false) (hb : 0 ≤ c.b ∧ c.b < 256) : KeepY p (p.set x c) := by
  obtain ⟨d1, d2, d3⟩ := set_dims p x c
  have hx := open_st ho
  have key : ∀ i, i ≠ x → (p.set x c).at i = p.at i := fun i hi => by rw [set_at, if_neg (fun h => hi h.1)]
  refine ⟨Kin.of h d3 (fun i => ?_), d1, d2, by_set h x c hb, fun i hi => ?_, fun i hi hs => ?_⟩
  · split
    · next hs => exact .inl (key i (fun e => by rw [e, hx] at hs; cases hs))
    · next hs =>
      rw [set_at]
      split
      · exact hc
      · have : p.st i = false := by simpa using hs
        exact this
  · rw [key i (fun e => by rw [e, hx] at hi; cases hi)]
  · exact key i (fun e => by rw [e, ho] at hi; cases hi)
theorem KeepY.mark {p : Pl} (h : ByOk p) (a : Int) : KeepY p (p.mark a) := by
  unfold Pl.mark
  split
  · exact KeepY.refl h
  · next hb =>
    have hs : p.st (p.before a) = true := (before_cases a).resolve_left (by omega)
    obtain ⟨s, hse⟩ : ∃ s, p.before a = s := ⟨_, rfl⟩
    rw [hse] at hs ⊢
    unfold Pl.modP
    obtain ⟨d1, d2, d3⟩ := set_dims p s ((p.at s).mod true)
    have hbd := at_bdd h s
    have key : ∀ i, i ≠ s → (p.set s ((p.at s).mod true)).at i = p.at i := fun i hi => by rw [set_at, if_neg (fun h => hi h.1)]
    have key2 : (p.set s ((p.at s).mod true)).at s = (p.at s).mod true := by
      rw [set_at, if_pos ⟨rfl, by unfold Pl.has; exact decide_eq_true (st_in hs)⟩]
    refine ⟨Kin.of h d3 (fun i => ?_), d1, d2, by_set h s _ (modB_bd _ hbd true), fun i hi => ?_, fun i hi hs2 => ?_⟩
    · by_cases e : i = s
      · subst e
        rw [if_pos hs]
        exact .inr ⟨true, key2⟩
      · rw [key i e]
        split
        · exact .inl rfl
        · next hn =>
          have : p.st i = false := by simpa using hn
          exact this
    · by_cases e : i = s
      · subst e
        rw [key2]
        exact modB_idem2 _ hbd true false
      · rw [key i e]
    · exact key i (fun e => by rw [e, hs] at hs2; cases hs2)
theorem KeepY.point {p : Pl} (h : ByOk p) (i : Int) : KeepY p (p.point i) := by
  unfold Pl.point
  split
  · exact ⟨⟨rfl, rfl, fun _ _ => rfl⟩, rfl, rfl, h, fun _ _ => rfl, fun _ _ _ => rfl⟩
  · exact KeepY.refl h
theorem KeepY.ok {p q : Pl} (hp : p.Ok) (h : KeepY p q) (k0 : 0 ≤ q.cur) (k1 : q.cur < q.n) : q.Ok := ⟨by rw [h.rows, h.cols, h.kin.n]; exact hp.sz, k0, k1, h.by_⟩
theorem keep_gone : ∀ (l : List Int) {p : Pl}, ByOk p → (∀ x ∈ l, p.open_ x = true) → KeepY p (p.gone l)
  | [], p, h, _ => KeepY.refl h
  | i :: l, p, h, ho => by
    have k := KeepY.set h (ho i (by simp)) Cel.zero rfl (by decide)
    exact k.trans (keep_gone l k.by_ (fun x hx => by rw [k.kin.open_]; exact ho x (by simp [hx])))
theorem keep_shift (l : List Int) : ∀ (n : Nat) {p : Pl}, ByOk p → (∀ x ∈ l, p.open_ x = true) → n < l.length → KeepY p (p.shiftN l n)
  | 0, p, h, _, _ => KeepY.refl h
  | n + 1, p, h, ho, hn => by
    unfold Pl.shiftN
    have e1 : l.getD (n + 1) 0 = l[n + 1] := by rw [List.getD_eq_getElem?_getD, List.getElem?_eq_getElem hn]; rfl
    have e2 : l.getD n 0 = l[n] := by rw [List.getD_eq_getElem?_getD, List.getElem?_eq_getElem (by omega)]; rfl
    rw [e1, e2]
    have k := KeepY.set h (ho _ (List.getElem_mem hn)) (p.at l[n]) (open_st (ho _ (List.getElem_mem (by omega)))) (at_bdd h _)
    exact k.trans (keep_shift l n k.by_ (fun x hx => by rw [k.kin.open_]; exact ho x hx) (by omega))
theorem keep_del (l : List Int) : ∀ (m i : Nat) {p : Pl}, ByOk p → (∀ x ∈ l, p.open_ x = true) → i + m < l.length → KeepY p (p.delK l i m)
  | 0, i, p, h, _, _ => KeepY.refl h
  | m + 1, i, p, h, ho, hn => by
    unfold Pl.delK
    have e1 : l.getD i 0 = l[i] := by rw [List.getD_eq_getElem?_getD, List.getElem?_eq_getElem (by omega)]; rfl
    have e2 : l.getD (i + 1) 0 = l[i + 1] := by rw [List.getD_eq_getElem?_getD, List.getElem?_eq_getElem (by omega)]; rfl
    rw [e1, e2]
    have k := KeepY.set h (ho _ (List.getElem_mem (by omega : i < l.length))) (p.at l[i + 1]) (open_st (ho _ (List.getElem_mem (by omega)))) (at_bdd h _)
    exact k.trans (keep_del l m (i + 1) k.by_ (fun x hx => by rw [k.kin.open_]; exact ho x hx) (by omega))
/-- all of a row may be typed into -/
theorem rowL_open {p : Pl} {i : Int} (i0 : 0 ≤ i) (i1 : i < p.n) (ho : p.open_ i = true) : ∀ x ∈ p.rowL i, p.open_ x = true := by
  unfold Pl.rowL
  split
  · next hb =>
    intro x hx
    unfold upsL at hx
    obtain ⟨j, hj, rfl⟩ := List.mem_map.1 hx
    rw [List.mem_range] at hj
    have hno : ∀ z, p.st z = false := fun z => by
      cases hz : p.st z
      · rfl
      · have := before_all hz i0 i1
        omega
    have hbx : p.before (i + (j : Int)) < 0 := by
      rcases before_cases (p := p) (i + (j : Int)) with e | e
      · omega
      · rw [hno] at e; cases e
    unfold Pl.open_
    rw [if_pos hbx]
    unfold Pl.has
    exact decide_eq_true (by omega)
  · next hb =>
    have h := rest_ok i0 i1 ho hb
    obtain ⟨_, hbd, hm⟩ := rest_list h rfl
    obtain ⟨d1, d2⟩ := (mine_far h.f h.a0 h.a1).1 h.m
    intro x hx
    obtain ⟨x0, x1⟩ := hbd x hx
    obtain ⟨f1, f2⟩ := (hm x x0 x1).1 hx
    obtain ⟨m1, m2⟩ := (mine_far h.f x0 x1).2 ⟨by omega, f2⟩
    unfold Pl.open_ at ho ⊢
    rw [if_neg hb] at ho
    rw [m1, if_neg hb]
    simp at ho ⊢
    exact ⟨fun e => m2 e.symm, ho.2⟩
theorem shift_cur (l : List Int) : ∀ (n : Nat) (p : Pl), (p.shiftN l n).cur = p.cur
  | 0, _ => rfl
  | n + 1, p => by unfold Pl.shiftN; rw [shift_cur l n, set_cur]
theorem keep_put {p : Pl} (hok : p.Ok) (b : Int) (hb : 0 ≤ b ∧ b < 256) (ins : Bool) : KeepY p (p.putM b ins).1 ∧ (p.putM b ins).1.Ok ∧ ((p.putM b ins).2 ≠ 0 → (p.putM b ins).1 = p) := by
  unfold Pl.putM
  split
  · exact ⟨KeepY.refl hok.by_, hok, fun _ => rfl⟩
  · next hm =>
    have hm : p.mayM b = 0 := by simpa using hm
    have ho : p.open_ p.cur = true := by
      unfold Pl.mayM at hm
      cases hc : p.open_ p.cur
      · rw [if_pos hc] at hm; omega
      · rfl
    split
    · exact ⟨KeepY.refl hok.by_, hok, fun _ => rfl⟩
    · next hi =>
      have hrow := rowL_open hok.k0 hok.k1 ho
      have hk : KeepY p (if ins = true then p.shiftN (p.rowL p.cur) (p.idxM (p.rowL p.cur)).toNat else p) := by
        split
        · next hins =>
          have hi2 : ¬ p.idxM (p.rowL p.cur) < 0 := fun h => hi ⟨hins, h⟩
          refine keep_shift _ _ hok.by_ hrow ?_
          unfold Pl.idxM at hi2 ⊢
          cases hf : (p.rowL p.cur).findIdx? (fun i => emptyC (p.at i)) with
          | none => rw [hf] at hi2; simp at hi2
          | some k =>
            have := (List.findIdx?_eq_some_iff_getElem.1 hf).1
            simp
            exact this
        · exact KeepY.refl hok.by_
      obtain ⟨q, hq⟩ : ∃ q, (if ins = true then p.shiftN (p.rowL p.cur) (p.idxM (p.rowL p.cur)).toNat else p) = q := ⟨_, rfl⟩
      rw [hq] at hk ⊢
      unfold Pl.putP
      have k1 := KeepY.set hk.by_ (x := p.cur) (by rw [hk.kin.open_]; exact ho) ⟨b, false, false, (p.at p.cur).li, (p.at p.cur).co⟩ rfl hb
      have k2 := KeepY.mark k1.by_ p.cur
      obtain ⟨r, hr⟩ : ∃ r, (q.set p.cur ⟨b, false, false, (p.at p.cur).li, (p.at p.cur).co⟩).mark p.cur = r := ⟨_, rfl⟩
      rw [hr] at k2 ⊢
      have k3 := KeepY.point k2.by_ r.onM
      have kk := hk.trans (k1.trans (k2.trans k3))
      refine ⟨kk, ?_, fun h => absurd rfl h⟩
      have hrc : 0 ≤ r.cur ∧ r.cur < r.n := by
        have e1 : r.cur = q.cur := by rw [← hr, mark_cur, set_cur]
        have e2 : r.n = p.n := by rw [k2.kin.n, k1.kin.n, hk.kin.n]
        have e3 : q.cur = p.cur := by
          rw [← hq]
          split
          · exact shift_cur _ _ _
          · rfl
        rw [e1, e2, e3]
        exact ⟨hok.k0, hok.k1⟩
      refine kk.ok hok ?_ ?_
      · unfold Pl.point
        split
        · next hh => exact (has_lt hh).1
        · exact hrc.1
      · unfold Pl.point
        split
        · next hh => exact (has_lt hh).2
        · exact hrc.2
end Go.Proofs.Ytmldhgebbgalbaa
