/- Chapter 20, plain: what each step keeps (no program). -/
import Derived.Test.YtmldhgebbgalbaaYA
namespace Go.Proofs.Ytmldhgebbgalbaa
set_option linter.unusedVariables false
set_option linter.unusedSimpArgs false
open Go.RowKit
theorem keep_str (ins : Bool) : ∀ (l : List Int) {p : Pl}, p.Ok → (∀ x ∈ l, 0 ≤ x ∧ x < 256) → KeepY p (p.strM ins l).1 ∧ (p.strM ins l).1.Ok
  | [], p, h, _ => ⟨KeepY.refl h.by_, h⟩
  | b :: l, p, h, hb => by
    obtain ⟨k1, k2, k3⟩ := keep_put h b (hb b (by simp)) ins
    unfold Pl.strM
    split
    · obtain ⟨m1, m2⟩ := keep_str ins l k2 (fun x hx => hb x (by simp [hx]))
      exact ⟨k1.trans m1, m2⟩
    · exact ⟨k1, k2⟩
theorem del_cur (l : List Int) : ∀ (m i : Nat) (p : Pl), (p.delK l i m).cur = p.cur
  | 0, _, _ => rfl
  | m + 1, i, p => by unfold Pl.delK; rw [del_cur l m, set_cur]
theorem keep_delete {p : Pl} (hok : p.Ok) : KeepY p p.delM.1 ∧ p.delM.1.Ok ∧ (p.delM.2 ≠ 0 → p.delM.1 = p) := by
  unfold Pl.delM
  cases ho : p.open_ p.cur
  · rw [if_pos rfl]
    exact ⟨KeepY.refl hok.by_, hok, fun _ => rfl⟩
  · rw [if_neg (by simp)]
    have hrow := rowL_open hok.k0 hok.k1 ho
    have hpos := rowL_pos hok.k0 hok.k1 ho
    unfold Pl.delP
    obtain ⟨L, hL⟩ : ∃ L, p.rowL p.cur = L := ⟨_, rfl⟩
    rw [hL] at hrow hpos ⊢
    have k1 := keep_del L (L.length - 1) 0 hok.by_ hrow (by omega)
    have e1 : L.getD (L.length - 1) 0 = L[L.length - 1] := by rw [List.getD_eq_getElem?_getD, List.getElem?_eq_getElem (by omega)]; rfl
    rw [e1]
    have k2 := KeepY.set k1.by_ (x := L[L.length - 1]) (by rw [k1.kin.open_]; exact hrow _ (List.getElem_mem (by omega))) Cel.zero rfl (by decide)
    have k3 := KeepY.mark k2.by_ p.cur
    have kk := k1.trans (k2.trans k3)
    refine ⟨kk, kk.ok hok ?_ ?_, fun h => absurd rfl h⟩
    · rw [mark_cur, set_cur, del_cur]; exact hok.k0
    · rw [mark_cur, set_cur, del_cur, kk.kin.n]; exact hok.k1
theorem keep_end {p : Pl} (hok : p.Ok) : KeepY p p.endM.1 ∧ p.endM.1.Ok ∧ (p.endM.2 ≠ 0 → p.endM.1 = p) := by
  cases ho : p.open_ p.cur
  · unfold Pl.endM
    rw [if_pos ho]
    exact ⟨KeepY.refl hok.by_, hok, fun _ => rfl⟩
  · obtain ⟨z1, z2, _⟩ := end_zeros hok ho
    have hk : KeepY p p.endM.1 := by
      unfold Pl.endM
      rw [if_neg (by rw [ho]; simp)]
      split
      · next hb =>
        have hno : ∀ z, p.st z = false := fun z => by
          cases hz : p.st z
          · rfl
          · have := before_all hz hok.k0 hok.k1
            omega
        refine keep_gone (btwN p.n p.cur (btwM p.n p.cur 0)) hok.by_ (fun x hx => ?_)
        unfold btwN at hx
        obtain ⟨j, _, rfl⟩ := List.mem_map.1 hx
        have hn := hok.sz.n0
        have hbx : p.before ((p.cur + (j : Int)) % p.n) < 0 := by
          rcases before_cases (p := p) ((p.cur + (j : Int)) % p.n) with e | e
          · omega
          · rw [hno] at e; cases e
        unfold Pl.open_
        rw [if_pos hbx]
        unfold Pl.has
        exact decide_eq_true ⟨Int.emod_nonneg _ (by omega), Int.emod_lt_of_pos _ (by omega)⟩
      · next hb =>
        have hrow := rowL_open hok.k0 hok.k1 ho
        unfold Pl.rowL at hrow
        rw [if_neg hb] at hrow
        have k1 := keep_gone (p.restL p.cur) hok.by_ hrow
        exact k1.trans (KeepY.mark k1.by_ p.cur)
    exact ⟨hk, hk.ok hok (by rw [z2]; exact hok.k0) (by rw [z2, hk.kin.n]; exact hok.k1), fun h => absurd z1 h⟩
theorem point_ok {p : Pl} (h : p.Ok) (i : Int) : (p.point i).Ok := by
  unfold Pl.point
  split
  · next hh => exact ⟨h.sz, (has_lt hh).1, (has_lt hh).2, h.by_⟩
  · exact h
theorem keep_dup {p : Pl} (hok : p.Ok) (ins : Bool) : KeepY p (p.dupM ins).1 ∧ (p.dupM ins).1.Ok ∧ ((p.dupM ins).2 ≠ 0 → (p.dupM ins).1 = p) := by
  obtain ⟨k1, k2, k3⟩ := keep_put hok 28 (by decide) ins
  unfold Pl.dupM
  split
  · exact ⟨k1, k2, k3⟩
  · have m1 := KeepY.point k2.by_ p.cur
    have m2 := point_ok k2 p.cur
    have m3 := KeepY.point m2.by_ (((p.putM 28 ins).1.point p.cur).seekM ((p.putM 28 ins).1.point p.cur).cur 1)
    exact ⟨k1.trans (m1.trans m3), point_ok m2 _, fun h => absurd rfl h⟩
/-- a step -/
structure OpY where
  k : Int
  a : Int
  b : Int
  l : List Int
  ins : Bool
/-- what a step does: the plane, the count, the error -/
def Pl.doM (p : Pl) (o : OpY) : Pl × Int × Int :=
  if o.k = 0 ∨ o.k = 1 ∨ o.k = 2 ∨ o.k = 3 then ((p.putM o.b o.ins).1, 0, (p.putM o.b o.ins).2)
  else if o.k = 4 then ((p.strM o.ins o.l).1, (p.strM o.ins o.l).2.1, (p.strM o.ins o.l).2.2)
  else if o.k = 5 then (p.delM.1, 0, p.delM.2)
  else if o.k = 6 then (p.endM.1, 0, p.endM.2)
  else if o.k = 7 then ((p.dupM o.ins).1, 0, (p.dupM o.ins).2)
  else if o.k = 8 then ((p.putM 30 o.ins).1, 0, (p.putM 30 o.ins).2)
  else if o.k = 9 then (p.point (Int.tmod (Go.bits .and .i64 o.a 255) p.n), 0, 0)
  else (p, 0, 0)
theorem keep_do {p : Pl} (hok : p.Ok) (o : OpY) (hb : 0 ≤ o.b ∧ o.b < 256) (hl : ∀ x ∈ o.l, 0 ≤ x ∧ x < 256) : KeepY p (p.doM o).1 ∧ (p.doM o).1.Ok ∧ ((p.doM o).2.2 ≠ 0 → o.k ≠ 4 → (p.doM o).1 = p) := by
  unfold Pl.doM
  split
  · obtain ⟨k1, k2, k3⟩ := keep_put hok o.b hb o.ins
    exact ⟨k1, k2, fun h _ => k3 h⟩
  split
  · next h4 =>
    obtain ⟨k1, k2⟩ := keep_str o.ins o.l hok hl
    exact ⟨k1, k2, fun _ h => absurd h4 h⟩
  split
  · obtain ⟨k1, k2, k3⟩ := keep_delete hok
    exact ⟨k1, k2, fun h _ => k3 h⟩
  split
  · obtain ⟨k1, k2, k3⟩ := keep_end hok
    exact ⟨k1, k2, fun h _ => k3 h⟩
  split
  · obtain ⟨k1, k2, k3⟩ := keep_dup hok o.ins
    exact ⟨k1, k2, fun h _ => k3 h⟩
  split
  · obtain ⟨k1, k2, k3⟩ := keep_put hok 30 (by decide) o.ins
    exact ⟨k1, k2, fun h _ => k3 h⟩
  split
  · exact ⟨KeepY.point hok.by_ _, point_ok hok _, fun h _ => absurd rfl h⟩
  · exact ⟨KeepY.refl hok.by_, hok, fun h _ => absurd rfl h⟩
end Go.Proofs.Ytmldhgebbgalbaa
