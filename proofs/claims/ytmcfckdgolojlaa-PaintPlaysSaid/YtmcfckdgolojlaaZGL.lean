import Derived.Test.YtmcfckdgolojlaaZGK
import Derived.Test.YtmcfckdgolojlaaZGG
import Derived.Test.YtmcfckdgolojlaaK3
/- The document's paint, as the print has it: what its functions come to. -/
namespace Go.Proofs.Ytmcfckdgolojlaa
set_option linter.unusedVariables false
set_option linter.unusedSimpArgs false
open Go.RowKit
open PPaintPlays
theorem Ev.step3 {α : Type} {F G : Nat → Option α} {r : α} (h : ∀ k, F (k + 1 + 1 + 1) = G k) (hg : Ev G r) : Ev F r := by
  obtain ⟨K, hK⟩ := hg
  refine ⟨K + 3, fun k hk => ?_⟩
  obtain ⟨j, rfl⟩ : ∃ j, k = j + 1 + 1 + 1 := ⟨k - 3, by omega⟩
  rw [h, hK j (by omega)]
def toP (x : Pr) : S131 := ⟨x.t, x.v⟩
section
variable {p : Pl}
theorem rhas_f (a b cur i : Int) : greenscreenref14_Has.f a b p.sl cur i = some (p.has i) := by
  unfold greenscreenref14_Has.f Pl.has
  by_cases h : 0 ≤ i
  · rw [if_pos h, sl_len]
    congr 1
    exact decide_eq_decide.2 ⟨fun h1 => ⟨h, h1⟩, fun h1 => h1.2⟩
  · rw [if_neg h, decide_eq_false (fun h1 => h h1.1)]
theorem rset_f (hn : p.cells.length ≤ 4096) (i : Int) (x : Cel) : greenscreenref14_Set.f p.rows p.cols p.sl p.cur i x.b x.ge x.st x.li x.co = some ((p.set i x).rows, (p.set i x).cols, (p.set i x).sl, (p.set i x).cur) := by
  unfold greenscreenref14_Set.f
  rw [rhas_f, Option.bind_some]
  unfold Pl.set
  by_cases h : p.has i = true
  · have hh := has_ltB h
    have hl : i < (([] ++ p.sl : List S38).length : Int) := by rw [List.nil_append, sl_len]; exact hh.2
    rw [if_pos h, if_pos h, Option.bind_some, if_pos (by rw [sl_len]; simp; omega), Option.bind_some, if_pos hh.1, if_pos hl]
    simp only [List.nil_append]
    congr 4
    unfold Pl.sl
    rw [List.map_set]
    rfl
  · rw [if_neg h, if_neg h]
theorem rlay_f (hn : p.cells.length ≤ 4096) (i li co : Int) (ld : Bool) (h0 : 0 ≤ i) (h1 : i < p.n) (x : Cel) : greenscreenref16_lay.f p.rows p.cols p.sl p.cur i li co ld x.b x.ge x.st x.li x.co = some ((p.set i x).rows, (p.set i x).cols, (p.set i x).sl, (p.set i x).cur, (i + 1) % p.n, li, co, ld) := by
  unfold greenscreenref16_lay.f
  rw [rset_f hn, Option.bind_some]
  have hl : (((p.set i x).sl.length : Nat) : Int) = p.n := by rw [sl_len]; exact set_n p i x
  have hb : p.n ≤ 4096 := by unfold Pl.n; omega
  simp only [hl]
  rw [if_neg (by omega), w64 (by omega), Int.tmod_eq_emod_of_nonneg (by omega)]
end
theorem rdress_l (ps : List Pr) (hp : ∀ x ∈ ps, 0 ≤ x.v ∧ x.v < 256) (hl : ps.length ≤ 1000) : ∀ (d i : Nat) (c : Cel), i + d = ps.length →
    Ev (fun k => greenscreenref11_Dress.l0 k (ps.map toP) (i : Int) c.b c.ge c.st c.li c.co) ((c.dress (ps.drop i)).b, (c.dress (ps.drop i)).ge, (c.dress (ps.drop i)).st, (c.dress (ps.drop i)).li, (c.dress (ps.drop i)).co)
  | 0, i, c, h => Ev.step (G := fun _ => some (c.b, c.ge, c.st, c.li, c.co)) (fun k => by
      show greenscreenref11_Dress.l0 (k + 1) _ _ _ _ _ _ _ = _
      rw [greenscreenref11_Dress.l0, if_neg (by rw [List.length_map]; omega)]) (by
      rw [List.drop_eq_nil_of_le (by omega)]
      exact Ev.const fun _ => rfl)
  | d + 1, i, c, h => by
    have hi : i < ps.length := by omega
    have hx : rd_T131 (ps.map toP) (i : Int) = toP ps[i] := by
      unfold rd_T131
      simp [List.getD_eq_getElem?_getD, List.getElem?_eq_getElem hi]
    have hv := hp _ (List.getElem_mem hi)
    have hd : ps.drop i = ps[i] :: ps.drop (i + 1) := List.drop_eq_getElem_cons hi
    have hw : wrap64 ((i : Int) + 1) = ((i + 1 : Nat) : Int) := by rw [w64 (by omega)]; omega
    have hlen : ((ps.map toP).length : Int) = (ps.length : Int) := by rw [List.length_map]
    have ih := rdress_l ps hp hl d (i + 1) (c.wear ps[i]) (by omega)
    have hdr : c.dress (ps.drop i) = (c.wear ps[i]).dress (ps.drop (i + 1)) := by rw [hd]; rfl
    rw [hdr]
    generalize ps[i] = x at *
    refine Ev.step3 (G := fun k => greenscreenref11_Dress.l0 k (ps.map toP) ((i + 1 : Nat) : Int) (c.wear x).b (c.wear x).ge (c.wear x).st (c.wear x).li (c.wear x).co) (fun k => ?_) ih
    have c1 : (i : Int) < ((ps.map toP).length : Int) := by rw [hlen]; omega
    have c2 : (0 : Int) ≤ (i : Int) := by omega
    have c3 : (toP x).f0 = x.t := rfl
    have c4 : (toP x).f1 = x.v := rfl
    show greenscreenref11_Dress.l0 (k + 1 + 1 + 1) _ _ _ _ _ _ _ = _
    rw [greenscreenref11_Dress.l0, if_pos c1, if_pos c2, hx, c3, c4]
    unfold Cel.wear
    by_cases e1 : x.t = 192
    · rw [if_pos e1, greenscreenref11_Dress.j1, if_pos c2, if_pos c1, hx, c3, if_neg (by omega), greenscreenref11_Dress.j2, if_pos c2, if_pos c1, hx, c3, if_neg (by omega), if_neg (by omega), hw, if_pos e1, and63u hv, Int.tmod_eq_emod_of_nonneg hv.1]
    · rw [if_neg e1, greenscreenref11_Dress.j1, if_pos c2, if_pos c1, hx, c3, c4]
      rw [if_neg e1]
      by_cases e2 : x.t = 65
      · rw [if_pos e2, greenscreenref11_Dress.j2, if_pos c2, if_pos c1, hx, c3, if_neg (by omega), if_neg (by omega), hw, if_pos e2]
      · rw [if_neg e2, greenscreenref11_Dress.j2, if_pos c2, if_pos c1, hx, c3, c4]
        rw [if_neg e2]
        by_cases e3 : x.t = 66
        · rw [if_pos e3, if_neg (by omega), hw, if_pos e3]
        · rw [if_neg e3, hw, if_neg e3]
          by_cases e4 : x.t = 0
          · rw [if_pos e4, if_pos e4]
          · rw [if_neg e4, if_neg e4]
theorem rdress_f (c : Cel) (ps : List Pr) (hp : ∀ x ∈ ps, 0 ≤ x.v ∧ x.v < 256) (hl : ps.length ≤ 1000) :
    Ev (fun k => greenscreenref11_Dress.f k c.b c.ge c.st c.li c.co (ps.map toP)) ((c.dress ps).b, (c.dress ps).ge, (c.dress ps).st, (c.dress ps).li, (c.dress ps).co) := rdress_l ps hp hl ps.length 0 c (by omega)
end Go.Proofs.Ytmcfckdgolojlaa
