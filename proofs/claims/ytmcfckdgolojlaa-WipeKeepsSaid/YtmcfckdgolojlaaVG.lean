/- What Open keeps (plain law), as a contract. -/
import Derived.Test.YtmcfckdgolojlaaVF
namespace Go.Proofs.Ytmcfckdgolojlaa
set_option linter.unusedVariables false
set_option linter.unusedSimpArgs false
open Go.RowKit
theorem opk_cur (p : Pl) : ∀ k, (p.opk k).1.cur = p.cur
  | 0 => rfl
  | k + 1 => by
    unfold Pl.opk
    split
    · exact (set_cur _ _ _).trans (opk_cur p k)
    · exact opk_cur p k
theorem opk_at {p : Pl} (hby : ∀ y ∈ p.cells, 0 ≤ y.b ∧ y.b < 256) : ∀ k : Nat, k ≤ p.cells.length → Kin p (p.opk k).1 ∧ ∀ i, (p.opk k).1.at i = if (0 ≤ i ∧ i < k) ∧ p.open_ i = true then Cel.zero else p.at i
  | 0, _ => ⟨Kin.refl p, fun i => by rw [if_neg (by omega)]; rfl⟩
  | k + 1, hk => by
    obtain ⟨h1, h2⟩ := opk_at hby k (by omega)
    have hd := opk_dims p (k + 1)
    have hat : ∀ i, (p.opk (k + 1)).1.at i = if (0 ≤ i ∧ i < (k + 1 : Nat)) ∧ p.open_ i = true then Cel.zero else p.at i := fun i => by
      unfold Pl.opk
      rw [h1.open_]
      by_cases ho : p.open_ (k : Int) = true
      · rw [if_pos ho]
        show ((p.opk k).1.set (k : Int) Cel.zero).at i = _
        have hh : (p.opk k).1.has (k : Int) = true := by
          unfold Pl.has
          rw [h1.n]
          exact decide_eq_true (by unfold Pl.n; omega)
        rw [set_at, h2]
        by_cases e : i = (k : Int)
        · rw [if_pos ⟨e, hh⟩, if_pos ⟨by omega, by rw [e]; exact ho⟩]
        · rw [if_neg (fun x => e x.1)]
          by_cases hc : (0 ≤ i ∧ i < (k : Int)) ∧ p.open_ i = true
          · rw [if_pos hc, if_pos ⟨by omega, hc.2⟩]
          · rw [if_neg hc, if_neg (fun x => hc ⟨by omega, x.2⟩)]
      · rw [if_neg ho, h2]
        by_cases hc : (0 ≤ i ∧ i < (k : Int)) ∧ p.open_ i = true
        · rw [if_pos hc, if_pos ⟨by omega, hc.2⟩]
        · rw [if_neg hc, if_neg]
          rintro ⟨x1, x2⟩
          rcases Int.lt_or_eq_of_le (show i ≤ (k : Int) by omega) with h3 | h3
          · exact hc ⟨⟨x1.1, h3⟩, x2⟩
          · exact ho (by rw [← h3]; exact x2)
    refine ⟨Kin.of hby hd.2.2.1 (fun i => ?_), hat⟩
    rw [hat]
    by_cases hs : p.st i = true
    · rw [if_pos hs, if_neg (fun x => by rw [open_st x.2] at hs; cases hs)]
      exact .inl rfl
    · rw [if_neg hs]
      split
      · rfl
      · simpa [Pl.st] using hs
/-- is the attribute there, and not protected? -/
def hits (l : List (Int × Int × Bool)) (i : Int) : Bool := l.any fun x => x.1 == i && !x.2.2
theorem tame_at {q : Pl} (hb : ∀ i, 0 ≤ (q.at i).b ∧ (q.at i).b < 256) : ∀ (l : List (Int × Int × Bool)), (∀ x ∈ l, 0 ≤ x.1 ∧ x.1 < q.n) → ∀ i, (q.tameK l).at i = if hits l i = true then (q.at i).mod false else q.at i := by
  intro l
  obtain ⟨k, hk⟩ : ∃ k, l.length = k := ⟨_, rfl⟩
  induction k generalizing l with
  | zero =>
    intro _ i
    rw [List.eq_nil_of_length_eq_zero hk]
    rfl
  | succ k ih =>
    intro hl i
    rcases List.eq_nil_or_concat l with rfl | ⟨l', x, rfl⟩
    · simp at hk
    · rw [List.concat_eq_append] at hl ⊢
      have ih := ih l' (by simpa using hk) (fun y hy => hl y (List.mem_append_left _ hy)) 
      have hh : hits (l' ++ [x]) i = (hits l' i || (x.1 == i && !x.2.2)) := by unfold hits; simp
      have hd : ∀ m : List (Int × Int × Bool), (q.tameK m).n = q.n := by
        intro m
        have : ∀ (m : List (Int × Int × Bool)) (z : Pl), (z.tameK m).cells.length = z.cells.length := by
          intro m
          induction m with
          | nil => intro z; rfl
          | cons y m ihm =>
            intro z
            show ((Pl.tameK (if y.2.2 then z else z.modP y.1 false) m).cells).length = _
            rw [ihm]
            split
            · rfl
            · exact (set_dims _ _ _).2.2
        unfold Pl.n
        rw [this]
      rw [tameK_snoc, hh]
      cases hx : x.2.2
      · rw [if_neg (by simp)]
        unfold Pl.modP
        obtain ⟨x0, x1⟩ := hl x (by simp)
        have hhas : (q.tameK l').has x.1 = true := by unfold Pl.has; rw [hd]; exact decide_eq_true ⟨x0, x1⟩
        rw [set_at]
        by_cases e : i = x.1
        · rw [if_pos ⟨e, hhas⟩, ← e, ih]
          have : (i == i && !false) = true := by simp
          rw [this, Bool.or_true, if_pos rfl]
          split
          · exact mod_mod _ (hb i) false
          · rfl
        · rw [if_neg (fun y => e y.1), ih]
          have : (x.1 == i && !false) = false := by simpa using fun h => e h.symm
          rw [this, Bool.or_false]
      · rw [if_pos rfl, ih]
        simp
theorem tame_dims (l : List (Int × Int × Bool)) : ∀ q : Pl, (q.tameK l).rows = q.rows ∧ (q.tameK l).cols = q.cols ∧ (q.tameK l).cells.length = q.cells.length ∧ (q.tameK l).cur = q.cur := by
  induction l with
  | nil => intro q; exact ⟨rfl, rfl, rfl, rfl⟩
  | cons y m ih =>
    intro q
    obtain ⟨h1, h2, h3, h4⟩ := ih (if y.2.2 then q else q.modP y.1 false)
    have k : ∀ b : Bool, (if b then q else q.modP y.1 false).rows = q.rows ∧ (if b then q else q.modP y.1 false).cols = q.cols ∧ (if b then q else q.modP y.1 false).cells.length = q.cells.length ∧ (if b then q else q.modP y.1 false).cur = q.cur := fun b => by
      cases b
      · exact ⟨(set_dims _ _ _).1, (set_dims _ _ _).2.1, (set_dims _ _ _).2.2, set_cur _ _ _⟩
      · exact ⟨rfl, rfl, rfl, rfl⟩
    exact ⟨h1.trans (k _).1, h2.trans (k _).2.1, h3.trans (k _).2.2.1, h4.trans (k _).2.2.2⟩
theorem flds_mem {q : Pl} {x : Int × Int × Bool} (h : x ∈ (q.flds q.cells.length).map FV.key) : q.st x.1 = true ∧ x.2.2 = bitB (q.attrAt x.1) 32 := by
  obtain ⟨f, hf, rfl⟩ := List.mem_map.1 h
  unfold Pl.flds at hf
  obtain ⟨j, hj, rfl⟩ := List.mem_map.1 hf
  exact ⟨(List.mem_filter.1 hj).2, rfl⟩
theorem flds_has {q : Pl} {i : Int} (h : q.st i = true) : (i, q.lenAt i, bitB (q.attrAt i) 32) ∈ (q.flds q.cells.length).map FV.key := by
  obtain ⟨h0, h1⟩ := st_in h
  refine List.mem_map.2 ⟨q.fld i, ?_, rfl⟩
  unfold Pl.flds
  refine List.mem_map.2 ⟨i.toNat, List.mem_filter.2 ⟨List.mem_range.2 (by unfold Pl.n at h1; omega), ?_⟩, ?_⟩
  · rw [Int.toNat_of_nonneg h0]; exact h
  · rw [Int.toNat_of_nonneg h0]
theorem point_at2 (p : Pl) (k i : Int) : (p.point k).at i = p.at i := by unfold Pl.point; split <;> rfl
theorem point_dims (p : Pl) (k : Int) : (p.point k).rows = p.rows ∧ (p.point k).cols = p.cols ∧ (p.point k).cells = p.cells := by unfold Pl.point; split <;> exact ⟨rfl, rfl, rfl⟩
theorem homeM_point (p : Pl) (k : Int) : (p.point k).homeM = p.homeM := by unfold Pl.point; split <;> rfl
theorem point_twice (p : Pl) (k : Int) : (p.point k).point k = p.point k := by
  unfold Pl.point
  by_cases h : p.has k = true
  · rw [if_pos h]
    split <;> rfl
  · rw [if_neg h, if_neg h]
theorem set_same {q : Pl} {i : Int} {x : Cel} (h : q.at i = x) : q.set i x = q := by
  refine pl_ext (set_dims _ _ _).1 (set_dims _ _ _).2.1 (set_cur _ _ _) (set_dims _ _ _).2.2 (fun j j0 j1 => ?_)
  rw [set_at]
  split
  · next hc => rw [hc.1, h]
  · rfl
theorem opk_same {q : Pl} (hz : ∀ i, q.open_ i = true → q.at i = Cel.zero) : ∀ k, (q.opk k).1 = q
  | 0 => rfl
  | k + 1 => by
    have ih := opk_same hz k
    unfold Pl.opk
    split
    · next ho =>
      rw [ih] at ho
      show (q.opk k).1.set (k : Int) Cel.zero = q
      rw [ih]
      exact set_same (hz _ ho)
    · exact ih
theorem tame_same {q : Pl} : ∀ (l : List (Int × Int × Bool)), (∀ x ∈ l, x.2.2 = true ∨ q.modP x.1 false = q) → q.tameK l = q
  | [], _ => rfl
  | x :: l, h => by
    have h1 : (if x.2.2 then q else q.modP x.1 false) = q := by
      rcases h x (by simp) with e | e
      · rw [if_pos e]
      · split
        · rfl
        · exact e
    show Pl.tameK (if x.2.2 then q else q.modP x.1 false) l = q
    rw [h1]
    exact tame_same l (fun y hy => h y (List.mem_cons_of_mem _ hy))
def KeepR (p r : Pl) : Prop := r.cells.length = p.cells.length ∧ ∀ i, 0 ≤ i → i < p.n → (p.st i = true → modB (r.at i).b false = modB (p.at i).b false ∧ (r.at i).st = true) ∧ (p.st i = false → p.open_ i = false → r.at i = p.at i) ∧ (p.open_ i = true → r.at i = Cel.zero)
def AgainO (q : Pl) : Prop := ∀ w2 g2 c2, PlAt w2 g2 c2 q → Calls Try.prog 41 #[.pointer (some ⟨g2, 0, none⟩)] w2 (fun e w' => (∃ n, e = .returned (.int .i64 n)) ∧ PlAt w' g2 c2 q ∧ Chg [g2, c2] w2 w')
theorem Open_keep (g c : Nat) (p : Pl) (w : World) (h : PlAt w g c p) :
    Calls Try.prog 41 #[.pointer (some ⟨g, 0, none⟩)] w (fun e w' => ∃ r n, e = .returned (.int .i64 n) ∧ PlAt w' g c r ∧ Chg [g, c] w w' ∧ KeepR p r ∧ AgainO r) := by
  have hby := h.ok.by_
  obtain ⟨hk, hat⟩ := opk_at hby p.cells.length (Nat.le_refl _)
  have hd := opk_dims p p.cells.length
  obtain ⟨R, hR⟩ : ∃ R, p.opk p.cells.length = R := ⟨_, rfl⟩
  have hop := Open17_any g c p w h
  rw [hR] at hk hat hd hop
  obtain ⟨Q, m⟩ := R
  simp only at hk hat hd hop
  have hb : ∀ i, 0 ≤ (Q.at i).b ∧ (Q.at i).b < 256 := fun i => by
    rw [hat]
    split
    · decide
    · exact at_bdd hby i
  have hl : ∀ x ∈ (Q.flds Q.cells.length).map FV.key, 0 ≤ x.1 ∧ x.1 < Q.n := fun x hx => st_in (flds_mem hx).1
  rw [show (Q.flds p.cells.length) = Q.flds Q.cells.length by rw [hd.2.2.1]] at hop
  have hta := tame_at hb _ hl
  have htd := tame_dims ((Q.flds Q.cells.length).map FV.key) Q
  have hhit : ∀ i, hits ((Q.flds Q.cells.length).map FV.key) i = (Q.st i && !bitB (Q.attrAt i) 32) := fun i => by
    rw [Bool.eq_iff_iff]
    unfold hits
    rw [List.any_eq_true]
    constructor
    · rintro ⟨x, hx, hx2⟩
      obtain ⟨k1, k2⟩ := flds_mem hx
      simp only [Bool.and_eq_true, beq_iff_eq, Bool.not_eq_true'] at hx2
      rw [hx2.1] at k1 k2
      rw [k2] at hx2
      simp [k1, hx2.2]
    · intro hx
      simp only [Bool.and_eq_true, Bool.not_eq_true'] at hx
      refine ⟨_, flds_has hx.1, ?_⟩
      simp [hx.2]
  obtain ⟨T, hT⟩ : ∃ T, Q.tameK ((Q.flds Q.cells.length).map FV.key) = T := ⟨_, rfl⟩
  rw [hT] at hop hta htd
  have hra : ∀ i, (T.point T.homeM).at i = if (Q.st i && !bitB (Q.attrAt i) 32) = true then (Q.at i).mod false else Q.at i := fun i => by rw [point_at2, hta, hhit]
  have hpd := point_dims T T.homeM
  have hnn : p.n = (p.cells.length : Int) := rfl
  have hqo : ∀ i, Q.at i = if (0 ≤ i ∧ i < p.n) ∧ p.open_ i = true then Cel.zero else p.at i := fun i => by rw [hat, hnn]
  obtain ⟨r, hr⟩ : ∃ r, T.point T.homeM = r := ⟨_, rfl⟩
  rw [hr] at hra hpd hop
  have hrl : r.cells.length = p.cells.length := by rw [hpd.2.2, htd.2.2.1, hd.2.2.1]
  have hQst : ∀ i, Q.st i = p.st i := fun i => by rw [hk.st]
  have hrk : Kin p r := Kin.of hby hrl (fun i => by
    rw [hra, hqo]
    by_cases hs : p.st i = true
    · rw [if_pos hs, if_neg (fun x : (0 ≤ i ∧ i < p.n) ∧ p.open_ i = true => by rw [open_st x.2] at hs; cases hs)]
      split
      · exact .inr ⟨false, rfl⟩
      · exact .inl rfl
    · rw [if_neg hs, if_neg (by rw [hQst]; simp [hs])]
      split
      · rfl
      · simpa [Pl.st] using hs)
  have hzero : ∀ i, p.open_ i = true → r.at i = Cel.zero := fun i hi => by
    have := open_in h.ok.sz.n0 hi
    rw [hra, if_neg (by rw [hQst, open_st hi]; simp), hqo, if_pos ⟨this, hi⟩]
  refine hop.mono fun e w' ⟨h1, h2, h3⟩ => ⟨r, m, h1, h2, h3, ⟨hrl, fun i i0 i1 => ⟨fun hs => ?_, fun hs ho => ?_, fun ho => hzero i ho⟩⟩, ?_⟩
  · rw [hra, hqo, if_neg (fun x : (0 ≤ i ∧ i < p.n) ∧ p.open_ i = true => by rw [open_st x.2] at hs; cases hs)]
    split
    · exact ⟨modB_idem2 _ (at_bdd hby i) false false, hs⟩
    · exact ⟨rfl, hs⟩
  · rw [hra, if_neg (by rw [hQst, hs]; simp), hqo, if_neg (fun x => by rw [ho] at x; cases x.2)]
  · intro w2 g2 c2 hp
    have hop2 := Open17_any g2 c2 r w2 hp
    rw [opk_same (fun i hi => hzero i (by rw [← hrk.open_]; exact hi))] at hop2
    have ht2 : r.tameK ((r.flds r.cells.length).map FV.key) = r := tame_same _ (fun x hx => by
      obtain ⟨k1, k2⟩ := flds_mem hx
      cases hx2 : x.2.2
      · right
        unfold Pl.modP
        refine set_same ?_
        have hps : p.st x.1 = true := by rw [← hrk.st]; exact k1
        have hqb : bitB (Q.attrAt x.1) 32 = false := by rw [hk.prot _ hps, ← hrk.prot _ hps, ← k2]; exact hx2
        have := hra x.1
        rw [if_pos (by rw [hQst, hps, hqb]; rfl)] at this
        rw [this, mod_mod _ (hb _)]
      · exact .inl rfl)
    rw [ht2] at hop2
    have hpp : r.point r.homeM = r := by
      rw [← hr, homeM_point, point_twice]
    rw [hpp] at hop2
    exact hop2.mono fun e w' ⟨h1, h2, h3⟩ => ⟨⟨_, h1⟩, h2, h3⟩
end Go.Proofs.Ytmcfckdgolojlaa
