/- What Rest and Open keep (plain law), as contracts. -/
import Derived.Test.YtmcfckdgolojlaaVE
namespace Go.Proofs.Ytmcfckdgolojlaa
set_option linter.unusedVariables false
set_option linter.unusedSimpArgs false
open Go.RowKit
theorem pl_ext {p q : Pl} (h1 : q.rows = p.rows) (h2 : q.cols = p.cols) (h3 : q.cur = p.cur) (h4 : q.cells.length = p.cells.length) (h : ∀ i, 0 ≤ i → i < p.n → q.at i = p.at i) : q = p := by
  have hc : q.cells = p.cells := by
    refine List.ext_getElem h4 (fun k k1 k2 => ?_)
    have := h (k : Int) (by omega) (by unfold Pl.n; omega)
    unfold Pl.at Pl.n at this
    rw [if_pos (by omega), if_pos (by omega)] at this
    simpa [k1, k2] using this
  cases p; cases q
  simp only at h1 h2 h3 hc
  subst h1 h2 h3 hc
  rfl
theorem at_out {p : Pl} {i : Int} (h : ¬ (0 ≤ i ∧ i < p.n)) : p.at i = Cel.zero := by unfold Pl.at; rw [if_neg h]
theorem set_cur (p : Pl) (i : Int) (x : Cel) : (p.set i x).cur = p.cur := by unfold Pl.set; split <;> rfl
theorem set_nF (p : Pl) (i : Int) (x : Cel) : (p.set i x).n = p.n := by unfold Pl.n; rw [(set_dims p i x).2.2]
theorem set_has (p : Pl) (i j : Int) (x : Cel) : (p.set i x).has j = p.has j := by unfold Pl.has; rw [set_nF]
theorem modB_idem2 (b : Int) (h : 0 ≤ b ∧ b < 256) (x y : Bool) : modB (modB b x) y = modB b y := by
  obtain ⟨k, rfl⟩ := Int.eq_ofNat_of_zero_le h.1
  have hk : k < 256 := by omega
  exact (by decide +kernel : ∀ k : Fin 256, ∀ x y : Bool, modB (modB (k.val : Int) x) y = modB (k.val : Int) y) ⟨k, hk⟩ x y
theorem modB_prot2 (b : Int) (h : 0 ≤ b ∧ b < 256) (x : Bool) : bitB (Go.bits .and .u8 (modB b x) 63) 32 = bitB (Go.bits .and .u8 b 63) 32 := by
  obtain ⟨k, rfl⟩ := Int.eq_ofNat_of_zero_le h.1
  have hk : k < 256 := by omega
  exact (by decide +kernel : ∀ k : Fin 256, ∀ x : Bool, bitB (Go.bits .and .u8 (modB (k.val : Int) x) 63) 32 = bitB (Go.bits .and .u8 (k.val : Int) 63) 32) ⟨k, hk⟩ x
/-- the same attributes, but for whether they are modified -/
structure Kin (p q : Pl) : Prop where
  len : q.cells.length = p.cells.length
  st : q.st = p.st
  prot : ∀ i, p.st i = true → bitB (q.attrAt i) 32 = bitB (p.attrAt i) 32
theorem Kin.n {p q : Pl} (h : Kin p q) : q.n = p.n := by unfold Pl.n; rw [h.len]
theorem Kin.before {p q : Pl} (h : Kin p q) (i : Int) : q.before i = p.before i := before_same h.st h.len i
theorem Kin.after {p q : Pl} (h : Kin p q) (i : Int) : q.after i = p.after i := by
  unfold Pl.after Pl.lookM
  rw [h.n, h.st, h.len]
theorem Kin.lenAt {p q : Pl} (h : Kin p q) (i : Int) : q.lenAt i = p.lenAt i := by
  unfold Pl.lenAt
  rw [h.after, h.n]
theorem Kin.open_ {p q : Pl} (h : Kin p q) (i : Int) : q.open_ i = p.open_ i := by
  unfold Pl.open_
  rw [h.before]
  by_cases hb : p.before i < 0
  · rw [if_pos hb, if_pos hb]
    unfold Pl.has
    rw [h.n]
  · rw [if_neg hb, if_neg hb, h.prot _ ((before_cases i).resolve_left (by omega))]
theorem Kin.refl (p : Pl) : Kin p p := ⟨rfl, rfl, fun _ _ => rfl⟩
theorem Kin.trans {p q r : Pl} (h : Kin p q) (k : Kin q r) : Kin p r :=
  ⟨k.len.trans h.len, k.st.trans h.st, fun i hi => (k.prot i (by rw [h.st]; exact hi)).trans (h.prot i hi)⟩
theorem Kin.of {p q : Pl} (hby : ∀ y ∈ p.cells, 0 ≤ y.b ∧ y.b < 256) (hl : q.cells.length = p.cells.length) (h : ∀ i, if p.st i = true then q.at i = p.at i ∨ ∃ x, q.at i = (p.at i).mod x else (q.at i).st = false) : Kin p q := by
  refine ⟨hl, ?_, fun i hi => ?_⟩
  · funext i
    have := h i
    split at this
    · next hs =>
      rw [hs]
      unfold Pl.st at *
      rcases this with e | ⟨x, e⟩ <;> rw [e]
      · exact hs
      · exact hs
    · next hs =>
      have : p.st i = false := by simpa using hs
      rw [this]
      unfold Pl.st
      assumption
  · have := h i
    rw [if_pos hi] at this
    unfold Pl.attrAt
    rcases this with e | ⟨x, e⟩ <;> rw [e]
    exact modB_prot2 _ (at_bdd hby i) x
/-- no attribute, where something may be typed -/
theorem open_st {p : Pl} {i : Int} (h : p.open_ i = true) : p.st i = false := by
  rcases Bool.eq_false_or_eq_true (p.st i) with hs | hs
  · exfalso
    have hb := before_self hs
    have := (st_in hs).1
    unfold Pl.open_ at h
    rw [hb, if_neg (by omega)] at h
    simp at h
  · exact hs
theorem open_in {p : Pl} (hn : 1 ≤ p.n) {i : Int} (h : p.open_ i = true) : 0 ≤ i ∧ i < p.n := by
  unfold Pl.open_ at h
  split at h
  · exact has_lt h
  · next hb =>
    rcases Classical.em (0 ≤ i ∧ i < p.n) with hc | hc
    · exact hc
    · exfalso
      apply hb
      unfold Pl.before Pl.lookM
      rw [if_neg hc]
      decide
/-! ### Rest -/
def KeepQ (p q : Pl) (a n : Int) (is : Bool) : Prop :=
  is = p.open_ a ∧ decide (0 < n) = is ∧ (is = true → q.at a = Cel.zero) ∧ q.cells.length = p.cells.length ∧
  ∀ i, 0 ≤ i → i < p.n → (p.st i = true → modB (q.at i).b false = modB (p.at i).b false ∧ (q.at i).st = true) ∧ (p.st i = false → p.open_ i = false → q.at i = p.at i)
def AgainR (a : Int) (q : Pl) : Prop := ∀ w2 g2 c2, PlAt w2 g2 c2 q → Calls Try.prog 40 #[.pointer (some ⟨g2, 0, none⟩), .int .i64 a] w2 (fun e w' => (∃ n b, e = .returned (.tuple #[.int .i64 n, .bool b])) ∧ PlAt w' g2 c2 q ∧ Chg [g2, c2] w2 w')
theorem mod_mod (x : Cel) (h : 0 ≤ x.b ∧ x.b < 256) (o : Bool) : (x.mod o).mod o = x.mod o := by
  unfold Cel.mod
  simp only
  rw [modB_idem2 _ h]
theorem restP_self {q : Pl} {a s L : Int} (h : RestOk q a s L) (hL : L = q.lenAt s) (hz : ∀ i, 0 ≤ i → i < q.n → far q.n s a ≤ far q.n s i → far q.n s i ≤ L → q.at i = Cel.zero) : q.restP a = q := by
  obtain ⟨d1, d2, d3, d4⟩ := gone_dims q (q.restL a)
  refine pl_ext d1 d2 d4 d3 (fun i h0 h1 => ?_)
  rw [rest_at h hL]
  split
  · next hc => exact (hz i h0 h1 hc.2.2.1 hc.2.2.2).symm
  · rfl
theorem btw_mem {n a : Int} (a0 : 0 ≤ a) (a1 : a < n) : a ∈ btwN n a (btwM n a 0) := by
  unfold btwN
  refine List.mem_map.2 ⟨0, List.mem_range.2 (by unfold btwM; omega), ?_⟩
  rw [show a + ((0 : Nat) : Int) = a by omega]
  exact Int.emod_eq_of_lt a0 a1
theorem btw_bd {n a : Int} {m : Nat} (hn : 1 ≤ n) : ∀ x ∈ btwN n a m, 0 ≤ x ∧ x < n := fun x hx => by
  unfold btwN at hx
  obtain ⟨j, _, rfl⟩ := List.mem_map.1 hx
  exact ⟨Int.emod_nonneg _ (by omega), Int.emod_lt_of_pos _ (by omega)⟩
theorem Rest_keep (g c : Nat) (p : Pl) (a : Int) (w : World) (h : PlAt w g c p) :
    Calls Try.prog 40 #[.pointer (some ⟨g, 0, none⟩), .int .i64 a] w (fun e w' => ∃ q n is, e = .returned (.tuple #[.int .i64 n, .bool is]) ∧ PlAt w' g c q ∧ Chg [g, c] w w' ∧ KeepQ p q a n is ∧ AgainR a q) := by
  have hby := h.ok.by_
  have hn := h.ok.sz.n0
  cases ho : p.open_ a
  · refine (Rest_shut g c p a ho w h).mono fun e w' ⟨h1, h2, h3⟩ => ⟨p, 0, false, h1, h2, h3, ⟨ho.symm, rfl, (fun e => by cases e), rfl, fun i i0 i1 => ⟨fun hs => ⟨rfl, hs⟩, fun _ _ => rfl⟩⟩, ?_⟩
    intro w2 g2 c2 hp
    exact (Rest_shut g2 c2 p a ho w2 hp).mono fun e w' ⟨h1, h2, h3⟩ => ⟨⟨_, _, h1⟩, h2, h3⟩
  · obtain ⟨a0, a1⟩ := open_in hn ho
    by_cases hb : p.before a < 0
    · have hno : ∀ i, p.st i = false := fun i => by
        rcases Bool.eq_false_or_eq_true (p.st i) with hs | hs
        · have := before_all hs a0 a1
          omega
        · exact hs
      have hat : ∀ i, (p.puts (btwN p.n a (btwM p.n a 0)) Cel.zero).at i = if i ∈ btwN p.n a (btwM p.n a 0) then Cel.zero else p.at i := fun i => gone_at p _ i (btw_bd hn)
      have hd := gone_dims p (btwN p.n a (btwM p.n a 0))
      obtain ⟨q, hq⟩ : ∃ q, p.puts (btwN p.n a (btwM p.n a 0)) Cel.zero = q := ⟨_, rfl⟩
      rw [show p.gone (btwN p.n a (btwM p.n a 0)) = q from hq] at hd
      rw [hq] at hat
      have hk : Kin p q := Kin.of hby hd.2.2.1 (fun i => by
        rw [if_neg (by simp [hno i]), hat]
        split
        · rfl
        · exact hno i)
      refine (Rest_plain g c p a ho hb a0 a1 w h).mono fun e w' ⟨h1, h2, h3⟩ => ⟨q, p.n - a, true, h1, by rw [← hq]; exact h2, h3, ⟨ho.symm, decide_eq_true (by omega), fun _ => by rw [hat, if_pos (btw_mem a0 a1)], hd.2.2.1, fun i i0 i1 => ⟨fun hs => (by rw [hno i] at hs; cases hs), fun _ h5 => ?_⟩⟩, ?_⟩
      · exfalso
        unfold Pl.open_ at h5
        have : p.before i < 0 := by
          rcases before_cases (p := p) i with e | e
          · omega
          · rw [hno] at e; cases e
        rw [if_pos this] at h5
        unfold Pl.has at h5
        simp at h5
        omega
      · intro w2 g2 c2 hp
        refine (Rest_plain g2 c2 q a (by rw [hk.open_]; exact ho) (by rw [hk.before]; exact hb) a0 (by rw [hk.n]; exact a1) w2 hp).mono fun e w' ⟨h1, h2, h3⟩ => ⟨⟨_, _, h1⟩, ?_, h3⟩
        have he : q.puts (btwN q.n a (btwM q.n a 0)) Cel.zero = q := by
          have hd2 := gone_dims q (btwN q.n a (btwM q.n a 0))
          refine pl_ext hd2.1 hd2.2.1 hd2.2.2.2 hd2.2.2.1 (fun i i0 i1 => ?_)
          rw [show (q.puts (btwN q.n a (btwM q.n a 0)) Cel.zero).at i = _ from gone_at q _ i (btw_bd (by rw [hk.n]; exact hn)), hk.n]
          split
          · next hm => rw [hat, if_pos hm]
          · rfl
        rw [he] at h2
        exact h2
    · have hs : p.st (p.before a) = true := (before_cases a).resolve_left (by omega)
      obtain ⟨s, hsE⟩ : ∃ s, p.before a = s := ⟨_, rfl⟩
      rw [hsE] at hs hb
      have hF := fld_ok hs
      obtain ⟨L, hL⟩ : ∃ L, p.lenAt s = L := ⟨_, rfl⟩
      rw [hL] at hF
      have hne : a ≠ s := fun e => by
        unfold Pl.open_ at ho
        rw [hsE, if_neg hb] at ho
        simp [e] at ho
      have hR : RestOk p a s L := ⟨hF, a0, a1, ⟨hsE, hne⟩⟩
      obtain ⟨l1, _, _⟩ := rest_list hR hL.symm
      have hda := (mine_far hF a0 a1).1 ⟨hsE, hne⟩
      have hb1 : decide (0 ≤ (p.restP a).before a) = true := decide_eq_true (by rw [rest_before hR hL.symm, hsE]; exact hF.s0)
      have hat : ∀ i, ((p.restP a).mark a).at i = if i = s then (p.at s).mod true else if 0 ≤ i ∧ i < p.n ∧ far p.n s a ≤ far p.n s i ∧ far p.n s i ≤ L then Cel.zero else p.at i := fun i => by
        by_cases hi : i = s
        · rw [if_pos hi, hi]
          unfold Pl.mark
          rw [rest_before hR hL.symm, hsE, if_neg hb]
          unfold Pl.modP
          have hh : (p.restP a).has s = true := by
            unfold Pl.has
            rw [rest_n]
            exact decide_eq_true ⟨hF.s0, hF.s1⟩
          rw [set_at, if_pos ⟨rfl, hh⟩, rest_at hR hL.symm, if_neg (by rintro ⟨_, _, h5, _⟩; rw [(far_zero hF.s0 hF.s1 hF.s0 hF.s1).2 rfl] at h5; omega)]
        · rw [if_neg hi, mark_at (by rw [rest_before hR hL.symm, hsE]; exact hi), rest_at hR hL.symm]
      have hd := gone_dims p (p.restL a)
      have hdm : ((p.restP a).mark a).rows = p.rows ∧ ((p.restP a).mark a).cols = p.cols ∧ ((p.restP a).mark a).cells.length = p.cells.length ∧ ((p.restP a).mark a).cur = p.cur := by
        unfold Pl.mark Pl.modP
        split
        · exact hd
        · have k := set_dims (p.restP a) ((p.restP a).before a) (((p.restP a).at ((p.restP a).before a)).mod true)
          exact ⟨k.1.trans hd.1, k.2.1.trans hd.2.1, k.2.2.trans hd.2.2.1, (set_cur _ _ _).trans hd.2.2.2⟩
      obtain ⟨q, hq⟩ : ∃ q, (p.restP a).mark a = q := ⟨_, rfl⟩
      rw [hq] at hat hdm
      have hns : ∀ i, 0 ≤ i → i < p.n → far p.n s a ≤ far p.n s i → far p.n s i ≤ L → p.st i = false := fun i i0 i1 h5 h6 => mine_st hF i0 i1 ((mine_far hF i0 i1).2 ⟨by omega, h6⟩)
      have hk : Kin p q := Kin.of hby hdm.2.2.1 (fun i => by
        by_cases hi : i = s
        · rw [hi, if_pos hs, hat, if_pos rfl]
          exact .inr ⟨true, rfl⟩
        · rw [hat, if_neg hi]
          by_cases hc : 0 ≤ i ∧ i < p.n ∧ far p.n s a ≤ far p.n s i ∧ far p.n s i ≤ L
          · rw [if_pos hc, if_neg (by rw [hns i hc.1 hc.2.1 hc.2.2.1 hc.2.2.2]; simp)]
            rfl
          · rw [if_neg hc]
            split
            · exact .inl rfl
            · next h5 => simpa [Pl.st] using h5)
      have hFq : FldOk q s L := ⟨hF.s0, by rw [hk.n]; exact hF.s1, by rw [hk.st]; exact hF.st, hF.l0, by rw [hk.n]; exact hF.l1, fun j j1 j2 => by rw [hk.st, hk.n]; exact hF.no j j1 j2, by rw [hk.st, hk.n]; exact hF.yes⟩
      refine (Rest_field g c p a ho (by rw [hsE]; exact hb) w h).mono fun e w' ⟨h1, h2, h3⟩ => ⟨q, _, _, h1, by rw [← hq]; exact h2, h3, ⟨by rw [hb1, ho], by rw [hb1]; exact decide_eq_true (by omega), fun _ => ?_, hdm.2.2.1, fun i i0 i1 => ⟨fun h5 => ?_, fun h5 h6 => ?_⟩⟩, ?_⟩
      · rw [hat, if_neg hne, if_pos ⟨a0, a1, by omega, hda.2⟩]
      · rw [hat]
        by_cases hi : i = s
        · rw [if_pos hi, hi]
          exact ⟨modB_idem2 _ (at_bdd hby s) true false, hs⟩
        · rw [if_neg hi, if_neg (by rintro ⟨_, _, h7, h8⟩; rw [hns i i0 i1 h7 h8] at h5; cases h5)]
          exact ⟨rfl, h5⟩
      · rw [hat]
        have hi : i ≠ s := fun e => by rw [e, hs] at h5; cases h5
        rw [if_neg hi, if_neg ?_]
        rintro ⟨_, _, h7, h8⟩
        obtain ⟨hm1, hm2⟩ := (mine_far hF i0 i1).2 ⟨by omega, h8⟩
        unfold Pl.open_ at h6 ho
        rw [hm1, if_neg hb] at h6
        rw [hsE, if_neg hb] at ho
        have : (s != i) = true := by simpa using (fun e : s = i => hm2 e.symm)
        rw [this, Bool.true_and] at h6
        rw [h6, Bool.and_false] at ho
        cases ho
      · intro w2 g2 c2 hp
        have hRq : RestOk q a s L := ⟨hFq, a0, by rw [hk.n]; exact a1, ⟨by rw [hk.before]; exact hsE, hne⟩⟩
        have hself : q.restP a = q := restP_self hRq (by rw [hk.lenAt]; exact hL.symm) (fun i i0 i1 h5 h6 => by
          rw [hk.n] at i1 h5 h6
          have hi : i ≠ s := fun e => by
            rw [e, (far_zero hF.s0 hF.s1 hF.s0 hF.s1).2 rfl] at h5
            omega
          rw [hat, if_neg hi, if_pos ⟨i0, i1, h5, h6⟩])
        refine (Rest_field g2 c2 q a (by rw [hk.open_]; exact ho) (by rw [hk.before, hsE]; exact hb) w2 hp).mono fun e w' ⟨h1, h2, h3⟩ => ⟨⟨_, _, h1⟩, ?_, h3⟩
        have hmk : q.mark a = q := by
          unfold Pl.mark
          rw [hk.before, hsE, if_neg hb]
          unfold Pl.modP
          refine pl_ext (set_dims _ _ _).1 (set_dims _ _ _).2.1 (set_cur _ _ _) (set_dims _ _ _).2.2 (fun i i0 i1 => ?_)
          rw [set_at]
          split
          · next hc =>
            rw [hc.1, hat, if_pos rfl, mod_mod _ (at_bdd hby s)]
          · rfl
        rw [hself, hmk] at h2
        exact h2
end Go.Proofs.Ytmcfckdgolojlaa
