import Derived.Test.YtmcfckdgolojlaaK1
import Derived.Test.YtmcfckdgolojlaaK5
/- The document's small functions, as the print of PaintPlays has them (lines of UB, turned to this print). -/
namespace Go.Proofs.Ytmcfckdgolojlaa
set_option linter.unusedVariables false
set_option linter.unusedSimpArgs false
open Go.RowKit
open Go.Proofs.YtmcfckdgolojlaaW.PrintWords (rd)
open PPaintPlays
local notation:max "σ" q:max => Pl.starts q (List.length (Pl.cells q))
/-- with fuel enough it comes to r -/
def Ev {α : Type} (F : Nat → Option α) (r : α) : Prop := ∃ K, ∀ k, K ≤ k → F k = some r
theorem Ev.const {α : Type} {F : Nat → Option α} {r : α} (h : ∀ k, F k = some r) : Ev F r := ⟨0, fun k _ => h k⟩
theorem Ev.step {α : Type} {F G : Nat → Option α} {r : α} (h : ∀ k, F (k + 1) = G k) (hg : Ev G r) : Ev F r := by
  obtain ⟨K, hK⟩ := hg
  refine ⟨K + 1, fun k hk => ?_⟩
  obtain ⟨j, rfl⟩ : ∃ j, k = j + 1 := ⟨k - 1, by omega⟩
  rw [h, hK j (by omega)]
theorem Ev.bind {α β : Type} {F : Nat → Option α} {G : Nat → α → Option β} {a : α} {r : β} (hf : Ev F a) (hg : Ev (fun k => G k a) r) : Ev (fun k => (F k).bind (G k)) r := by
  obtain ⟨K, hK⟩ := hf
  obtain ⟨L, hL⟩ := hg
  refine ⟨K + L, fun k hk => ?_⟩
  show (F k).bind (G k) = some r
  rw [hK k (by omega), Option.bind_some]
  exact hL k (by omega)
theorem Ev.congr {α : Type} {F G : Nat → Option α} {r : α} (hg : Ev G r) (h : ∀ k, F k = G k) : Ev F r := by
  obtain ⟨K, hK⟩ := hg
  exact ⟨K, fun k hk => by rw [h, hK k hk]⟩
theorem Ev.get {α : Type} {F : Nat → Option α} {r : α} (h : Ev F r) : ∃ k, F k = some r := let ⟨K, hK⟩ := h; ⟨K, hK K (Nat.le_refl _)⟩
theorem w64 {x : Int} (h : -1000000000 ≤ x ∧ x ≤ 1000000000) : wrap64 x = x := by unfold wrap64; omega
theorem rcells_f {r c n : Int} (h : SzOk r c n) : greenscreenref02_Cells.f r c = some n := by
  unfold greenscreenref02_Cells.f
  have := h.r0; have := h.r1; have := h.c0; have := h.c1; have := h.n0; have := h.n1
  rw [if_neg (by omega), if_neg (by omega), if_neg (by omega), if_neg (by omega), h.mul, w64 (by omega), if_neg (by omega)]
def toS (x : Cel) : PPaintPlays.S38 := ⟨x.b, x.ge, x.st, x.li, x.co⟩
def Pl.sl (p : Pl) : List PPaintPlays.S38 := p.cells.map toS
section
variable {p : Pl}
theorem sl_len : p.sl.length = p.cells.length := List.length_map ..
theorem rd_sl {i : Int} (h0 : 0 ≤ i) (h1 : i < p.n) : PPaintPlays.rd_T38 p.sl i = toS (p.at i) := by
  unfold PPaintPlays.rd_T38 Pl.sl Pl.at
  rw [if_pos ⟨h0, h1⟩]
  have h : i.toNat < p.cells.length := by unfold Pl.n at h1; omega
  simp [List.getD_eq_getElem?_getD, List.getElem?_eq_getElem h]
theorem rstarts_l (hok : p.Ok) : ∀ (d i : Nat), i + d = p.cells.length → Ev (fun k => greenscreenref15_Starts.l0 k (p.starts i) (i : Int) p.rows p.cols p.sl p.cur) (σ p)
  | 0, i, h => Ev.step (G := fun _ => some (σ p)) (fun k => by
      show greenscreenref15_Starts.l0 (k + 1) _ _ _ _ _ _ = _
      rw [greenscreenref15_Starts.l0, if_neg (by rw [sl_len]; omega), show i = p.cells.length by omega]) (Ev.const fun _ => rfl)
  | d + 1, i, h => by
    have n1 := hok.sz.n1
    have hl := starts_len p i
    unfold Pl.n at n1
    refine Ev.step (fun k => ?_) (rstarts_l hok d (i + 1) (by omega))
    show greenscreenref15_Starts.l0 (k + 1) _ _ _ _ _ _ = _
    rw [greenscreenref15_Starts.l0, if_pos (by rw [sl_len]; omega), if_pos (by omega), rd_sl (by omega) (by unfold Pl.n; omega), starts_succ]
    have hw : wrap64 ((i : Int) + 1) = ((i + 1 : Nat) : Int) := by rw [w64 (by omega)]; omega
    rw [hw]
    cases hs : p.st (i : Int)
    · rw [if_neg (by show ¬ ((p.at i).st = true); rw [show (p.at (i : Int)).st = p.st i from rfl, hs]; decide), if_neg (by decide)]
    · rw [if_pos (by show (p.at i).st = true; exact hs), if_pos (by omega), if_pos rfl]
theorem rstarts_f (hok : p.Ok) : Ev (fun k => greenscreenref15_Starts.f k p.rows p.cols p.sl p.cur) (σ p) :=
  rstarts_l hok p.cells.length 0 (by omega)
def toF (x : FV) : PPaintPlays.S82 := ⟨x.s, x.l, x.a⟩
theorem rd_getD (l : List Int) (i : Nat) : rd l (i : Int) = l.getD i 0 := by unfold rd; rw [Int.toNat_natCast]
theorem rall_l (hok : p.Ok) : ∀ (d i : Nat), i + d = (σ p).length → Ev (fun k => greenscreenref15_All.l0 k ((p.rflds i).map toF) (σ p) (i : Int) p.rows p.cols p.sl p.cur) ((p.rflds (σ p).length).map toF)
  | 0, i, h => Ev.step (G := fun _ => some ((p.rflds (σ p).length).map toF)) (fun k => by
      show greenscreenref15_All.l0 (k + 1) _ _ _ _ _ _ _ = _
      rw [greenscreenref15_All.l0, if_neg (by omega), show i = (σ p).length by omega]) (Ev.const fun _ => rfl)
  | d + 1, i, h => by
    have n1 := hok.sz.n1
    have hl := starts_len p p.cells.length
    have E := starts_enum p
    unfold Pl.n at n1
    have bi := E.at_ (i := i) (by omega)
    have b0 := E.at_ (i := 0) (by omega)
    have hn : (p.sl.length : Int) = p.n := by rw [sl_len]; rfl
    refine Ev.step (fun k => ?_) (rall_l hok d (i + 1) (by omega))
    show greenscreenref15_All.l0 (k + 1) _ _ _ _ _ _ _ = _
    have hrl : ((p.rflds i).map toF).length = i := by rw [List.length_map]; exact rflds_len p i
    have hw : wrap64 ((i : Int) + 1) = ((i + 1 : Nat) : Int) := by rw [w64 (by omega)]; omega
    have hby := (at_bd hok.by_ ((σ p).getD i 0)).1
    rw [greenscreenref15_All.l0, if_pos (by omega), if_pos (by omega), hw, hrl, hn]
    have hnn : p.n ≤ 4096 := hok.sz.n1
    have hr0 : rd (σ p) 0 = (σ p).getD 0 0 := rd_getD _ 0
    by_cases h1 : i + 1 < (σ p).length
    · have b1 := E.at_ h1
      rw [if_pos (by omega), if_pos (by omega), if_pos (by omega), rd_getD, rd_getD, if_pos (by omega), if_pos (by omega), if_pos (by omega), rd_sl (by omega) (by omega), rflds_succ, List.map_append, List.map_singleton]
      congr 3
      unfold toF Pl.rfld toS
      dsimp only
      rw [if_pos h1, w64 (x := (σ p).getD (i + 1) 0 - (σ p).getD i 0) (by omega), w64 (by omega), Int.tmod_eq_emod_of_nonneg hby]
    · rw [if_neg (by omega), if_pos (by omega), rd_getD, if_pos (by omega), if_pos (by omega), if_pos (by omega), rd_sl (by omega) (by omega), hr0, rflds_succ, List.map_append, List.map_singleton]
      congr 3
      unfold toF Pl.rfld toS
      dsimp only
      rw [if_neg h1, w64 (x := (σ p).getD 0 0 + p.n) (by omega), w64 (x := (σ p).getD 0 0 + p.n - (σ p).getD i 0) (by omega), w64 (by omega), Int.tmod_eq_emod_of_nonneg hby]
theorem rall_f (hok : p.Ok) : Ev (fun k => greenscreenref15_All.f k p.rows p.cols p.sl p.cur) ((p.rflds (σ p).length).map toF) :=
  Ev.bind (rstarts_f hok) (rall_l hok (σ p).length 0 (by omega))
end
open Go.RowKit
open Go.Proofs.YtmcfckdgolojlaaW.PrintWords (rd)
theorem rbit_f (b v : Int) (h : 0 ≤ b ∧ b < 256) (hv : 1 ≤ v) : greenscreenref11_Bit.f b v = some (bitV b v) := by
  unfold greenscreenref11_Bit.f bitV
  have h1 : 0 ≤ b / v := Int.ediv_nonneg h.1 (by omega)
  have h2 : b / v ≤ b := Int.ediv_le_self _ h.1
  rw [if_neg (by omega), w64 (x := b) (by omega), Int.tdiv_eq_ediv_of_nonneg h.1, w64 (by omega), Int.tmod_eq_emod_of_nonneg h1]
theorem bitV_B (b : Int) (h : 0 ≤ b ∧ b < 256) : bitV b 32 = bitB b 32 ∧ bitV b 16 = bitB b 16 := by
  obtain ⟨k, rfl⟩ := Int.eq_ofNat_of_zero_le h.1
  have hk : k < 256 := by omega
  exact (by decide +kernel : ∀ k : Fin 256, bitV (k.val : Int) 32 = bitB (k.val : Int) 32 ∧ bitV (k.val : Int) 16 = bitB (k.val : Int) 16) ⟨k, hk⟩
section
variable {p : Pl}
theorem rd_flds {i m : Nat} (h : i < m) : PPaintPlays.rd_T82 ((p.rflds m).map toF) (i : Int) = toF (p.rfld i) := by
  unfold PPaintPlays.rd_T82 Pl.rflds
  simp [List.getD_eq_getElem?_getD, List.getElem?_range h]
theorem rflds_mlen (m : Nat) : ((p.rflds m).map toF).length = m := by rw [List.length_map]; exact rflds_len p m
end
open Go.RowKit
open Go.Proofs.YtmcfckdgolojlaaW.PrintWords (rd)
section
variable {p : Pl}
def Pl.sAt (p : Pl) (i : Nat) : Int := (σ p).getD i 0
theorem fld_gap (hok : p.Ok) {i : Nat} (hi : i < (σ p).length) :
    (0 ≤ p.sAt i ∧ p.sAt i < p.n ∧ p.st (p.sAt i) = true) ∧ (0 ≤ (p.rfld i).l ∧ (p.rfld i).l < p.n) ∧ (∀ t : Int, 1 ≤ t → t ≤ (p.rfld i).l → p.st ((p.sAt i + t) % p.n) = false) ∧ p.st ((p.sAt i + (p.rfld i).l + 1) % p.n) = true := by
  have E := starts_enum p
  have bi := E.at_ hi
  have b0 := E.at_ (i := 0) (by omega)
  unfold Pl.sAt
  refine ⟨bi, ?_⟩
  by_cases h1 : i + 1 < (σ p).length
  · have b1 := E.at_ h1
    have hlt := E.lt (by omega : i < i + 1) h1
    have hl : (p.rfld i).l = (σ p).getD (i + 1) 0 - (σ p).getD i 0 - 1 := by unfold Pl.rfld; dsimp only; rw [if_pos h1]
    rw [hl]
    refine ⟨by omega, fun t h2 h3 => ?_, ?_⟩
    · rw [Int.emod_eq_of_lt (by omega) (by omega)]
      exact E.gap hi (by omega) (by omega) (fun _ => by omega)
    · rw [Int.emod_eq_of_lt (by omega) (by omega), show (σ p).getD i 0 + ((σ p).getD (i + 1) 0 - (σ p).getD i 0 - 1) + 1 = (σ p).getD (i + 1) 0 by omega]
      exact b1.2.2
  · have hl : (p.rfld i).l = (σ p).getD 0 0 + p.n - (σ p).getD i 0 - 1 := by unfold Pl.rfld; dsimp only; rw [if_neg h1]
    have h0i : (σ p).getD 0 0 ≤ (σ p).getD i 0 := by
      rcases Nat.eq_zero_or_pos i with rfl | h
      · exact Int.le_refl _
      · have := E.lt h hi; omega
    rw [hl]
    refine ⟨by omega, fun t h2 h3 => ?_, ?_⟩
    · by_cases hw : (σ p).getD i 0 + t < p.n
      · rw [Int.emod_eq_of_lt (by omega) hw]
        exact E.gap hi (by omega) hw (fun h => absurd h h1)
      · have e1 := Int.add_emod_right ((σ p).getD i 0 + t - p.n) p.n
        rw [show (σ p).getD i 0 + t - p.n + p.n = (σ p).getD i 0 + t by omega] at e1
        rw [e1, Int.emod_eq_of_lt (by omega) (by omega)]
        exact E.low (by omega) (by omega) (fun _ => by omega)
    · rw [show (σ p).getD i 0 + ((σ p).getD 0 0 + p.n - (σ p).getD i 0 - 1) + 1 = (σ p).getD 0 0 + p.n by omega, Int.add_emod_right, Int.emod_eq_of_lt b0.1 b0.2.1]
      exact b0.2.2
theorem cover_before (hok : p.Ok) {i : Nat} (hi : i < (σ p).length) {t : Int} (t0 : 0 ≤ t) (t1 : t ≤ (p.rfld i).l) : p.before ((p.sAt i + t) % p.n) = p.sAt i := by
  obtain ⟨hs, hl, hg, _⟩ := fld_gap hok hi
  have n0 := hok.sz.n0
  have hp : ∀ j : Nat, plc p.n ((p.sAt i + t) % p.n) (-1) j = (p.sAt i + (t - j)) % p.n := fun j => by
    unfold plc
    rw [Int.emod_add_emod]
    congr 1
    omega
  have hsc := scan_some (f := p.st) (n := p.n) (a := (p.sAt i + t) % p.n) (s := -1) (m := p.cells.length) (k := t.toNat) (by unfold Pl.n at hl; omega) (by rw [hp, Int.toNat_of_nonneg t0, Int.sub_self, Int.add_zero, Int.emod_eq_of_lt hs.1 hs.2.1]; exact hs.2.2) (fun j hj => by rw [hp]; exact hg _ (by omega) (by omega))
  unfold Pl.before
  rw [lookM_in (Int.emod_nonneg _ (by omega)) (Int.emod_lt_of_pos _ (by omega)), hsc, hp, Int.toNat_of_nonneg t0, Int.sub_self, Int.add_zero, Int.emod_eq_of_lt hs.1 hs.2.1]
  rfl
theorem before_cover (hok : p.Ok) {a : Int} (a0 : 0 ≤ a) (a1 : a < p.n) (hb : 0 ≤ p.before a) : ∃ i, i < (σ p).length ∧ ∃ t : Int, 0 ≤ t ∧ t ≤ (p.rfld i).l ∧ a = (p.sAt i + t) % p.n := by
  have n0 := hok.sz.n0
  unfold Pl.before at hb
  rw [lookM_in a0 a1] at hb
  cases e : scan p.st p.n a (-1) p.cells.length with
  | none => rw [e] at hb; exact absurd hb (by decide)
  | some y =>
    obtain ⟨k, hk, hy, hst, hall⟩ := scan_of_some e
    have hyb := plc_bd n0 a (-1) k
    rw [← hy] at hyb
    obtain ⟨i, hi, hsi⟩ := (starts_enum p).idx hyb.1 hyb.2 hst
    have hsi' : p.sAt i = y := hsi
    obtain ⟨hs, hl, hg, hnx⟩ := fld_gap hok hi
    have hya : y = (a - k) % p.n := by rw [hy]; unfold plc; congr 1; omega
    have hak : a = (p.sAt i + (k : Int)) % p.n := by
      rw [hsi', hya, Int.emod_add_emod, show a - (k : Int) + k = a by omega, Int.emod_eq_of_lt a0 a1]
    refine ⟨i, hi, k, by omega, ?_, hak⟩
    rcases Int.lt_or_le (p.rfld i).l (k : Int) with h | h
    · exfalso
      have hj := hall (k - (p.rfld i).l.toNat - 1) (by omega)
      have hpj : plc p.n a (-1) (k - (p.rfld i).l.toNat - 1) = (p.sAt i + (p.rfld i).l + 1) % p.n := by
        unfold plc
        rw [hsi', hya, Int.add_assoc, Int.emod_add_emod]
        congr 1
        omega
      rw [hpj, hnx] at hj
      cases hj
    · exact h
def plcL (p : Pl) (s : Int) (l : Nat) : List Int := (List.range l).map fun j : Nat => (s + ((j : Int) + 1)) % p.n
theorem plcL_succ (s : Int) (l : Nat) : plcL p s (l + 1) = plcL p s l ++ [(s + ((l : Int) + 1)) % p.n] := by unfold plcL; rw [List.range_succ, List.map_append]; rfl
theorem plcL_len (s : Int) (l : Nat) : (plcL p s l).length = l := by simp [plcL]
theorem rplaces_l (hok : p.Ok) {s : Int} (s0 : 0 ≤ s) (s1 : s < p.n) {l : Nat} (hl : (l : Int) ≤ p.n) (a1 a2 : Int) : ∀ (d i : Nat), i + d = l → Ev (fun k => greenscreenref15_Places.l0 k (plcL p s i) (l : Int) ((i : Int) + 1) p.rows p.cols p.sl p.cur s a1 a2) (plcL p s l)
  | 0, i, h => Ev.step (G := fun _ => some (plcL p s l)) (fun k => by
      show greenscreenref15_Places.l0 (k + 1) _ _ _ _ _ _ _ _ _ _ = _
      rw [greenscreenref15_Places.l0, if_neg (by omega), show i = l by omega]) (Ev.const fun _ => rfl)
  | d + 1, i, h => by
    have n1 := hok.sz.n1
    have n0 := hok.sz.n0
    have hn : (p.sl.length : Int) = p.n := by rw [sl_len]; rfl
    refine Ev.step (fun k => ?_) (rplaces_l hok s0 s1 hl a1 a2 d (i + 1) (by omega))
    show greenscreenref15_Places.l0 (k + 1) _ _ _ _ _ _ _ _ _ _ = _
    have hw : wrap64 ((i : Int) + 1 + 1) = ((i + 1 : Nat) : Int) + 1 := by rw [w64 (by omega)]; omega
    rw [greenscreenref15_Places.l0, if_pos (by omega), hn, if_neg (by omega), plcL_len, if_pos (by omega), hw, w64 (by omega), Int.tmod_eq_emod_of_nonneg (by omega), plcL_succ]
theorem rplaces_f (hok : p.Ok) {s l : Int} (s0 : 0 ≤ s) (s1 : s < p.n) (l0 : 0 ≤ l) (l1 : l ≤ p.n) (a2 : Int) : Ev (fun k => greenscreenref15_Places.f k p.rows p.cols p.sl p.cur s l a2) (plcL p s l.toNat) := by
  have hn : (p.sl.length : Int) = p.n := by rw [sl_len]; rfl
  refine Ev.congr (rplaces_l hok s0 s1 (l := l.toNat) (by omega) l a2 l.toNat 0 (by omega)) (fun k => ?_)
  unfold greenscreenref15_Places.f greenscreenref14_Has.f greenscreenref01_Held.f
  rw [Option.bind_some, if_pos (by omega), hn, decide_eq_true s1, Option.bind_some, if_pos rfl, if_neg (by omega), if_neg (by omega), Option.bind_some, Int.toNat_of_nonneg l0]
  rfl
end
open Go.RowKit
open Go.Proofs.YtmcfckdgolojlaaW.PrintWords (rd)
section
variable {p : Pl}
theorem mem_plcL {s a : Int} {l : Nat} : a ∈ plcL p s l ↔ ∃ t : Int, 1 ≤ t ∧ t ≤ l ∧ a = (s + t) % p.n := by
  unfold plcL
  simp only [List.mem_map, List.mem_range]
  constructor
  · rintro ⟨j, hj, rfl⟩
    exact ⟨(j : Int) + 1, by omega, by omega, rfl⟩
  · rintro ⟨t, h1, h2, rfl⟩
    exact ⟨(t - 1).toNat, by omega, by rw [show ((t - 1).toNat : Int) + 1 = t by omega]⟩
abbrev FR := Int × Int × Int × Bool
def Pl.fr (p : Pl) (i : Nat) : FR := (p.sAt i, (p.rfld i).l, (p.rfld i).a, true)
/-- what Of tells of place a -/
def OfR (p : Pl) (a : Int) (r : FR) : Prop := (p.before a < 0 ∧ r.2.2.2 = false) ∨ (0 ≤ p.before a ∧ r.1 = p.before a ∧ r.2.2.1 = (p.at (p.before a)).b % 64 ∧ r.2.2.2 = true)
theorem fr_ofR (hok : p.Ok) {i : Nat} (hi : i < (σ p).length) {t : Int} (t0 : 0 ≤ t) (t1 : t ≤ (p.rfld i).l) : OfR p ((p.sAt i + t) % p.n) (p.fr i) := by
  have hb := cover_before hok hi t0 t1
  have hs := (fld_gap hok hi).1
  refine .inr ⟨by rw [hb]; exact hs.1, by rw [hb]; rfl, ?_, rfl⟩
  rw [hb]
  rfl
theorem rof_hit (hok : p.Ok) {a : Int} {i : Nat} (hi : i < (σ p).length) {L : List Int} (hL : L.length ≤ 4096) : ∀ (d j : Nat), j + d = L.length → a ∈ L.drop j →
    Ev (fun k => greenscreenref15_Of.l1 k a ((p.rflds (σ p).length).map toF) (i : Int) L (j : Int) p.rows p.cols p.sl p.cur) (p.fr i)
  | 0, j, h, hm => by rw [List.drop_of_length_le (by omega)] at hm; cases hm
  | d + 1, j, h, hm => by
    have hd : L.drop j = L.getD j 0 :: L.drop (j + 1) := by
      rw [List.drop_eq_getElem_cons (by omega)]
      simp [show j < L.length by omega]
    have hw : wrap64 ((j : Int) + 1) = ((j + 1 : Nat) : Int) := by rw [w64 (by omega)]; omega
    by_cases e : L.getD j 0 = a
    · refine Ev.step (G := fun _ => some (p.fr i)) (fun k => ?_) (Ev.const fun _ => rfl)
      show greenscreenref15_Of.l1 (k + 1) _ _ _ _ _ _ _ _ _ = _
      rw [greenscreenref15_Of.l1, if_pos (by omega), if_pos (by omega), rd_getD, if_pos e, if_pos (by omega), if_pos (by rw [rflds_mlen]; omega), rd_flds hi]
      rfl
    · rw [hd] at hm
      rcases List.mem_cons.1 hm with hm | hm
      · exact absurd hm.symm e
      · refine Ev.step (fun k => ?_) (rof_hit hok hi hL d (j + 1) (by omega) hm)
        show greenscreenref15_Of.l1 (k + 1) _ _ _ _ _ _ _ _ _ = _
        rw [greenscreenref15_Of.l1, if_pos (by omega), if_pos (by omega), rd_getD, if_neg e, hw]
theorem rof_miss (hok : p.Ok) {a : Int} {i : Nat} {L : List Int} (hL : L.length ≤ 4096) (hil : i ≤ 4096) {r : FR} (hr : Ev (fun k => greenscreenref15_Of.l0 k a ((p.rflds (σ p).length).map toF) ((i + 1 : Nat) : Int) p.rows p.cols p.sl p.cur) r) : ∀ (d j : Nat), j + d = L.length → a ∉ L.drop j →
    Ev (fun k => greenscreenref15_Of.l1 k a ((p.rflds (σ p).length).map toF) (i : Int) L (j : Int) p.rows p.cols p.sl p.cur) r
  | 0, j, h, hm => by
    have hw : wrap64 ((i : Int) + 1) = ((i + 1 : Nat) : Int) := by rw [w64 (by omega)]; omega
    refine Ev.step (fun k => ?_) hr
    show greenscreenref15_Of.l1 (k + 1) _ _ _ _ _ _ _ _ _ = _
    rw [greenscreenref15_Of.l1, if_neg (by omega), hw]
  | d + 1, j, h, hm => by
    have hd : L.drop j = L.getD j 0 :: L.drop (j + 1) := by
      rw [List.drop_eq_getElem_cons (by omega)]
      simp [show j < L.length by omega]
    have hw : wrap64 ((j : Int) + 1) = ((j + 1 : Nat) : Int) := by rw [w64 (by omega)]; omega
    rw [hd, List.mem_cons, not_or] at hm
    refine Ev.step (fun k => ?_) (rof_miss hok hL hil hr d (j + 1) (by omega) hm.2)
    show greenscreenref15_Of.l1 (k + 1) _ _ _ _ _ _ _ _ _ = _
    rw [greenscreenref15_Of.l1, if_pos (by omega), if_pos (by omega), rd_getD, if_neg (fun e => hm.1 e.symm), hw]
theorem rof_l (hok : p.Ok) {a : Int} (a0 : 0 ≤ a) (a1 : a < p.n) : ∀ (d i : Nat), i + d = (σ p).length → (∀ j, j < i → ∀ t : Int, 0 ≤ t → t ≤ (p.rfld j).l → a ≠ (p.sAt j + t) % p.n) →
    ∃ r : FR, OfR p a r ∧ Ev (fun k => greenscreenref15_Of.l0 k a ((p.rflds (σ p).length).map toF) (i : Int) p.rows p.cols p.sl p.cur) r
  | 0, i, h, hno => by
    refine ⟨(0, 0, 0, false), .inl ⟨?_, rfl⟩, Ev.step (G := fun _ => some ((0, 0, 0, false) : FR)) (fun k => ?_) (Ev.const fun _ => rfl)⟩
    · rcases Int.lt_or_le (p.before a) 0 with h1 | h1
      · exact h1
      · exfalso
        obtain ⟨j, hj, t, t0, t1, e⟩ := before_cover hok a0 a1 h1
        exact hno j (by omega) t t0 t1 e
    · show greenscreenref15_Of.l0 (k + 1) _ _ _ _ _ _ _ = _
      rw [greenscreenref15_Of.l0, if_neg (by rw [rflds_mlen]; omega)]
  | d + 1, i, h, hno => by
    have n1 := hok.sz.n1
    have hl := starts_len p p.cells.length
    have hi : i < (σ p).length := by omega
    obtain ⟨hs, hln, hg, _⟩ := fld_gap hok hi
    have hL : (plcL p (p.sAt i) (p.rfld i).l.toNat).length ≤ 4096 := by rw [plcL_len]; omega
    have hil : i ≤ 4096 := by unfold Pl.n at n1; omega
    have e0 : (toF (p.rfld i)).f0 = p.sAt i := rfl
    have e1 : (toF (p.rfld i)).f1 = (p.rfld i).l := rfl
    have e2 : (toF (p.rfld i)).f2 = (p.rfld i).a := rfl
    by_cases hsa : p.sAt i = a
    · refine ⟨p.fr i, ?_, Ev.step (G := fun _ => some (p.fr i)) (fun k => ?_) (Ev.const fun _ => rfl)⟩
      · have := fr_ofR hok hi (Int.le_refl 0) hln.1
        rw [Int.add_zero, Int.emod_eq_of_lt hs.1 hs.2.1, hsa] at this
        exact this
      · show greenscreenref15_Of.l0 (k + 1) _ _ _ _ _ _ _ = _
        rw [greenscreenref15_Of.l0, if_pos (by rw [rflds_mlen]; omega), if_pos (by omega), rd_flds hi, e0, if_pos hsa, e1, e2]
        rfl
    · have hstep : ∀ (r : FR), Ev (fun k => greenscreenref15_Of.l1 k a ((p.rflds (σ p).length).map toF) (i : Int) (plcL p (p.sAt i) (p.rfld i).l.toNat) ((0 : Nat) : Int) p.rows p.cols p.sl p.cur) r →
          Ev (fun k => greenscreenref15_Of.l0 k a ((p.rflds (σ p).length).map toF) (i : Int) p.rows p.cols p.sl p.cur) r := fun r hr => by
        refine Ev.step (fun k => ?_) (Ev.bind (rplaces_f hok hs.1 hs.2.1 hln.1 (Int.le_of_lt hln.2) (p.rfld i).a) (G := fun k t => greenscreenref15_Of.l1 k a ((p.rflds (σ p).length).map toF) (i : Int) t 0 p.rows p.cols p.sl p.cur) hr)
        show greenscreenref15_Of.l0 (k + 1) _ _ _ _ _ _ _ = _
        rw [greenscreenref15_Of.l0, if_pos (by rw [rflds_mlen]; omega), if_pos (by omega), rd_flds hi, e0, if_neg hsa, e1, e2]
      by_cases hm : a ∈ plcL p (p.sAt i) (p.rfld i).l.toNat
      · obtain ⟨t, t0, t1, e⟩ := mem_plcL.1 hm
        refine ⟨p.fr i, ?_, hstep _ (rof_hit hok hi hL _ 0 (Nat.zero_add _) (by rw [List.drop_zero]; exact hm))⟩
        rw [e]
        exact fr_ofR hok hi (by omega) (by omega)
      · obtain ⟨r, h1, h2⟩ := rof_l hok a0 a1 d (i + 1) (by omega) (fun j hj t t0 t1 e => by
          by_cases hji : j = i
          · subst hji
            by_cases ht : t = 0
            · subst ht
              rw [Int.add_zero, Int.emod_eq_of_lt hs.1 hs.2.1] at e
              exact hsa e.symm
            · exact hm (mem_plcL.2 ⟨t, by omega, by omega, e⟩)
          · exact hno j (by omega) t t0 t1 e)
        exact ⟨r, h1, hstep _ (rof_miss hok hL hil h2 _ 0 (Nat.zero_add _) (by rw [List.drop_zero]; exact hm))⟩
theorem rof_f (hok : p.Ok) {a : Int} (a0 : 0 ≤ a) (a1 : a < p.n) : ∃ r : FR, OfR p a r ∧ Ev (fun k => greenscreenref15_Of.f k p.rows p.cols p.sl p.cur a) r := by
  obtain ⟨r, h1, h2⟩ := rof_l hok a0 a1 (σ p).length 0 (by omega) (fun j hj => absurd hj (by omega))
  exact ⟨r, h1, Ev.bind (rall_f hok) h2⟩
theorem ropen_f (hok : p.Ok) {a : Int} (a0 : 0 ≤ a) (a1 : a < p.n) : Ev (fun k => greenscreenref15_Open.f k p.rows p.cols p.sl p.cur a) (p.open_ a) := by
  obtain ⟨r, hr, he⟩ := rof_f hok a0 a1
  have hn : (p.sl.length : Int) = p.n := by rw [sl_len]; rfl
  have hhas : p.has a = true := by unfold Pl.has; exact decide_eq_true ⟨a0, a1⟩
  refine Ev.congr (Ev.bind he (G := fun _ r => if r.2.2.2 = true then (if r.1 = a then some false else (greenscreenref11_Bit.f r.2.2.1 32).bind fun t => some (!t)) else some true) (Ev.const fun k => ?_)) (fun k => ?_)
  · unfold Pl.open_
    rcases hr with ⟨h1, h2⟩ | ⟨h1, h2, h3, h4⟩
    · rw [h2, if_pos h1, hhas]; rfl
    · have hab := at_bd hok.by_ (p.before a)
      rw [h4, if_pos rfl, h2, h3, if_neg (show ¬ p.before a < 0 by omega)]
      by_cases e : p.before a = a
      · rw [if_pos e, e]; simp
      · rw [if_neg e, rbit_f _ 32 (by omega) (by decide), Option.bind_some, bit_b _ hab]
        have : (p.before a != a) = true := by simpa using e
        rw [this]
        rfl
  · unfold greenscreenref15_Open.f greenscreenref14_Has.f
    rw [if_pos (by omega), hn, decide_eq_true a1, Option.bind_some, if_pos rfl]
end
end Go.Proofs.Ytmcfckdgolojlaa
