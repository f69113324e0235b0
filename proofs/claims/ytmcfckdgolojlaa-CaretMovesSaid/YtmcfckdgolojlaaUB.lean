/- U3 U4 U5 U6 U7: the texts of these, one behind the other. -/
import Derived.Test.YtmcfckdgolojlaaSA
import Derived.Test.YtmcfckdgolojlaaPCaretMovesx10
namespace Go.Proofs.Ytmcfckdgolojlaa
set_option linter.unusedVariables false
set_option linter.unusedSimpArgs false
open Go.RowKit
open Go.RowKit
open Go.Proofs.YtmcfckdgolojlaaW.PrintWords (rd)
open PCaretMoves
local notation:max "σ" q:max => Pl.starts q (List.length (Pl.cells q))
/-- with fuel enough it comes to r -/
def Ev {α : Type} (F : Nat → Option α) (r : α) : Prop := ∃ K, ∀ k, K ≤ k → F k = some r
theorem Ev.const {α : Type} {F : Nat → Option α} {r : α} (h : ∀ k, F k = some r) : Ev F r := ⟨0, fun k _ => h k⟩
theorem Ev.step {α : Type} {F G : Nat → Option α} {r : α} (h : ∀ k, F (k + 1) = G k) (hg : Ev G r) : Ev F r := by
  obtain ⟨K, hK⟩ := hg
  refine ⟨K + 1, fun k hk => ?_⟩
  obtain ⟨j, rfl⟩ : ∃ j, k = j + 1 := ⟨k - 1, by omega⟩
  rw [h, hK j (by omega)]
theorem Ev.bind {α β : Type} {F : Nat → Option α} {G : Nat → α → Option β} {a : α} {r : β} (hf : Ev F a) (hg : Ev (fun k => G k a) r) : Ev (fun k => (F k).bind (G k)) r := by
  obtain ⟨K, hK⟩ := hf
  obtain ⟨L, hL⟩ := hg
  refine ⟨K + L, fun k hk => ?_⟩
  show (F k).bind (G k) = some r
  rw [hK k (by omega), Option.bind_some]
  exact hL k (by omega)
theorem Ev.congr {α : Type} {F G : Nat → Option α} {r : α} (hg : Ev G r) (h : ∀ k, F k = G k) : Ev F r := by
  obtain ⟨K, hK⟩ := hg
  exact ⟨K, fun k hk => by rw [h, hK k hk]⟩
theorem Ev.get {α : Type} {F : Nat → Option α} {r : α} (h : Ev F r) : ∃ k, F k = some r := let ⟨K, hK⟩ := h; ⟨K, hK K (Nat.le_refl _)⟩
theorem w64 {x : Int} (h : -1000000000 ≤ x ∧ x ≤ 1000000000) : wrap64 x = x := by unfold wrap64; omega
theorem emod_tmod (x n : Int) (hn : 1 ≤ n) : (Int.tmod x n) % n = x % n := by
  have h := tmod_tmod x 0 n hn
  rw [Int.zero_tmod, Int.add_zero, Int.add_zero] at h
  rw [Int.add_emod_right] at h
  have h2 : Int.tmod (Int.tmod x n) n = Int.tmod x n := Int.tmod_tmod ..
  rw [h2] at h
  exact h
theorem rcells_f {r c n : Int} (h : SzOk r c n) : greenscreenref02_Cells.f r c = some n := by
  unfold greenscreenref02_Cells.f
  have := h.r0; have := h.r1; have := h.c0; have := h.c1; have := h.n0; have := h.n1
  rw [if_neg (by omega), if_neg (by omega), if_neg (by omega), if_neg (by omega), h.mul, w64 (by omega), if_neg (by omega)]
theorem rmove_a {n x : Int} (n0 : 1 ≤ n) (h : 0 ≤ x) : Ev (fun k => greenscreenref02_Move.l0 k x n) (x % n) :=
  Ev.step (G := fun _ => some (x % n)) (fun k => by
    show greenscreenref02_Move.l0 (k + 1) x n = _
    rw [greenscreenref02_Move.l0, if_neg (by omega), if_neg (by omega), Int.tmod_eq_emod_of_nonneg h]) (Ev.const fun _ => rfl)
theorem rmove_b {n x : Int} (n0 : 1 ≤ n) (n1 : n ≤ 4096) (h : -n ≤ x) (h2 : x ≤ 100000) : Ev (fun k => greenscreenref02_Move.l0 k x n) (x % n) := by
  by_cases h0 : 0 ≤ x
  · exact rmove_a n0 h0
  · have := rmove_a (n := n) (x := x + n) n0 (by omega)
    rw [Int.add_emod_right] at this
    refine Ev.step (fun k => ?_) this
    show greenscreenref02_Move.l0 (k + 1) x n = _
    rw [greenscreenref02_Move.l0, if_pos (by omega), w64 (by omega)]
theorem rmove_c {n x : Int} (n0 : 1 ≤ n) (n1 : n ≤ 4096) (h : -(n + n) ≤ x) (h2 : x ≤ 100000) : Ev (fun k => greenscreenref02_Move.l0 k x n) (x % n) := by
  by_cases h0 : 0 ≤ x
  · exact rmove_a n0 h0
  · have := rmove_b (n := n) (x := x + n) n0 n1 (by omega) (by omega)
    rw [Int.add_emod_right] at this
    refine Ev.step (fun k => ?_) this
    show greenscreenref02_Move.l0 (k + 1) x n = _
    rw [greenscreenref02_Move.l0, if_pos (by omega), w64 (by omega)]
theorem rmove_f {r c n : Int} (h : SzOk r c n) (a b : Int) : Ev (fun k => greenscreenref02_Move.f k r c a b) ((a + b) % n) := by
  have n0 := h.n0
  have n1 := h.n1
  obtain ⟨a0, a1⟩ := tmod_bd a n n0
  obtain ⟨b0, b1⟩ := tmod_bd b n n0
  have e : (Int.tmod a n + Int.tmod b n) % n = (a + b) % n := by rw [Int.add_emod, emod_tmod a n n0, emod_tmod b n n0, ← Int.add_emod]
  rw [← e]
  refine Ev.congr (rmove_c n0 n1 (by omega) (by omega)) (fun k => ?_)
  unfold greenscreenref02_Move.f
  rw [rcells_f h, Option.bind_some, if_neg (by omega), w64 (by omega)]
def toS (x : Cel) : PCaretMoves.S38 := ⟨x.b, x.ge, x.st, x.li, x.co⟩
def Pl.sl (p : Pl) : List PCaretMoves.S38 := p.cells.map toS
section
variable {p : Pl}
theorem sl_len : p.sl.length = p.cells.length := List.length_map ..
theorem rd_sl {i : Int} (h0 : 0 ≤ i) (h1 : i < p.n) : PCaretMoves.rd_T38 p.sl i = toS (p.at i) := by
  unfold PCaretMoves.rd_T38 Pl.sl Pl.at
  rw [if_pos ⟨h0, h1⟩]
  have h : i.toNat < p.cells.length := by unfold Pl.n at h1; omega
  simp [List.getD_eq_getElem?_getD, List.getElem?_eq_getElem h]
theorem rmovep_f (hok : p.Ok) (a b : Int) : Ev (fun k => greenscreenref19_Move.f k p.rows p.cols p.sl p.cur a b) (p.moveM a b) := by
  have hs := hok.sz
  have r0 := hs.r0
  obtain ⟨t0, t1⟩ := tmod_bd a p.rows r0
  have hb := rowmul_bd r0 hs.r1 hs.c0 hs.c1 t0 t1
  have e : p.moveM a b = ((p.cur + Int.tmod a p.rows * p.cols) % p.n + b) % p.n := by unfold Pl.moveM; rw [Int.emod_add_emod]
  rw [e]
  refine Ev.congr (Ev.bind (rmove_f hs p.cur (Int.tmod a p.rows * p.cols)) (G := fun k t => (greenscreenref02_Move.f k p.rows p.cols t b).bind fun t => some t) (Ev.bind (rmove_f hs _ b) (Ev.const fun _ => rfl))) (fun k => ?_)
  unfold greenscreenref19_Move.f
  rw [if_neg (by omega), w64 (by omega)]
theorem rstarts_l (hok : p.Ok) : ∀ (d i : Nat), i + d = p.cells.length → Ev (fun k => greenscreenref15_Starts.l0 k (p.starts i) (i : Int) p.rows p.cols p.sl p.cur) (σ p)
  | 0, i, h => Ev.step (G := fun _ => some (σ p)) (fun k => by
      show greenscreenref15_Starts.l0 (k + 1) _ _ _ _ _ _ = _
      rw [greenscreenref15_Starts.l0, if_neg (by rw [sl_len]; omega), show i = p.cells.length by omega]) (Ev.const fun _ => rfl)
  | d + 1, i, h => by
    have n1 := hok.sz.n1
    have hl := starts_len p i
    unfold Pl.n at n1
    refine Ev.step (fun k => ?_) (rstarts_l hok d (i + 1) (by omega))
    show greenscreenref15_Starts.l0 (k + 1) _ _ _ _ _ _ = _
    rw [greenscreenref15_Starts.l0, if_pos (by rw [sl_len]; omega), if_pos (by omega), rd_sl (by omega) (by unfold Pl.n; omega), starts_succ]
    have hw : wrap64 ((i : Int) + 1) = ((i + 1 : Nat) : Int) := by rw [w64 (by omega)]; omega
    rw [hw]
    cases hs : p.st (i : Int)
    · rw [if_neg (by show ¬ ((p.at i).st = true); rw [show (p.at (i : Int)).st = p.st i from rfl, hs]; decide), if_neg (by decide)]
    · rw [if_pos (by show (p.at i).st = true; exact hs), if_pos (by omega), if_pos rfl]
theorem rstarts_f (hok : p.Ok) : Ev (fun k => greenscreenref15_Starts.f k p.rows p.cols p.sl p.cur) (σ p) :=
  rstarts_l hok p.cells.length 0 (by omega)
def toF (x : FV) : PCaretMoves.S82 := ⟨x.s, x.l, x.a⟩
theorem rd_getD (l : List Int) (i : Nat) : rd l (i : Int) = l.getD i 0 := by unfold rd; rw [Int.toNat_natCast]
theorem rall_l (hok : p.Ok) : ∀ (d i : Nat), i + d = (σ p).length → Ev (fun k => greenscreenref15_All.l0 k ((p.rflds i).map toF) (σ p) (i : Int) p.rows p.cols p.sl p.cur) ((p.rflds (σ p).length).map toF)
  | 0, i, h => Ev.step (G := fun _ => some ((p.rflds (σ p).length).map toF)) (fun k => by
      show greenscreenref15_All.l0 (k + 1) _ _ _ _ _ _ _ = _
      rw [greenscreenref15_All.l0, if_neg (by omega), show i = (σ p).length by omega]) (Ev.const fun _ => rfl)
  | d + 1, i, h => by
    have n1 := hok.sz.n1
    have hl := starts_len p p.cells.length
    have E := starts_enum p
    unfold Pl.n at n1
    have bi := E.at_ (i := i) (by omega)
    have b0 := E.at_ (i := 0) (by omega)
    have hn : (p.sl.length : Int) = p.n := by rw [sl_len]; rfl
    refine Ev.step (fun k => ?_) (rall_l hok d (i + 1) (by omega))
    show greenscreenref15_All.l0 (k + 1) _ _ _ _ _ _ _ = _
    have hrl : ((p.rflds i).map toF).length = i := by rw [List.length_map]; exact rflds_len p i
    have hw : wrap64 ((i : Int) + 1) = ((i + 1 : Nat) : Int) := by rw [w64 (by omega)]; omega
    have hby := (at_bd hok.by_ ((σ p).getD i 0)).1
    rw [greenscreenref15_All.l0, if_pos (by omega), if_pos (by omega), hw, hrl, hn]
    have hnn : p.n ≤ 4096 := hok.sz.n1
    have hr0 : rd (σ p) 0 = (σ p).getD 0 0 := rd_getD _ 0
    by_cases h1 : i + 1 < (σ p).length
    · have b1 := E.at_ h1
      rw [if_pos (by omega), if_pos (by omega), if_pos (by omega), rd_getD, rd_getD, if_pos (by omega), if_pos (by omega), if_pos (by omega), rd_sl (by omega) (by omega), rflds_succ, List.map_append, List.map_singleton]
      congr 3
      unfold toF Pl.rfld toS
      dsimp only
      rw [if_pos h1, w64 (x := (σ p).getD (i + 1) 0 - (σ p).getD i 0) (by omega), w64 (by omega), Int.tmod_eq_emod_of_nonneg hby]
    · rw [if_neg (by omega), if_pos (by omega), rd_getD, if_pos (by omega), if_pos (by omega), if_pos (by omega), rd_sl (by omega) (by omega), hr0, rflds_succ, List.map_append, List.map_singleton]
      congr 3
      unfold toF Pl.rfld toS
      dsimp only
      rw [if_neg h1, w64 (x := (σ p).getD 0 0 + p.n) (by omega), w64 (x := (σ p).getD 0 0 + p.n - (σ p).getD i 0) (by omega), w64 (by omega), Int.tmod_eq_emod_of_nonneg hby]
theorem rall_f (hok : p.Ok) : Ev (fun k => greenscreenref15_All.f k p.rows p.cols p.sl p.cur) ((p.rflds (σ p).length).map toF) :=
  Ev.bind (rstarts_f hok) (rall_l hok (σ p).length 0 (by omega))
end
open Go.RowKit
open Go.Proofs.YtmcfckdgolojlaaW.PrintWords (rd)
theorem rbit_f (b v : Int) (h : 0 ≤ b ∧ b < 256) (hv : 1 ≤ v) : greenscreenref11_Bit.f b v = some (bitV b v) := by
  unfold greenscreenref11_Bit.f bitV
  have h1 : 0 ≤ b / v := Int.ediv_nonneg h.1 (by omega)
  have h2 : b / v ≤ b := Int.ediv_le_self _ h.1
  rw [if_neg (by omega), w64 (x := b) (by omega), Int.tdiv_eq_ediv_of_nonneg h.1, w64 (by omega), Int.tmod_eq_emod_of_nonneg h1]
theorem bitV_B (b : Int) (h : 0 ≤ b ∧ b < 256) : bitV b 32 = bitB b 32 ∧ bitV b 16 = bitB b 16 := by
  obtain ⟨k, rfl⟩ := Int.eq_ofNat_of_zero_le h.1
  have hk : k < 256 := by omega
  exact (by decide +kernel : ∀ k : Fin 256, bitV (k.val : Int) 32 = bitB (k.val : Int) 32 ∧ bitV (k.val : Int) 16 = bitB (k.val : Int) 16) ⟨k, hk⟩
theorem Enum.seekF {f : Int → Bool} {n : Int} {O : List Int} (h : Enum f n O) {m : Nat} (hm : n = m) {a : Int} (a0 : 0 ≤ a) (a1 : a < n) (hO : 0 < O.length) :
    scan f n a 1 m = some ((O.find? fun x => decide (a ≤ x)).getD (O.getD 0 0)) := by
  cases e : O.find? fun x => decide (a ≤ x) with
  | some y =>
    obtain ⟨hy, ls, bs, hs, has⟩ := List.find?_eq_some_iff_append.1 e
    have hy' : a ≤ y := of_decide_eq_true hy
    have hmem : y ∈ O := by rw [hs]; simp
    have hyb := (h.mem y).1 hmem
    have hp : plc n a 1 (y - a).toNat = y := by
      unfold plc
      rw [Int.toNat_of_nonneg (by omega), Int.mul_one, show a + (y - a) = y by omega]
      exact Int.emod_eq_of_lt hyb.1 hyb.2.1
    have := scan_some (f := f) (n := n) (a := a) (s := 1) (m := m) (k := (y - a).toNat) (by omega) (by rw [hp]; exact hyb.2.2) (fun j hj => ?_)
    · rw [this, hp]; rfl
    · have hpj : plc n a 1 j = a + j := by
        unfold plc
        rw [Int.mul_one]
        exact Int.emod_eq_of_lt (by omega) (by omega)
      rw [hpj]
      cases hf : f (a + j)
      · rfl
      · exfalso
        have hx : a + (j : Int) ∈ O := (h.mem _).2 ⟨by omega, by omega, hf⟩
        have hup := h.up
        rw [hs] at hx hup
        rcases List.mem_append.1 hx with hx | hx
        · have := has _ hx
          simp at this
          omega
        · rcases List.mem_cons.1 hx with hx | hx
          · omega
          · have := (List.pairwise_cons.1 (List.pairwise_append.1 hup).2.1).1 _ hx
            omega
  | none =>
    have hall : ∀ x ∈ O, x < a := fun x hx => by
      have := List.find?_eq_none.1 e x hx
      simp at this
      omega
    have b0 := h.at_ hO
    have hlt := hall _ ((h.mem _).2 b0)
    have hp : plc n a 1 (n - a + O.getD 0 0).toNat = O.getD 0 0 := by
      unfold plc
      rw [Int.toNat_of_nonneg (by omega), Int.mul_one, show a + (n - a + O.getD 0 0) = O.getD 0 0 + n by omega, Int.add_emod_right]
      exact Int.emod_eq_of_lt b0.1 b0.2.1
    have := scan_some (f := f) (n := n) (a := a) (s := 1) (m := m) (k := (n - a + O.getD 0 0).toNat) (by omega) (by rw [hp]; exact b0.2.2) (fun j hj => ?_)
    · rw [this, hp]; rfl
    · by_cases hw : a + (j : Int) < n
      · have hpj : plc n a 1 j = a + j := by
          unfold plc
          rw [Int.mul_one]
          exact Int.emod_eq_of_lt (by omega) hw
        rw [hpj]
        cases hf : f (a + j)
        · rfl
        · exfalso
          have := hall _ ((h.mem _).2 ⟨by omega, hw, hf⟩)
          omega
      · have hpj : plc n a 1 j = a + j - n := by
          unfold plc
          have e1 := Int.add_emod_right (a + (j : Int) - n) n
          rw [show a + (j : Int) - n + n = a + j by omega] at e1
          rw [Int.mul_one, e1]
          exact Int.emod_eq_of_lt (by omega) (by omega)
        rw [hpj]
        exact h.low (by omega) (by omega) (fun _ => by omega)
section
variable {p : Pl}
theorem rd_flds {i m : Nat} (h : i < m) : PCaretMoves.rd_T82 ((p.rflds m).map toF) (i : Int) = toF (p.rfld i) := by
  unfold PCaretMoves.rd_T82 Pl.rflds
  simp [List.getD_eq_getElem?_getD, List.getElem?_range h]
theorem rflds_mlen (m : Nat) : ((p.rflds m).map toF).length = m := by rw [List.length_map]; exact rflds_len p m
theorem ropens_l (hok : p.Ok) : ∀ (d i : Nat), i + d = (σ p).length → Ev (fun k => greenscreenref19_Opens.l0 k (p.opens i) ((p.rflds (σ p).length).map toF) (i : Int)) p.opensL
  | 0, i, h => Ev.step (G := fun _ => some p.opensL) (fun k => by
      show greenscreenref19_Opens.l0 (k + 1) _ _ _ = _
      rw [greenscreenref19_Opens.l0, if_neg (by rw [rflds_mlen]; omega), show i = (σ p).length by omega]
      rfl) (Ev.const fun _ => rfl)
  | d + 1, i, h => by
    have n1 := hok.sz.n1
    have hl := starts_len p p.cells.length
    have ho := opens_len p i
    unfold Pl.n at n1
    refine Ev.step (fun k => ?_) (ropens_l hok d (i + 1) (by omega))
    show greenscreenref19_Opens.l0 (k + 1) _ _ _ = _
    have hw : wrap64 ((i : Int) + 1) = ((i + 1 : Nat) : Int) := by rw [w64 (by omega)]; omega
    have ha := rfld_a p hok.by_ i
    rw [greenscreenref19_Opens.l0, if_pos (by rw [rflds_mlen]; omega), if_pos (by omega), rd_flds (by omega), hw, opens_succ]
    have e1 : (toF (p.rfld i)).f1 = (p.rfld i).l := rfl
    have e2 : (toF (p.rfld i)).f2 = (p.rfld i).a := rfl
    have e0 : (toF (p.rfld i)).f0 = (p.rfld i).s := rfl
    rw [e1, e2, e0, rbit_f _ 32 (by omega) (by decide), Option.bind_some]
    by_cases hp : (p.rfld i).l > 0
    · rw [if_pos hp, decide_eq_true hp, Bool.true_and]
      cases hb : bitV (p.rfld i).a 32
      · rw [if_neg (by decide), if_pos (by omega), if_pos (by decide)]
      · rw [if_pos rfl, if_neg (by decide)]
    · rw [if_neg hp, decide_eq_false hp, Bool.false_and, if_neg (by decide)]
theorem ropens_f (hok : p.Ok) : Ev (fun k => greenscreenref19_Opens.f k p.rows p.cols p.sl p.cur) p.opensL :=
  Ev.bind (rall_f hok) (ropens_l hok (σ p).length 0 (by omega))
theorem opensL_le : p.opensL.length ≤ p.cells.length := Nat.le_trans (opens_len p _) (starts_len p _)
def Pl.bestF (p : Pl) (a : Int) (i : Nat) : Int := ((p.opensL.drop i).find? fun x => decide (a ≤ x)).getD (p.opensL.getD 0 0)
theorem rtab_l (hok : p.Ok) (a : Int) (hO : 0 < p.opensL.length) : ∀ (i : Nat), i ≤ p.opensL.length → Ev (fun k => greenscreenref19_Tab.l0 k a p.opensL (p.bestF a i) ((i : Int) - 1) p.rows p.cols p.sl p.cur) ((p.bestF a 0 + 1) % p.n)
  | 0, h => by
    have n1 := hok.sz.n1
    have n0 := hok.sz.n0
    have E := opens_enum hok.by_
    have hb : 0 ≤ p.bestF a 0 ∧ p.bestF a 0 < p.n := by
      have hm : p.bestF a 0 ∈ p.opensL := by
        unfold Pl.bestF
        cases e : (p.opensL.drop 0).find? fun x => decide (a ≤ x) with
        | none => exact (E.mem _).2 (E.at_ hO)
        | some y => exact List.mem_of_find?_eq_some e
      have := (E.mem _).1 hm
      exact ⟨this.1, this.2.1⟩
    refine Ev.step (G := fun _ => some ((p.bestF a 0 + 1) % p.n)) (fun k => ?_) (Ev.const fun _ => rfl)
    show greenscreenref19_Tab.l0 (k + 1) _ _ _ _ _ _ _ _ = _
    have hn : (p.sl.length : Int) = p.n := by rw [sl_len]; rfl
    rw [greenscreenref19_Tab.l0, if_neg (by omega), hn, if_neg (by omega), w64 (by omega), Int.tmod_eq_emod_of_nonneg (by omega)]
  | i + 1, h => by
    have n1 := hok.sz.n1
    unfold Pl.n at n1
    have hol := opensL_le (p := p)
    refine Ev.step (fun k => ?_) (rtab_l hok a hO i (by omega))
    show greenscreenref19_Tab.l0 (k + 1) _ _ _ _ _ _ _ _ = _
    have e : ((i + 1 : Nat) : Int) - 1 = (i : Int) := by omega
    have hw : wrap64 ((i : Int) - 1) = (i : Int) - 1 := w64 (by omega)
    have hd : p.opensL.drop i = p.opensL.getD i 0 :: p.opensL.drop (i + 1) := by
      rw [List.drop_eq_getElem_cons (by omega)]
      simp [show i < p.opensL.length by omega]
    have hb : p.bestF a i = if a ≤ p.opensL.getD i 0 then p.opensL.getD i 0 else p.bestF a (i + 1) := by
      unfold Pl.bestF
      rw [hd, List.find?_cons]
      by_cases h : a ≤ p.opensL.getD i 0
      · rw [decide_eq_true h, if_pos h]; rfl
      · rw [decide_eq_false h, if_neg h]
    rw [greenscreenref19_Tab.l0, e, if_pos (by omega), if_pos (by omega), if_pos (by omega), rd_getD, hw, hb]
    by_cases h : a ≤ p.opensL.getD i 0
    · rw [if_pos h, if_pos h]
    · rw [if_neg h, if_neg h]
theorem rtab_f (hok : p.Ok) {a : Int} (a0 : 0 ≤ a) (a1 : a < p.n) : Ev (fun k => greenscreenref19_Tab.f k p.rows p.cols p.sl p.cur a) (p.seekM a 1) := by
  have n1 := hok.sz.n1
  have hol := opensL_le (p := p)
  unfold Pl.n at n1
  by_cases hO : p.opensL.length = 0
  · rw [seekM_none hok.by_ hO hok.sz.n0]
    refine Ev.bind (ropens_f hok) (Ev.const fun k => ?_)
    rw [if_pos (by omega)]
  · have hsk : p.seekM a 1 = (p.bestF a 0 + 1) % p.n := by
      unfold Pl.seekM
      rw [(opens_enum hok.by_).seekF rfl a0 a1 (by omega)]
      rfl
    rw [hsk]
    refine Ev.bind (ropens_f hok) ?_
    refine Ev.congr (rtab_l hok a (by omega) p.opensL.length (Nat.le_refl _)) (fun k => ?_)
    have hb : p.bestF a p.opensL.length = p.opensL.getD 0 0 := by unfold Pl.bestF; rw [List.drop_length]; rfl
    have hr0 : rd p.opensL 0 = p.opensL.getD 0 0 := rd_getD _ 0
    rw [if_neg (by omega), if_pos (by omega), w64 (by omega), hr0, hb]
end
open Go.RowKit
open Go.Proofs.YtmcfckdgolojlaaW.PrintWords (rd)
section
variable {p : Pl}
theorem opens_ext (i : Nat) : ∀ d, ∃ t, p.opens (i + d) = p.opens i ++ t
  | 0 => ⟨[], by simp⟩
  | d + 1 => by
    obtain ⟨t, h⟩ := opens_ext i d
    rw [show i + (d + 1) = (i + d) + 1 from rfl, opens_succ, h]
    split
    · exact ⟨_, List.append_assoc ..⟩
    · exact ⟨t, rfl⟩
theorem rhome_l (hok : p.Ok) : ∀ (d i : Nat), i + d = (σ p).length → p.opens i = [] → Ev (fun k => greenscreenref15_Home.l0 k ((p.rflds (σ p).length).map toF) (i : Int) p.rows p.cols p.sl p.cur) p.homeM
  | 0, i, h, ho => Ev.step (G := fun _ => some p.homeM) (fun k => by
      show greenscreenref15_Home.l0 (k + 1) _ _ _ _ _ _ = _
      rw [greenscreenref15_Home.l0, if_neg (by rw [rflds_mlen]; omega), homeM_eq hok.by_]
      have : p.opensL = [] := by unfold Pl.opensL; rw [← ho]; congr 1; omega
      rw [this]
      rfl) (Ev.const fun _ => rfl)
  | d + 1, i, h, ho => by
    have n1 := hok.sz.n1
    have n0 := hok.sz.n0
    have hl := starts_len p p.cells.length
    have hi : i < (σ p).length := by omega
    have E := (starts_enum p).at_ hi
    have hw : wrap64 ((i : Int) + 1) = ((i + 1 : Nat) : Int) := by unfold Pl.n at n1; rw [w64 (by omega)]; omega
    have ha := rfld_a p hok.by_ i
    have hn : (p.sl.length : Int) = p.n := by rw [sl_len]; rfl
    have e0 : (toF (p.rfld i)).f0 = (σ p).getD i 0 := rfl
    have e1 : (toF (p.rfld i)).f1 = (p.rfld i).l := rfl
    have e2 : (toF (p.rfld i)).f2 = (p.rfld i).a := rfl
    have hstep : ∀ k, greenscreenref15_Home.l0 (k + 1) ((p.rflds (σ p).length).map toF) (i : Int) p.rows p.cols p.sl p.cur = if (p.rfld i).l > 0 then (if bitV (p.rfld i).a 32 = true then greenscreenref15_Home.l0 k ((p.rflds (σ p).length).map toF) ((i + 1 : Nat) : Int) p.rows p.cols p.sl p.cur else some (((σ p).getD i 0 + 1) % p.n)) else greenscreenref15_Home.l0 k ((p.rflds (σ p).length).map toF) ((i + 1 : Nat) : Int) p.rows p.cols p.sl p.cur := by
      intro k
      rw [greenscreenref15_Home.l0, if_pos (by rw [rflds_mlen]; omega), if_pos (by omega), rd_flds hi, hw, e1, e2, e0, rbit_f _ 32 (by omega) (by decide), Option.bind_some, hn, if_neg (show ¬ p.n = 0 by omega), w64 (by omega), Int.tmod_eq_emod_of_nonneg (by omega)]
    by_cases hc : (decide ((p.rfld i).l > 0) && !bitV (p.rfld i).a 32) = true
    · have hr : p.homeM = ((σ p).getD i 0 + 1) % p.n := by
        obtain ⟨t, ht⟩ := opens_ext (p := p) (i + 1) d
        rw [opens_succ, if_pos hc, ho] at ht
        have hL : p.opensL = (σ p).getD i 0 :: t := by
          unfold Pl.opensL
          rw [show (σ p).length = i + 1 + d by omega, ht]
          rfl
        rw [homeM_eq hok.by_, hL]
        simp
      rw [hr]
      refine Ev.step (G := fun _ => some (((σ p).getD i 0 + 1) % p.n)) (fun k => ?_) (Ev.const fun _ => rfl)
      rw [Bool.and_eq_true, decide_eq_true_eq, Bool.not_eq_true'] at hc
      rw [hstep k, if_pos hc.1, if_neg (by rw [hc.2]; decide)]
    · refine Ev.step (fun k => ?_) (rhome_l hok d (i + 1) (by omega) (by rw [opens_succ, if_neg hc]; exact ho))
      rw [hstep k]
      by_cases h1 : (p.rfld i).l > 0
      · rw [if_pos h1, if_pos]
        rw [decide_eq_true h1] at hc
        simpa using hc
      · rw [if_neg h1]
theorem rhome_f (hok : p.Ok) : Ev (fun k => greenscreenref15_Home.f k p.rows p.cols p.sl p.cur) p.homeM :=
  Ev.bind (rall_f hok) (rhome_l hok (σ p).length 0 (by omega) rfl)
theorem ron_f (hok : p.Ok) : Ev (fun k => greenscreenref19_On.f k p.rows p.cols p.sl p.cur) p.onM := by
  have n1 := hok.sz.n1
  have n0 := hok.sz.n0
  have k0 := hok.k0
  have k1 := hok.k1
  have hn : (p.sl.length : Int) = p.n := by rw [sl_len]; rfl
  have a0 : 0 ≤ (p.cur + 1) % p.n := Int.emod_nonneg _ (by omega)
  have a1 : (p.cur + 1) % p.n < p.n := Int.emod_lt_of_pos _ (by omega)
  have hb := at_bd hok.by_ ((p.cur + 1) % p.n)
  have hB := bitV_B _ hb
  have ht : Int.tmod (wrap64 (p.cur + 1)) p.n = (p.cur + 1) % p.n := by rw [w64 (by omega), Int.tmod_eq_emod_of_nonneg (by omega)]
  have ht2 : Int.tmod (wrap64 ((p.cur + 1) % p.n + 1)) p.n = (p.cur + 1 + 1) % p.n := by rw [w64 (by omega), Int.tmod_eq_emod_of_nonneg (by omega), Int.emod_add_emod]
  have hst : ∀ k, greenscreenref19_On.f k p.rows p.cols p.sl p.cur = if (p.at ((p.cur + 1) % p.n)).st = true then (if bitV (p.at ((p.cur + 1) % p.n)).b 32 = true then (if bitV (p.at ((p.cur + 1) % p.n)).b 16 = true then (greenscreenref19_Tab.f k p.rows p.cols p.sl p.cur ((p.cur + 1) % p.n)).bind fun t => some t else some ((p.cur + 1 + 1) % p.n)) else some ((p.cur + 1 + 1) % p.n)) else some ((p.cur + 1) % p.n) := by
    intro k
    unfold greenscreenref19_On.f
    have e0 : (toS (p.at ((p.cur + 1) % p.n))).f0 = (p.at ((p.cur + 1) % p.n)).b := rfl
    have e2 : (toS (p.at ((p.cur + 1) % p.n))).f2 = (p.at ((p.cur + 1) % p.n)).st := rfl
    rw [hn, if_neg (by omega), ht, if_pos a0, if_pos a1, rd_sl a0 a1, e0, e2, rbit_f _ 32 hb (by decide), rbit_f _ 16 hb (by decide), Option.bind_some, Option.bind_some, ht2]
  unfold Pl.onM
  cases hs : (p.at ((p.cur + 1) % p.n)).st
  · exact Ev.const fun k => by rw [hst, hs]; rfl
  · cases h32 : bitV (p.at ((p.cur + 1) % p.n)).b 32
    · rw [← hB.1, h32]
      exact Ev.const fun k => by rw [hst, hs, h32]; rfl
    · cases h16 : bitV (p.at ((p.cur + 1) % p.n)).b 16
      · rw [← hB.1, ← hB.2, h32, h16]
        exact Ev.const fun k => by rw [hst, hs, h32, h16]; rfl
      · rw [← hB.1, ← hB.2, h32, h16]
        refine Ev.congr (Ev.bind (rtab_f hok a0 a1) (G := fun _ t => some t) (Ev.const fun _ => rfl)) (fun k => ?_)
        rw [hst, hs, h32, h16]
        rfl
def Pl.sAt (p : Pl) (i : Nat) : Int := (σ p).getD i 0
theorem fld_gap (hok : p.Ok) {i : Nat} (hi : i < (σ p).length) :
    (0 ≤ p.sAt i ∧ p.sAt i < p.n ∧ p.st (p.sAt i) = true) ∧ (0 ≤ (p.rfld i).l ∧ (p.rfld i).l < p.n) ∧ (∀ t : Int, 1 ≤ t → t ≤ (p.rfld i).l → p.st ((p.sAt i + t) % p.n) = false) ∧ p.st ((p.sAt i + (p.rfld i).l + 1) % p.n) = true := by
  have E := starts_enum p
  have bi := E.at_ hi
  have b0 := E.at_ (i := 0) (by omega)
  unfold Pl.sAt
  refine ⟨bi, ?_⟩
  by_cases h1 : i + 1 < (σ p).length
  · have b1 := E.at_ h1
    have hlt := E.lt (by omega : i < i + 1) h1
    have hl : (p.rfld i).l = (σ p).getD (i + 1) 0 - (σ p).getD i 0 - 1 := by unfold Pl.rfld; dsimp only; rw [if_pos h1]
    rw [hl]
    refine ⟨by omega, fun t h2 h3 => ?_, ?_⟩
    · rw [Int.emod_eq_of_lt (by omega) (by omega)]
      exact E.gap hi (by omega) (by omega) (fun _ => by omega)
    · rw [Int.emod_eq_of_lt (by omega) (by omega), show (σ p).getD i 0 + ((σ p).getD (i + 1) 0 - (σ p).getD i 0 - 1) + 1 = (σ p).getD (i + 1) 0 by omega]
      exact b1.2.2
  · have hl : (p.rfld i).l = (σ p).getD 0 0 + p.n - (σ p).getD i 0 - 1 := by unfold Pl.rfld; dsimp only; rw [if_neg h1]
    have h0i : (σ p).getD 0 0 ≤ (σ p).getD i 0 := by
      rcases Nat.eq_zero_or_pos i with rfl | h
      · exact Int.le_refl _
      · have := E.lt h hi; omega
    rw [hl]
    refine ⟨by omega, fun t h2 h3 => ?_, ?_⟩
    · by_cases hw : (σ p).getD i 0 + t < p.n
      · rw [Int.emod_eq_of_lt (by omega) hw]
        exact E.gap hi (by omega) hw (fun h => absurd h h1)
      · have e1 := Int.add_emod_right ((σ p).getD i 0 + t - p.n) p.n
        rw [show (σ p).getD i 0 + t - p.n + p.n = (σ p).getD i 0 + t by omega] at e1
        rw [e1, Int.emod_eq_of_lt (by omega) (by omega)]
        exact E.low (by omega) (by omega) (fun _ => by omega)
    · rw [show (σ p).getD i 0 + ((σ p).getD 0 0 + p.n - (σ p).getD i 0 - 1) + 1 = (σ p).getD 0 0 + p.n by omega, Int.add_emod_right, Int.emod_eq_of_lt b0.1 b0.2.1]
      exact b0.2.2
theorem cover_before (hok : p.Ok) {i : Nat} (hi : i < (σ p).length) {t : Int} (t0 : 0 ≤ t) (t1 : t ≤ (p.rfld i).l) : p.before ((p.sAt i + t) % p.n) = p.sAt i := by
  obtain ⟨hs, hl, hg, _⟩ := fld_gap hok hi
  have n0 := hok.sz.n0
  have hp : ∀ j : Nat, plc p.n ((p.sAt i + t) % p.n) (-1) j = (p.sAt i + (t - j)) % p.n := fun j => by
    unfold plc
    rw [Int.emod_add_emod]
    congr 1
    omega
  have hsc := scan_some (f := p.st) (n := p.n) (a := (p.sAt i + t) % p.n) (s := -1) (m := p.cells.length) (k := t.toNat) (by unfold Pl.n at hl; omega) (by rw [hp, Int.toNat_of_nonneg t0, Int.sub_self, Int.add_zero, Int.emod_eq_of_lt hs.1 hs.2.1]; exact hs.2.2) (fun j hj => by rw [hp]; exact hg _ (by omega) (by omega))
  unfold Pl.before
  rw [lookM_in (Int.emod_nonneg _ (by omega)) (Int.emod_lt_of_pos _ (by omega)), hsc, hp, Int.toNat_of_nonneg t0, Int.sub_self, Int.add_zero, Int.emod_eq_of_lt hs.1 hs.2.1]
  rfl
theorem before_cover (hok : p.Ok) {a : Int} (a0 : 0 ≤ a) (a1 : a < p.n) (hb : 0 ≤ p.before a) : ∃ i, i < (σ p).length ∧ ∃ t : Int, 0 ≤ t ∧ t ≤ (p.rfld i).l ∧ a = (p.sAt i + t) % p.n := by
  have n0 := hok.sz.n0
  unfold Pl.before at hb
  rw [lookM_in a0 a1] at hb
  cases e : scan p.st p.n a (-1) p.cells.length with
  | none => rw [e] at hb; exact absurd hb (by decide)
  | some y =>
    obtain ⟨k, hk, hy, hst, hall⟩ := scan_of_some e
    have hyb := plc_bd n0 a (-1) k
    rw [← hy] at hyb
    obtain ⟨i, hi, hsi⟩ := (starts_enum p).idx hyb.1 hyb.2 hst
    have hsi' : p.sAt i = y := hsi
    obtain ⟨hs, hl, hg, hnx⟩ := fld_gap hok hi
    have hya : y = (a - k) % p.n := by rw [hy]; unfold plc; congr 1; omega
    have hak : a = (p.sAt i + (k : Int)) % p.n := by
      rw [hsi', hya, Int.emod_add_emod, show a - (k : Int) + k = a by omega, Int.emod_eq_of_lt a0 a1]
    refine ⟨i, hi, k, by omega, ?_, hak⟩
    rcases Int.lt_or_le (p.rfld i).l (k : Int) with h | h
    · exfalso
      have hj := hall (k - (p.rfld i).l.toNat - 1) (by omega)
      have hpj : plc p.n a (-1) (k - (p.rfld i).l.toNat - 1) = (p.sAt i + (p.rfld i).l + 1) % p.n := by
        unfold plc
        rw [hsi', hya, Int.add_assoc, Int.emod_add_emod]
        congr 1
        omega
      rw [hpj, hnx] at hj
      cases hj
    · exact h
def plcL (p : Pl) (s : Int) (l : Nat) : List Int := (List.range l).map fun j : Nat => (s + ((j : Int) + 1)) % p.n
theorem plcL_succ (s : Int) (l : Nat) : plcL p s (l + 1) = plcL p s l ++ [(s + ((l : Int) + 1)) % p.n] := by unfold plcL; rw [List.range_succ, List.map_append]; rfl
theorem plcL_len (s : Int) (l : Nat) : (plcL p s l).length = l := by simp [plcL]
theorem rplaces_l (hok : p.Ok) {s : Int} (s0 : 0 ≤ s) (s1 : s < p.n) {l : Nat} (hl : (l : Int) ≤ p.n) (a1 a2 : Int) : ∀ (d i : Nat), i + d = l → Ev (fun k => greenscreenref15_Places.l0 k (plcL p s i) (l : Int) ((i : Int) + 1) p.rows p.cols p.sl p.cur s a1 a2) (plcL p s l)
  | 0, i, h => Ev.step (G := fun _ => some (plcL p s l)) (fun k => by
      show greenscreenref15_Places.l0 (k + 1) _ _ _ _ _ _ _ _ _ _ = _
      rw [greenscreenref15_Places.l0, if_neg (by omega), show i = l by omega]) (Ev.const fun _ => rfl)
  | d + 1, i, h => by
    have n1 := hok.sz.n1
    have n0 := hok.sz.n0
    have hn : (p.sl.length : Int) = p.n := by rw [sl_len]; rfl
    refine Ev.step (fun k => ?_) (rplaces_l hok s0 s1 hl a1 a2 d (i + 1) (by omega))
    show greenscreenref15_Places.l0 (k + 1) _ _ _ _ _ _ _ _ _ _ = _
    have hw : wrap64 ((i : Int) + 1 + 1) = ((i + 1 : Nat) : Int) + 1 := by rw [w64 (by omega)]; omega
    rw [greenscreenref15_Places.l0, if_pos (by omega), hn, if_neg (by omega), plcL_len, if_pos (by omega), hw, w64 (by omega), Int.tmod_eq_emod_of_nonneg (by omega), plcL_succ]
theorem rplaces_f (hok : p.Ok) {s l : Int} (s0 : 0 ≤ s) (s1 : s < p.n) (l0 : 0 ≤ l) (l1 : l ≤ p.n) (a2 : Int) : Ev (fun k => greenscreenref15_Places.f k p.rows p.cols p.sl p.cur s l a2) (plcL p s l.toNat) := by
  have hn : (p.sl.length : Int) = p.n := by rw [sl_len]; rfl
  refine Ev.congr (rplaces_l hok s0 s1 (l := l.toNat) (by omega) l a2 l.toNat 0 (by omega)) (fun k => ?_)
  unfold greenscreenref15_Places.f greenscreenref14_Has.f greenscreenref01_Held.f
  rw [Option.bind_some, if_pos (by omega), hn, decide_eq_true s1, Option.bind_some, if_pos rfl, if_neg (by omega), if_neg (by omega), Option.bind_some, Int.toNat_of_nonneg l0]
  rfl
end
open Go.RowKit
open Go.Proofs.YtmcfckdgolojlaaW.PrintWords (rd)
section
variable {p : Pl}
theorem mem_plcL {s a : Int} {l : Nat} : a ∈ plcL p s l ↔ ∃ t : Int, 1 ≤ t ∧ t ≤ l ∧ a = (s + t) % p.n := by
  unfold plcL
  simp only [List.mem_map, List.mem_range]
  constructor
  · rintro ⟨j, hj, rfl⟩
    exact ⟨(j : Int) + 1, by omega, by omega, rfl⟩
  · rintro ⟨t, h1, h2, rfl⟩
    exact ⟨(t - 1).toNat, by omega, by rw [show ((t - 1).toNat : Int) + 1 = t by omega]⟩
abbrev FR := Int × Int × Int × Bool
def Pl.fr (p : Pl) (i : Nat) : FR := (p.sAt i, (p.rfld i).l, (p.rfld i).a, true)
/-- what Of tells of place a -/
def OfR (p : Pl) (a : Int) (r : FR) : Prop := (p.before a < 0 ∧ r.2.2.2 = false) ∨ (0 ≤ p.before a ∧ r.1 = p.before a ∧ r.2.2.1 = (p.at (p.before a)).b % 64 ∧ r.2.2.2 = true)
theorem fr_ofR (hok : p.Ok) {i : Nat} (hi : i < (σ p).length) {t : Int} (t0 : 0 ≤ t) (t1 : t ≤ (p.rfld i).l) : OfR p ((p.sAt i + t) % p.n) (p.fr i) := by
  have hb := cover_before hok hi t0 t1
  have hs := (fld_gap hok hi).1
  refine .inr ⟨by rw [hb]; exact hs.1, by rw [hb]; rfl, ?_, rfl⟩
  rw [hb]
  rfl
theorem rof_hit (hok : p.Ok) {a : Int} {i : Nat} (hi : i < (σ p).length) {L : List Int} (hL : L.length ≤ 4096) : ∀ (d j : Nat), j + d = L.length → a ∈ L.drop j →
    Ev (fun k => greenscreenref15_Of.l1 k a ((p.rflds (σ p).length).map toF) (i : Int) L (j : Int) p.rows p.cols p.sl p.cur) (p.fr i)
  | 0, j, h, hm => by rw [List.drop_of_length_le (by omega)] at hm; cases hm
  | d + 1, j, h, hm => by
    have hd : L.drop j = L.getD j 0 :: L.drop (j + 1) := by
      rw [List.drop_eq_getElem_cons (by omega)]
      simp [show j < L.length by omega]
    have hw : wrap64 ((j : Int) + 1) = ((j + 1 : Nat) : Int) := by rw [w64 (by omega)]; omega
    by_cases e : L.getD j 0 = a
    · refine Ev.step (G := fun _ => some (p.fr i)) (fun k => ?_) (Ev.const fun _ => rfl)
      show greenscreenref15_Of.l1 (k + 1) _ _ _ _ _ _ _ _ _ = _
      rw [greenscreenref15_Of.l1, if_pos (by omega), if_pos (by omega), rd_getD, if_pos e, if_pos (by omega), if_pos (by rw [rflds_mlen]; omega), rd_flds hi]
      rfl
    · rw [hd] at hm
      rcases List.mem_cons.1 hm with hm | hm
      · exact absurd hm.symm e
      · refine Ev.step (fun k => ?_) (rof_hit hok hi hL d (j + 1) (by omega) hm)
        show greenscreenref15_Of.l1 (k + 1) _ _ _ _ _ _ _ _ _ = _
        rw [greenscreenref15_Of.l1, if_pos (by omega), if_pos (by omega), rd_getD, if_neg e, hw]
theorem rof_miss (hok : p.Ok) {a : Int} {i : Nat} {L : List Int} (hL : L.length ≤ 4096) (hil : i ≤ 4096) {r : FR} (hr : Ev (fun k => greenscreenref15_Of.l0 k a ((p.rflds (σ p).length).map toF) ((i + 1 : Nat) : Int) p.rows p.cols p.sl p.cur) r) : ∀ (d j : Nat), j + d = L.length → a ∉ L.drop j →
    Ev (fun k => greenscreenref15_Of.l1 k a ((p.rflds (σ p).length).map toF) (i : Int) L (j : Int) p.rows p.cols p.sl p.cur) r
  | 0, j, h, hm => by
    have hw : wrap64 ((i : Int) + 1) = ((i + 1 : Nat) : Int) := by rw [w64 (by omega)]; omega
    refine Ev.step (fun k => ?_) hr
    show greenscreenref15_Of.l1 (k + 1) _ _ _ _ _ _ _ _ _ = _
    rw [greenscreenref15_Of.l1, if_neg (by omega), hw]
  | d + 1, j, h, hm => by
    have hd : L.drop j = L.getD j 0 :: L.drop (j + 1) := by
      rw [List.drop_eq_getElem_cons (by omega)]
      simp [show j < L.length by omega]
    have hw : wrap64 ((j : Int) + 1) = ((j + 1 : Nat) : Int) := by rw [w64 (by omega)]; omega
    rw [hd, List.mem_cons, not_or] at hm
    refine Ev.step (fun k => ?_) (rof_miss hok hL hil hr d (j + 1) (by omega) hm.2)
    show greenscreenref15_Of.l1 (k + 1) _ _ _ _ _ _ _ _ _ = _
    rw [greenscreenref15_Of.l1, if_pos (by omega), if_pos (by omega), rd_getD, if_neg (fun e => hm.1 e.symm), hw]
theorem rof_l (hok : p.Ok) {a : Int} (a0 : 0 ≤ a) (a1 : a < p.n) : ∀ (d i : Nat), i + d = (σ p).length → (∀ j, j < i → ∀ t : Int, 0 ≤ t → t ≤ (p.rfld j).l → a ≠ (p.sAt j + t) % p.n) →
    ∃ r : FR, OfR p a r ∧ Ev (fun k => greenscreenref15_Of.l0 k a ((p.rflds (σ p).length).map toF) (i : Int) p.rows p.cols p.sl p.cur) r
  | 0, i, h, hno => by
    refine ⟨(0, 0, 0, false), .inl ⟨?_, rfl⟩, Ev.step (G := fun _ => some ((0, 0, 0, false) : FR)) (fun k => ?_) (Ev.const fun _ => rfl)⟩
    · rcases Int.lt_or_le (p.before a) 0 with h1 | h1
      · exact h1
      · exfalso
        obtain ⟨j, hj, t, t0, t1, e⟩ := before_cover hok a0 a1 h1
        exact hno j (by omega) t t0 t1 e
    · show greenscreenref15_Of.l0 (k + 1) _ _ _ _ _ _ _ = _
      rw [greenscreenref15_Of.l0, if_neg (by rw [rflds_mlen]; omega)]
  | d + 1, i, h, hno => by
    have n1 := hok.sz.n1
    have hl := starts_len p p.cells.length
    have hi : i < (σ p).length := by omega
    obtain ⟨hs, hln, hg, _⟩ := fld_gap hok hi
    have hL : (plcL p (p.sAt i) (p.rfld i).l.toNat).length ≤ 4096 := by rw [plcL_len]; omega
    have hil : i ≤ 4096 := by unfold Pl.n at n1; omega
    have e0 : (toF (p.rfld i)).f0 = p.sAt i := rfl
    have e1 : (toF (p.rfld i)).f1 = (p.rfld i).l := rfl
    have e2 : (toF (p.rfld i)).f2 = (p.rfld i).a := rfl
    by_cases hsa : p.sAt i = a
    · refine ⟨p.fr i, ?_, Ev.step (G := fun _ => some (p.fr i)) (fun k => ?_) (Ev.const fun _ => rfl)⟩
      · have := fr_ofR hok hi (Int.le_refl 0) hln.1
        rw [Int.add_zero, Int.emod_eq_of_lt hs.1 hs.2.1, hsa] at this
        exact this
      · show greenscreenref15_Of.l0 (k + 1) _ _ _ _ _ _ _ = _
        rw [greenscreenref15_Of.l0, if_pos (by rw [rflds_mlen]; omega), if_pos (by omega), rd_flds hi, e0, if_pos hsa, e1, e2]
        rfl
    · have hstep : ∀ (r : FR), Ev (fun k => greenscreenref15_Of.l1 k a ((p.rflds (σ p).length).map toF) (i : Int) (plcL p (p.sAt i) (p.rfld i).l.toNat) ((0 : Nat) : Int) p.rows p.cols p.sl p.cur) r →
          Ev (fun k => greenscreenref15_Of.l0 k a ((p.rflds (σ p).length).map toF) (i : Int) p.rows p.cols p.sl p.cur) r := fun r hr => by
        refine Ev.step (fun k => ?_) (Ev.bind (rplaces_f hok hs.1 hs.2.1 hln.1 (Int.le_of_lt hln.2) (p.rfld i).a) (G := fun k t => greenscreenref15_Of.l1 k a ((p.rflds (σ p).length).map toF) (i : Int) t 0 p.rows p.cols p.sl p.cur) hr)
        show greenscreenref15_Of.l0 (k + 1) _ _ _ _ _ _ _ = _
        rw [greenscreenref15_Of.l0, if_pos (by rw [rflds_mlen]; omega), if_pos (by omega), rd_flds hi, e0, if_neg hsa, e1, e2]
      by_cases hm : a ∈ plcL p (p.sAt i) (p.rfld i).l.toNat
      · obtain ⟨t, t0, t1, e⟩ := mem_plcL.1 hm
        refine ⟨p.fr i, ?_, hstep _ (rof_hit hok hi hL _ 0 (Nat.zero_add _) (by rw [List.drop_zero]; exact hm))⟩
        rw [e]
        exact fr_ofR hok hi (by omega) (by omega)
      · obtain ⟨r, h1, h2⟩ := rof_l hok a0 a1 d (i + 1) (by omega) (fun j hj t t0 t1 e => by
          by_cases hji : j = i
          · subst hji
            by_cases ht : t = 0
            · subst ht
              rw [Int.add_zero, Int.emod_eq_of_lt hs.1 hs.2.1] at e
              exact hsa e.symm
            · exact hm (mem_plcL.2 ⟨t, by omega, by omega, e⟩)
          · exact hno j (by omega) t t0 t1 e)
        exact ⟨r, h1, hstep _ (rof_miss hok hL hil h2 _ 0 (Nat.zero_add _) (by rw [List.drop_zero]; exact hm))⟩
theorem rof_f (hok : p.Ok) {a : Int} (a0 : 0 ≤ a) (a1 : a < p.n) : ∃ r : FR, OfR p a r ∧ Ev (fun k => greenscreenref15_Of.f k p.rows p.cols p.sl p.cur a) r := by
  obtain ⟨r, h1, h2⟩ := rof_l hok a0 a1 (σ p).length 0 (by omega) (fun j hj => absurd hj (by omega))
  exact ⟨r, h1, Ev.bind (rall_f hok) h2⟩
theorem ropen_f (hok : p.Ok) {a : Int} (a0 : 0 ≤ a) (a1 : a < p.n) : Ev (fun k => greenscreenref15_Open.f k p.rows p.cols p.sl p.cur a) (p.open_ a) := by
  obtain ⟨r, hr, he⟩ := rof_f hok a0 a1
  have hn : (p.sl.length : Int) = p.n := by rw [sl_len]; rfl
  have hhas : p.has a = true := by unfold Pl.has; exact decide_eq_true ⟨a0, a1⟩
  refine Ev.congr (Ev.bind he (G := fun _ r => if r.2.2.2 = true then (if r.1 = a then some false else (greenscreenref11_Bit.f r.2.2.1 32).bind fun t => some (!t)) else some true) (Ev.const fun k => ?_)) (fun k => ?_)
  · unfold Pl.open_
    rcases hr with ⟨h1, h2⟩ | ⟨h1, h2, h3, h4⟩
    · rw [h2, if_pos h1, hhas]; rfl
    · have hab := at_bd hok.by_ (p.before a)
      rw [h4, if_pos rfl, h2, h3, if_neg (show ¬ p.before a < 0 by omega)]
      by_cases e : p.before a = a
      · rw [if_pos e, e]; simp
      · rw [if_neg e, rbit_f _ 32 (by omega) (by decide), Option.bind_some, bit_b _ hab]
        have : (p.before a != a) = true := by simpa using e
        rw [this]
        rfl
  · unfold greenscreenref15_Open.f greenscreenref14_Has.f
    rw [if_pos (by omega), hn, decide_eq_true a1, Option.bind_some, if_pos rfl]
theorem rnewline_l (hok : p.Ok) {from_ : Int} (f0 : 0 ≤ from_) (f1 : from_ ≤ 10000) : ∀ (d i : Nat), i + d = p.cells.length → scan p.open_ p.n (from_ % p.n) 1 i = none →
    Ev (fun k => greenscreenref19_Newline.l0 k p.n from_ (i : Int) p.rows p.cols p.sl p.cur) ((scan p.open_ p.n (from_ % p.n) 1 p.cells.length).getD 0)
  | 0, i, h, hs => by
    have : i = p.cells.length := by omega
    subst this
    rw [hs]
    refine Ev.step (G := fun _ => some 0) (fun k => ?_) (Ev.const fun _ => rfl)
    show greenscreenref19_Newline.l0 (k + 1) _ _ _ _ _ _ _ = _
    rw [greenscreenref19_Newline.l0, if_neg (by unfold Pl.n; omega)]
  | d + 1, i, h, hs => by
    have n1 := hok.sz.n1
    have n0 := hok.sz.n0
    have hin : (i : Int) < p.n := by unfold Pl.n; omega
    have hp : plc p.n (from_ % p.n) 1 i = (from_ + (i : Int)) % p.n := by unfold plc; rw [Int.mul_one, Int.emod_add_emod]
    have b0 : 0 ≤ (from_ + (i : Int)) % p.n := Int.emod_nonneg _ (by omega)
    have b1 : (from_ + (i : Int)) % p.n < p.n := Int.emod_lt_of_pos _ (by omega)
    have hw : wrap64 ((i : Int) + 1) = ((i + 1 : Nat) : Int) := by rw [w64 (by omega)]; omega
    have ho := ropen_f hok b0 b1
    have hstep : ∀ k, greenscreenref19_Newline.l0 (k + 1) p.n from_ (i : Int) p.rows p.cols p.sl p.cur = (greenscreenref15_Open.f k p.rows p.cols p.sl p.cur ((from_ + (i : Int)) % p.n)).bind fun t => if t = true then some ((from_ + (i : Int)) % p.n) else greenscreenref19_Newline.l0 k p.n from_ ((i + 1 : Nat) : Int) p.rows p.cols p.sl p.cur := fun k => by
      rw [greenscreenref19_Newline.l0, if_pos hin, if_neg (by omega), w64 (by omega), Int.tmod_eq_emod_of_nonneg (by omega), hw]
    cases hq : p.open_ ((from_ + (i : Int)) % p.n)
    · rw [hq] at ho
      refine Ev.step hstep (Ev.bind ho ?_)
      exact rnewline_l hok f0 f1 d (i + 1) (by omega) (by rw [scan_none_succ hs, hp, hq]; rfl)
    · rw [hq] at ho
      have hsc := scan_some (m := p.cells.length) (k := i) (by omega) (by rw [hp]; exact hq) (scan_none_all hs)
      rw [hsc, hp]
      refine Ev.step hstep (Ev.bind ho (Ev.const fun _ => ?_))
      rfl
theorem rnewline_f (hok : p.Ok) : Ev (fun k => greenscreenref19_Newline.f k p.rows p.cols p.sl p.cur) p.newlineM := by
  have n1 := hok.sz.n1
  have c0 := hok.sz.c0
  have c1 := hok.sz.c1
  have k0 := hok.k0
  have k1 := hok.k1
  have hn : (p.sl.length : Int) = p.n := by rw [sl_len]; rfl
  have d0 : 0 ≤ p.cur / p.cols := Int.ediv_nonneg k0 (by omega)
  have d1 : p.cur / p.cols ≤ p.cur := Int.ediv_le_self _ k0
  have m1 : p.cur / p.cols * p.cols ≤ p.cur := Int.ediv_mul_le _ (by omega)
  have m0 : 0 ≤ p.cur / p.cols * p.cols := Int.mul_nonneg d0 (by omega)
  have e : (p.cur / p.cols + 1) * p.cols = p.cur / p.cols * p.cols + p.cols := by rw [Int.add_mul, Int.one_mul]
  refine Ev.congr (rnewline_l hok (from_ := (p.cur / p.cols + 1) * p.cols) (by omega) (by omega) p.cells.length 0 (by omega) rfl) (fun k => ?_)
  unfold greenscreenref19_Newline.f
  rw [if_neg (by omega), hn, Int.tdiv_eq_ediv_of_nonneg k0, w64 (x := p.cur / p.cols) (by omega), w64 (x := p.cur / p.cols + 1) (by omega), w64 (by omega)]
  rfl
end
open Go.RowKit
open Go.Proofs.YtmcfckdgolojlaaW.PrintWords (rd)
theorem Enum.seekB {f : Int → Bool} {n : Int} {O : List Int} (h : Enum f n O) {m : Nat} (hm : n = m) {a : Int} (a0 : 0 ≤ a) (a1 : a < n) (hO : 0 < O.length) :
    scan f n a (-1) m = some ((O.reverse.find? fun x => decide (x ≤ a)).getD (O.getD (O.length - 1) 0)) := by
  cases e : O.reverse.find? fun x => decide (x ≤ a) with
  | some y =>
    obtain ⟨hy, ls, bs, hs, has⟩ := List.find?_eq_some_iff_append.1 e
    have hy' : y ≤ a := of_decide_eq_true hy
    have hmem : y ∈ O := by rw [← List.mem_reverse, hs]; simp
    have hyb := (h.mem y).1 hmem
    have hp : plc n a (-1) (a - y).toNat = y := by
      unfold plc
      rw [Int.toNat_of_nonneg (by omega), show a + (a - y) * -1 = y by omega]
      exact Int.emod_eq_of_lt hyb.1 hyb.2.1
    have := scan_some (f := f) (n := n) (a := a) (s := -1) (m := m) (k := (a - y).toNat) (by omega) (by rw [hp]; exact hyb.2.2) (fun j hj => ?_)
    · rw [this, hp]; rfl
    · have hpj : plc n a (-1) j = a - j := by
        unfold plc
        rw [show a + (j : Int) * -1 = a - j by omega]
        exact Int.emod_eq_of_lt (by omega) (by omega)
      rw [hpj]
      cases hf : f (a - j)
      · rfl
      · exfalso
        have hx : a - (j : Int) ∈ O.reverse := by rw [List.mem_reverse]; exact (h.mem _).2 ⟨by omega, by omega, hf⟩
        have hup : O.reverse.Pairwise (fun x z => z < x) := List.pairwise_reverse.2 h.up
        rw [hs] at hx hup
        rcases List.mem_append.1 hx with hx | hx
        · have := has _ hx
          simp at this
          omega
        · rcases List.mem_cons.1 hx with hx | hx
          · omega
          · have := (List.pairwise_cons.1 (List.pairwise_append.1 hup).2.1).1 _ hx
            omega
  | none =>
    have hall : ∀ x ∈ O, a < x := fun x hx => by
      have := List.find?_eq_none.1 e x (List.mem_reverse.2 hx)
      simp at this
      omega
    have b0 := h.at_ (i := O.length - 1) (by omega)
    have hlt := hall _ ((h.mem _).2 b0)
    have hp : plc n a (-1) (a + n - O.getD (O.length - 1) 0).toNat = O.getD (O.length - 1) 0 := by
      unfold plc
      rw [Int.toNat_of_nonneg (by omega)]
      have e1 := Int.add_emod_right (O.getD (O.length - 1) 0 - n) n
      rw [show O.getD (O.length - 1) 0 - n + n = O.getD (O.length - 1) 0 by omega] at e1
      rw [show a + (a + n - O.getD (O.length - 1) 0) * -1 = O.getD (O.length - 1) 0 - n by omega, ← e1]
      exact Int.emod_eq_of_lt b0.1 b0.2.1
    have := scan_some (f := f) (n := n) (a := a) (s := -1) (m := m) (k := (a + n - O.getD (O.length - 1) 0).toNat) (by omega) (by rw [hp]; exact b0.2.2) (fun j hj => ?_)
    · rw [this, hp]; rfl
    · by_cases hw : 0 ≤ a - (j : Int)
      · have hpj : plc n a (-1) j = a - j := by
          unfold plc
          rw [show a + (j : Int) * -1 = a - j by omega]
          exact Int.emod_eq_of_lt hw (by omega)
        rw [hpj]
        cases hf : f (a - j)
        · rfl
        · exfalso
          have := hall _ ((h.mem _).2 ⟨hw, by omega, hf⟩)
          omega
      · have hpj : plc n a (-1) j = a - j + n := by
          unfold plc
          have e1 := Int.add_emod_right (a - (j : Int)) n
          rw [show a + (j : Int) * -1 = a - j by omega, ← e1]
          exact Int.emod_eq_of_lt (by omega) (by omega)
        rw [hpj]
        exact h.gap (i := O.length - 1) (by omega) (by omega) (by omega) (fun h => absurd h (by omega))
section
variable {p : Pl}
def Pl.bestB (p : Pl) (a : Int) (i : Nat) : Int := ((p.opensL.take i).reverse.find? fun x => decide (x ≤ a)).getD (p.opensL.getD (p.opensL.length - 1) 0)
theorem rback_l1 (hok : p.Ok) (a : Int) (hO : 0 < p.opensL.length) : ∀ (d i : Nat), i + d = p.opensL.length → Ev (fun k => greenscreenref19_Back.l1 k p.opensL p.n a (p.bestB a i) (i : Int)) ((p.bestB a p.opensL.length + 1) % p.n)
  | 0, i, h => by
    have hi : i = p.opensL.length := by omega
    subst hi
    have n1 := hok.sz.n1
    have n0 := hok.sz.n0
    have E := opens_enum hok.by_
    have hb : 0 ≤ p.bestB a p.opensL.length ∧ p.bestB a p.opensL.length < p.n := by
      have hm : p.bestB a p.opensL.length ∈ p.opensL := by
        unfold Pl.bestB
        cases e : (p.opensL.take p.opensL.length).reverse.find? fun x => decide (x ≤ a) with
        | none => exact (E.mem _).2 (E.at_ (by omega))
        | some y =>
          have := List.mem_of_find?_eq_some e
          rw [List.mem_reverse, List.take_length] at this
          exact this
      have := (E.mem _).1 hm
      exact ⟨this.1, this.2.1⟩
    refine Ev.step (G := fun _ => some ((p.bestB a p.opensL.length + 1) % p.n)) (fun k => ?_) (Ev.const fun _ => rfl)
    show greenscreenref19_Back.l1 (k + 1) _ _ _ _ _ = _
    rw [greenscreenref19_Back.l1, if_neg (by omega), if_neg (by omega), w64 (by omega), Int.tmod_eq_emod_of_nonneg (by omega)]
  | d + 1, i, h => by
    have n1 := hok.sz.n1
    unfold Pl.n at n1
    have hol := opensL_le (p := p)
    refine Ev.step (fun k => ?_) (rback_l1 hok a hO d (i + 1) (by omega))
    show greenscreenref19_Back.l1 (k + 1) _ _ _ _ _ = _
    have hw : wrap64 ((i : Int) + 1) = ((i + 1 : Nat) : Int) := by rw [w64 (by omega)]; omega
    have hb : p.bestB a (i + 1) = if p.opensL.getD i 0 ≤ a then p.opensL.getD i 0 else p.bestB a i := by
      have ht : p.opensL.take (i + 1) = p.opensL.take i ++ [p.opensL.getD i 0] := by
        rw [List.take_add_one, List.getElem?_eq_getElem (by omega)]
        simp [show i < p.opensL.length by omega]
      unfold Pl.bestB
      rw [ht, List.reverse_append, List.reverse_singleton, List.singleton_append, List.find?_cons]
      by_cases h : p.opensL.getD i 0 ≤ a
      · rw [decide_eq_true h, if_pos h]; rfl
      · rw [decide_eq_false h, if_neg h]
    rw [greenscreenref19_Back.l1, if_pos (by omega), if_pos (by omega), rd_getD, hw, hb]
    by_cases h : p.opensL.getD i 0 ≤ a
    · rw [if_pos h, if_pos h]
    · rw [if_neg h, if_neg h]
/-- the second half: from two places back on -/
theorem rback_2 (hok : p.Ok) (hO : 0 < p.opensL.length) : Ev (fun k => (greenscreenref02_Move.f k p.rows p.cols p.cur (-2)).bind fun t => if 0 ≤ wrap64 ((p.opensL.length : Int) - 1) then (if wrap64 ((p.opensL.length : Int) - 1) < (p.opensL.length : Int) then greenscreenref19_Back.l1 k p.opensL p.n t (rd p.opensL (wrap64 ((p.opensL.length : Int) - 1))) 0 else none) else none) (p.seekM ((p.cur + -2) % p.n) (-1)) := by
  have n1 := hok.sz.n1
  have n0 := hok.sz.n0
  have hol := opensL_le (p := p)
  have a0 : 0 ≤ (p.cur + -2) % p.n := Int.emod_nonneg _ (by omega)
  have a1 : (p.cur + -2) % p.n < p.n := Int.emod_lt_of_pos _ (by omega)
  unfold Pl.n at n1
  have hsk : p.seekM ((p.cur + -2) % p.n) (-1) = (p.bestB ((p.cur + -2) % p.n) p.opensL.length + 1) % p.n := by
    unfold Pl.seekM
    rw [(opens_enum hok.by_).seekB rfl a0 a1 hO]
    unfold Pl.bestB
    rw [List.take_length]
  rw [hsk]
  refine Ev.bind (rmove_f hok.sz p.cur (-2)) ?_
  refine Ev.congr (rback_l1 hok _ hO p.opensL.length 0 (by omega)) (fun k => ?_)
  have hw : wrap64 ((p.opensL.length : Int) - 1) = ((p.opensL.length - 1 : Nat) : Int) := by rw [w64 (by omega)]; omega
  rw [hw, if_pos (by omega), if_pos (by omega), rd_getD]
  rfl
theorem rback_no (hok : p.Ok) (hO : 0 < p.opensL.length) (ok : Bool) (f0 f1 f2 : Int) (i : Nat) (hi : p.opensL.length ≤ i ∨ ok = false) (hil : i ≤ 100000) : Ev (fun k => greenscreenref19_Back.l0 k p.opensL p.n ok (i : Int) p.rows p.cols p.sl p.cur f0 f1 f2) (p.seekM ((p.cur + -2) % p.n) (-1)) := by
  refine Ev.step (G := fun k => greenscreenref19_Back.j1 k p.opensL p.n ok (i : Int) false p.rows p.cols p.sl p.cur f0 f1 f2) (fun k => ?_) (Ev.step (fun k => ?_) (rback_2 hok hO))
  · rw [greenscreenref19_Back.l0]
    by_cases h : (i : Int) < (p.opensL.length : Int)
    · rw [if_pos h]
      rcases hi with hi | hi
      · omega
      · rw [hi]
    · rw [if_neg h]
  · show greenscreenref19_Back.j1 (k + 1) _ _ _ _ _ _ _ _ _ _ _ _ = _
    rw [greenscreenref19_Back.j1, if_neg (by decide)]
theorem rback_step (hok : p.Ok) (f0 f1 f2 : Int) (f00 : 0 ≤ f0) (f01 : f0 < p.n) (i : Nat) (hi : i < p.opensL.length) (k : Nat) : greenscreenref19_Back.l0 (k + 1 + 1) p.opensL p.n true (i : Int) p.rows p.cols p.sl p.cur f0 f1 f2 =
    if p.opensL.getD i 0 = f0 then (if p.cur = f0 then greenscreenref19_Back.l0 k p.opensL p.n true ((i + 1 : Nat) : Int) p.rows p.cols p.sl p.cur f0 f1 f2 else (if p.cur = (f0 + 1) % p.n then greenscreenref19_Back.l0 k p.opensL p.n true ((i + 1 : Nat) : Int) p.rows p.cols p.sl p.cur f0 f1 f2 else some ((f0 + 1) % p.n))) else greenscreenref19_Back.l0 k p.opensL p.n true ((i + 1 : Nat) : Int) p.rows p.cols p.sl p.cur f0 f1 f2 := by
  have n1 := hok.sz.n1
  have n0 := hok.sz.n0
  have hol := opensL_le (p := p)
  have hn : p.n = p.cells.length := rfl
  have hw : wrap64 ((i : Int) + 1) = ((i + 1 : Nat) : Int) := by rw [w64 (by omega)]; omega
  rw [greenscreenref19_Back.l0, if_pos (by omega), greenscreenref19_Back.j1, if_pos rfl, if_pos (by omega), if_pos (by omega), rd_getD, hw, if_neg (show ¬ p.n = 0 by omega), w64 (by omega), Int.tmod_eq_emod_of_nonneg (by omega)]
theorem rback_l (hok : p.Ok) (hO : 0 < p.opensL.length) (f0 f1 f2 : Int) (f00 : 0 ≤ f0) (f01 : f0 < p.n) : ∀ (d i : Nat), i + d = p.opensL.length →
    ((p.cur ≠ f0 ∧ p.cur ≠ (f0 + 1) % p.n ∧ f0 ∈ p.opensL.drop i → Ev (fun k => greenscreenref19_Back.l0 k p.opensL p.n true (i : Int) p.rows p.cols p.sl p.cur f0 f1 f2) ((f0 + 1) % p.n)) ∧
    (¬ (p.cur ≠ f0 ∧ p.cur ≠ (f0 + 1) % p.n ∧ f0 ∈ p.opensL.drop i) → Ev (fun k => greenscreenref19_Back.l0 k p.opensL p.n true (i : Int) p.rows p.cols p.sl p.cur f0 f1 f2) (p.seekM ((p.cur + -2) % p.n) (-1))))
  | 0, i, h => by
    have n1 := hok.sz.n1
    have hol := opensL_le (p := p)
    have hn : p.n = p.cells.length := rfl
    refine ⟨fun hc => ?_, fun _ => rback_no hok hO true f0 f1 f2 i (.inl (by omega)) (by omega)⟩
    have := hc.2.2
    rw [List.drop_of_length_le (by omega)] at this
    cases this
  | d + 1, i, h => by
    have ih := rback_l hok hO f0 f1 f2 f00 f01 d (i + 1) (by omega)
    have hd : p.opensL.drop i = p.opensL.getD i 0 :: p.opensL.drop (i + 1) := by
      rw [List.drop_eq_getElem_cons (by omega)]
      simp [show i < p.opensL.length by omega]
    have two : ∀ {r : Int} {G : Nat → Option Int}, (∀ k, greenscreenref19_Back.l0 (k + 1 + 1) p.opensL p.n true (i : Int) p.rows p.cols p.sl p.cur f0 f1 f2 = G k) → Ev G r → Ev (fun k => greenscreenref19_Back.l0 k p.opensL p.n true (i : Int) p.rows p.cols p.sl p.cur f0 f1 f2) r :=
      fun hk hg => Ev.step (fun _ => rfl) (Ev.step (F := fun k => greenscreenref19_Back.l0 (k + 1) p.opensL p.n true (i : Int) p.rows p.cols p.sl p.cur f0 f1 f2) hk hg)
    refine ⟨fun hc => ?_, fun hc => ?_⟩
    · by_cases e : p.opensL.getD i 0 = f0
      · exact two (G := fun _ => some ((f0 + 1) % p.n)) (fun k => by rw [rback_step hok f0 f1 f2 f00 f01 i (by omega), if_pos e, if_neg hc.1, if_neg hc.2.1]) (Ev.const fun _ => rfl)
      · have hm := hc.2.2
        rw [hd] at hm
        rcases List.mem_cons.1 hm with hm | hm
        · exact absurd hm.symm e
        · exact two (fun k => by rw [rback_step hok f0 f1 f2 f00 f01 i (by omega), if_neg e]) (ih.1 ⟨hc.1, hc.2.1, hm⟩)
    · have hnx : ¬ (p.cur ≠ f0 ∧ p.cur ≠ (f0 + 1) % p.n ∧ f0 ∈ p.opensL.drop (i + 1)) := fun h' => hc ⟨h'.1, h'.2.1, by rw [hd]; exact List.mem_cons_of_mem _ h'.2.2⟩
      refine two (fun k => ?_) (ih.2 hnx)
      rw [rback_step hok f0 f1 f2 f00 f01 i (by omega)]
      by_cases e : p.opensL.getD i 0 = f0
      · rw [if_pos e]
        by_cases e1 : p.cur = f0
        · rw [if_pos e1]
        · rw [if_neg e1]
          by_cases e2 : p.cur = (f0 + 1) % p.n
          · rw [if_pos e2]
          · exact absurd ⟨e1, e2, by rw [hd, e]; exact List.mem_cons_self⟩ hc
      · rw [if_neg e]
theorem rback_f (hok : p.Ok) : Ev (fun k => greenscreenref19_Back.f k p.rows p.cols p.sl p.cur) p.backM := by
  have n0 := hok.sz.n0
  have hn : (p.sl.length : Int) = p.n := by rw [sl_len]; rfl
  by_cases hO : p.opensL.length = 0
  · rw [backM_none hok.by_ hO n0]
    refine Ev.bind (ropens_f hok) (Ev.const fun k => ?_)
    rw [if_pos (by omega)]
  · obtain ⟨r, hr, he⟩ := rof_f hok hok.k0 hok.k1
    have E := opens_enum hok.by_
    refine Ev.bind (ropens_f hok) (Ev.congr (Ev.bind he (G := fun k bt => greenscreenref19_Back.l0 k p.opensL p.n bt.2.2.2 0 p.rows p.cols p.sl p.cur bt.1 bt.2.1 bt.2.2.1) ?_) (fun k => by rw [if_neg (by omega), hn]))
    unfold Pl.backM
    rcases hr with ⟨h1, h2⟩ | ⟨h1, h2, h3, h4⟩
    · rw [if_neg (fun h => by omega), h2]
      exact rback_no hok (by omega) false r.1 r.2.1 r.2.2.1 0 (.inr rfl) (by omega)
    · have hlt : p.before p.cur < p.n := by
        have := (lookM_bd p hok p.cur (-1)).2
        exact this
      rw [h4, h2]
      have := rback_l hok (by omega) (p.before p.cur) r.2.1 r.2.2.1 h1 hlt p.opensL.length 0 (by omega)
      rw [List.drop_zero] at this
      by_cases hc : 0 ≤ p.before p.cur ∧ p.copen (p.before p.cur) = true ∧ p.cur ≠ p.before p.cur ∧ p.cur ≠ (p.before p.cur + 1) % p.n
      · rw [if_pos hc]
        exact this.1 ⟨hc.2.2.1, hc.2.2.2, (E.mem _).2 ⟨h1, hlt, hc.2.1⟩⟩
      · rw [if_neg hc]
        exact this.2 (fun h => hc ⟨h1, ((E.mem _).1 h.2.2).2.2, h.1, h.2.1⟩)
end
end Go.Proofs.Ytmcfckdgolojlaa
