/- The document's open fields. -/
import Derived.Test.YtmldhgebbgalbaaQ4
namespace Go.Proofs.Ytmldhgebbgalbaa
set_option linter.unusedVariables false
set_option linter.unusedSimpArgs false
open Go.RowKit
/-- has a byte the bit of that value? -/
def bitV (b v : Int) : Bool := b / v % 2 == 1
theorem RBit16_any (b : Int) (hb : 0 ≤ b ∧ b < 256) (w : World) : Calls Try.prog 58 #[.int .u8 b, .int .i64 16] w (Ret (.bool (bitV b 16)) w) := by
  have e1 : b.tdiv 16 = b / 16 := Int.tdiv_eq_ediv_of_nonneg hb.1
  have e2 : (b / 16).tmod 2 = b / 16 % 2 := Int.tmod_eq_emod_of_nonneg (by omega)
  have hw : IntKind.i64.wrap b = b := IntWalk.i64_in _ (by omega)
  have hq : wrap64 (b / 16) = b / 16 := IntWalk.wrap64_in _ (by omega)
  have HB := Lib.hid hb
  clear hb
  go_enter Try.func58, Try.ntmps58
  go_wp2_with fail
  go_ret
  exact ⟨rfl, Ext_refl _⟩
theorem RBit32_any (b : Int) (hb : 0 ≤ b ∧ b < 256) (w : World) : Calls Try.prog 58 #[.int .u8 b, .int .i64 32] w (Ret (.bool (bitV b 32)) w) := by
  have e1 : b.tdiv 32 = b / 32 := Int.tdiv_eq_ediv_of_nonneg hb.1
  have e2 : (b / 32).tmod 2 = b / 32 % 2 := Int.tmod_eq_emod_of_nonneg (by omega)
  have hw : IntKind.i64.wrap b = b := IntWalk.i64_in _ (by omega)
  have hq : wrap64 (b / 32) = b / 32 := IntWalk.wrap64_in _ (by omega)
  have HB := Lib.hid hb
  clear hb
  go_enter Try.func58, Try.ntmps58
  go_wp2_with fail
  go_ret
  exact ⟨rfl, Ext_refl _⟩
/-- the open fields among the first k -/
def Pl.opens (p : Pl) (k : Nat) : List Int := ((p.rflds k).filter fun f => decide (f.l > 0) && !bitV f.a 32).map FV.s
theorem opens_succ (p : Pl) (k : Nat) : p.opens (k + 1) = if (decide ((p.rfld k).l > 0) && !bitV (p.rfld k).a 32) = true then p.opens k ++ [(p.rfld k).s] else p.opens k := by
  unfold Pl.opens
  rw [rflds_succ, List.filter_append, List.map_append]
  cases h : (decide ((p.rfld k).l > 0) && !bitV (p.rfld k).a 32) <;> simp [h]
theorem opens_len (p : Pl) : ∀ k, (p.opens k).length ≤ k
  | 0 => by simp [Pl.opens, Pl.rflds]
  | k + 1 => by
    rw [opens_succ]
    have := opens_len p k
    split <;> simp <;> omega
theorem fvs_len (l : List FV) : (fvs l).length = 3 * l.length := by
  induction l with
  | nil => rfl
  | cons a l ih => simp [fvs, FV.enc] at ih ⊢; omega
theorem fvs_get (p : Pl) {m k : Nat} (hk : k < m) (j : Nat) (hj : j < 3) : (fvs (p.rflds m))[3 * k + j]? = (p.rfld k).enc[j]? := by
  obtain ⟨d, rfl⟩ : ∃ d, m = k + 1 + d := ⟨m - (k + 1), by omega⟩
  induction d with
  | zero =>
    rw [Nat.add_zero, rflds_succ, fvs_append, List.getElem?_append_right (by rw [fvs_len, rflds_len]; omega), fvs_len, rflds_len, Nat.add_sub_cancel_left]
    simp [fvs]
  | succ d ih =>
    rw [← Nat.add_assoc, rflds_succ, fvs_append, List.getElem?_append_left (by rw [fvs_len, rflds_len]; omega)]
    exact ih (by omega)
theorem rfld_a (p : Pl) (hby : ∀ y ∈ p.cells, 0 ≤ y.b ∧ y.b < 256) (k : Nat) : 0 ≤ (p.rfld k).a ∧ (p.rfld k).a < 64 := by unfold Pl.rfld; constructor <;> simp only <;> omega
/-- the document's open fields: a list of new memory -/
def Pl.opensL (p : Pl) : List Int := p.opens (p.starts p.cells.length).length
set_option maxRecDepth 100000 in
set_option maxHeartbeats 4000000 in
theorem Opens_any (x : Nat) (p : Pl) (hn : p.cells.length ≤ 4096) (hby : ∀ y ∈ p.cells, 0 ≤ y.b ∧ y.b < 256) (w : World) (hr : Blk w x 46 (cellRow p.cells)) :
    Calls Try.prog 82 #[.agg #[.int .i64 p.rows, .int .i64 p.cols, .slice (some ⟨x, 0, none⟩) p.cells.length p.cells.length, .int .i64 p.cur]] w (RetI p.opensL w) := by
  have HR := Lib.hid (fun w' (h : Ext w w') => Blk.below' hr h)
  have HBY := Lib.hid hby
  clear hr hby
  go_enter Try.func82, Try.ntmps82
  go_wp2_with fail
  have q1 := (Blk.new w 29 #[.int .i64 p.rows, .int .i64 p.cols, .slice (some ⟨x, 0, none⟩) p.cells.length p.cells.length, .int .i64 p.cur]).alloc (.cells #[] 3)
  have q2 := Blk.new (w.alloc (.cells #[.int .i64 p.rows, .int .i64 p.cols, .slice (some ⟨x, 0, none⟩) p.cells.length p.cells.length, .int .i64 p.cur] 29)) 3 #[]
  rw [World.size_alloc] at q2
  have hE := (show Ext w ((w.alloc (.cells #[.int .i64 p.rows, .int .i64 p.cols, .slice (some ⟨x, 0, none⟩) p.cells.length p.cells.length, .int .i64 p.cur] 29)).alloc (.cells #[] 3)) from Ext_alloc (Ext_alloc (Ext_refl _)))
  refine (All_any x p hn HBY.out _ (HR.out _ hE)).mono ?_
  rintro e w1 ⟨A, c, rfl, ho, hb⟩
  rw [rflds_len] at ho
  rw [rflds_len]
  have HS := Lib.hid ho
  have B2 := Lib.hid (Blk.below' q2 hb)
  have HX := Lib.hid (Ext_trans hb hE)
  have hls := starts_len p p.cells.length
  have hbs : w.heap.size + 2 ≤ w1.heap.size := by have := hb.size; simp at this; omega
  clear ho q1 q2 hb hE
  generalize hm : (p.starts p.cells.length).length = m at *
  have HL := Lib.hid (show p.opensL = p.opens m by rw [← hm]; rfl)
  clear hm
  go_wp2
  go_loopw [3, 5] (fun v3 v5 wr => ∃ k : Nat, k ≤ m ∧ v5 = .int .i64 k ∧ Hid (wr.ownsRow w.heap.size 3 1 v3 (p.opens k).length (i64s (p.opens k))) ∧
      Hid (wr.ownsRow w.heap.size 75 3 (.slice A m c) m (fvs (p.rflds m))) ∧ Hid (Ext w wr)) (fun _ v _ => m - (intOf v).toNat)
  case atStart => exact ⟨0, Nat.zero_le _, rfl, own_new B2.out (by omega), own_weak HS.out (by simp; omega), HX.out⟩
  case round =>
    obtain ⟨k, hk, rfl, HO, H3, H2⟩ := hrel
    obtain ⟨A9, c9, rfl⟩ := own_slice HO.out
    have hlk := opens_len p k
    by_cases hlt : k < m
    · obtain ⟨ga, oa, eA, hc⟩ := (Rd.own H3.out).2 (by omega)
      subst eA
      have a0 : wr.cell? ⟨ga, oa + k * 3, none⟩ = some ((fun y : FV => y.enc.getD 0 (.bool false)) (p.rfld k)) := by rw [Nat.mul_comm]; exact hc (3 * k + 0) _ ((fvs_get p hlt 0 (by omega)).trans rfl)
      have a1 : wr.cell? ⟨ga, oa + k * 3 + 1, none⟩ = some ((fun y : FV => y.enc.getD 1 (.bool false)) (p.rfld k)) := by rw [Nat.mul_comm, Nat.add_assoc]; exact hc (3 * k + 1) _ ((fvs_get p hlt 1 (by omega)).trans rfl)
      have a2 : wr.cell? ⟨ga, oa + k * 3 + 2, none⟩ = some ((fun y : FV => y.enc.getD 2 (.bool false)) (p.rfld k)) := by rw [Nat.mul_comm, Nat.add_assoc]; exact hc (3 * k + 2) _ ((fvs_get p hlt 2 (by omega)).trans rfl)
      have HSU := Lib.hid (opens_succ p k)
      have ha := rfld_a p HBY.out k
      generalize p.rfld k = y at *
      generalize hbt : bitV y.a 32 = bt at *
      have HY := Lib.hid ha
      have HBT := Lib.hid hbt
      simp [FV.enc] at a0 a1 a2
      have hk0 : (0 : Int) ≤ k := by omega
      have hk2 : (k : Int) < m := by omega
      clear hc ha hbt
      by_cases hl0 : y.l > 0
      · cases bt
        · go_wp2_with (first | (go_at_call 58; refine (RBit32_any _ ⟨HY.out.1, by have := HY.out.2; omega⟩ _).mono ?_; rintro e w2 ⟨rfl, hb⟩; rw [HBT.out]; have a3 := cell_ext hb (lt_of_cell a0) |>.trans a0; clear a0 a1 a2; have HO2 := Lib.hid (own_ext HO.out hb); have H32 := Lib.hid (own_ext H3.out hb); have H22 := Lib.hid (Ext_trans hb H2.out); clear hb HO H3 H2) |
            (at_builtin; refine append_one w.heap.size rfl (.tmp 30) (.tmp 36) 42 3 (.int .i64 0) 1 8 rfl Try.underlying42 infoInt rfl (by decide) (.slice A9 _ c9) _ _ [.int .i64 y.s] HO2.out (by rfl) (by rfl) rfl rfl (by rfl) (by omega) (by unfold maxLen; omega) H22.out.size ?_; intro g9 c9' w3 hown hg hge; have HO1 := Lib.hid hown; have HG1 := Lib.hid hg; clear hown hg))
          go_roundw
          case rel =>
            refine ⟨k + 1, by omega, by go_num, ?_, World.ownsRow.kept H32.out HG1.out (own_ne H32.out HO2.out (by decide)), Below.grown H22.out HG1.out H22.out.size (fun g hg => (own_base HO2.out g hg).1)⟩
            rw [HSU.out, if_pos (by simp [hl0]), List.length_append, i64s_append]
            exact HO1
          case measure => simp [intOf]; omega
        · go_wp2_with (first | (go_at_call 58; refine (RBit32_any _ ⟨HY.out.1, by have := HY.out.2; omega⟩ _).mono ?_; rintro e w2 ⟨rfl, hb⟩; rw [HBT.out]; have HB := Lib.hid hb; clear hb))
          go_roundw
          case rel => exact ⟨k + 1, by omega, by go_num, by rw [HSU.out]; simpa [hl0] using Lib.hid (own_ext HO.out HB.out), own_ext H3.out HB.out, Ext_trans HB.out H2.out⟩
          case measure => simp [intOf]; omega
      · have : ¬ (0 < y.l) := hl0
        go_wp2_with fail
        go_roundw
        case rel => exact ⟨k + 1, by omega, by go_num, by rw [HSU.out]; simpa [hl0] using HO, H3.out, H2.out⟩
        case measure => simp [intOf]; omega
    · have : k = m := by omega
      subst this
      go_wp2
      go_ret
      unfold RetI
      rw [HL.out]
      exact ⟨_, _, rfl, HO.out, H2.out⟩
end Go.Proofs.Ytmldhgebbgalbaa
