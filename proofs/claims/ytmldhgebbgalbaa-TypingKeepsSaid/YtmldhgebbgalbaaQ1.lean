/- The document's planes: New, and the sizes. -/
import Derived.Test.YtmldhgebbgalbaaP9
import Derived.Laws.BitsLemmas
namespace Go.Proofs.Ytmldhgebbgalbaa
set_option linter.unusedVariables false
set_option linter.unusedSimpArgs false
open Go.RowKit

theorem i64_mask (x : Int) (i : Nat) (hi : i ≤ 62) : bits .and .i64 x (((2 ^ i - 1 : Nat)) : Int) = x % ((2 ^ i : Nat) : Int) := by
  have hp : (2:Nat) ^ i ≤ 2 ^ 62 := Nat.pow_le_pow_right (by decide) hi
  have hpos : 0 < 2 ^ i := Nat.two_pow_pos i
  have h1 : ((2 ^ i - 1 : Nat) : Nat) % 2 ^ 64 = 2 ^ i - 1 := Nat.mod_eq_of_lt (by omega)
  simp only [bits, BitVec.ofInt_natCast, BitVec.toNat_and, BitVec.toNat_ofNat, BitVec.toNat_ofInt]
  rw [show IntKind.i64.bits = 64 from rfl]
  rw [h1, Nat.and_two_pow_sub_one_eq_mod]
  have h2 : ((x % ((2 ^ 64 : Nat) : Int)).toNat : Int) = x % ((2 ^ 64 : Nat) : Int) := Int.toNat_of_nonneg (Int.emod_nonneg _ (by decide))
  have h3 : (((x % ((2 ^ 64 : Nat) : Int)).toNat % 2 ^ i : Nat) : Int) = x % ((2 ^ i : Nat) : Int) := by
    rw [Int.natCast_emod, h2]
    apply Int.emod_emod_of_dvd
    exact_mod_cast Nat.pow_dvd_pow 2 (show i ≤ 64 by omega)
  rw [h3, IntKind.wrap_i64]
  have h4 : 0 ≤ x % ((2 ^ i : Nat) : Int) := Int.emod_nonneg _ (by omega)
  have h5 : x % ((2 ^ i : Nat) : Int) < ((2 ^ i : Nat) : Int) := Int.emod_lt_of_pos _ (by omega)
  omega
theorem and255 (x : Int) : bits .and .i64 x 255 = x % 256 := i64_mask x 8 (by decide)
theorem and63 (x : Int) : bits .and .i64 x 63 = x % 64 := i64_mask x 6 (by decide)
theorem and1023 (x : Int) : bits .and .i64 x 1023 = x % 1024 := i64_mask x 10 (by decide)
theorem and4095 (x : Int) : bits .and .i64 x 4095 = x % 4096 := i64_mask x 12 (by decide)
theorem and16383 (x : Int) : bits .and .i64 x 16383 = x % 16384 := i64_mask x 14 (by decide)
theorem and15 (x : Int) : bits .and .i64 x 15 = x % 16 := i64_mask x 4 (by decide)
theorem and7 (x : Int) : bits .and .i64 x 7 = x % 8 := i64_mask x 3 (by decide)
set_option maxHeartbeats 1000000 in
theorem RCells_any (r c : Int) (w : World) : Calls Try.prog 56 #[.agg #[.int .i64 r, .int .i64 c]] w (Ret (.int .i64 (cellsM r c)) w) := by
  unfold cellsM
  by_cases h : 1 ≤ r ∧ r ≤ 43 ∧ 1 ≤ c ∧ c ≤ 132
  · obtain ⟨a, b, d, e⟩ := h
    obtain ⟨m0, m1⟩ := mul_bound a b d e
    by_cases h4 : 4096 < r * c
    · rw [if_pos (by omega)]
      go_enter Try.func56, Try.ntmps56
      go_wp2
      go_ret
      exact ⟨rfl, (by repeat' (first | exact Ext_refl _ | apply Ext_alloc))⟩
    · rw [if_neg (by omega)]
      go_enter Try.func56, Try.ntmps56
      go_wp2
      go_ret
      exact ⟨rfl, (by repeat' (first | exact Ext_refl _ | apply Ext_alloc))⟩
  · rw [if_pos (by omega)]
    by_cases h1 : r < 1
    · go_enter Try.func56, Try.ntmps56
      go_wp2
      go_ret
      exact ⟨rfl, (by repeat' (first | exact Ext_refl _ | apply Ext_alloc))⟩
    by_cases h2 : 43 < r
    · go_enter Try.func56, Try.ntmps56
      go_wp2
      go_ret
      exact ⟨rfl, (by repeat' (first | exact Ext_refl _ | apply Ext_alloc))⟩
    by_cases h3 : c < 1
    · go_enter Try.func56, Try.ntmps56
      go_wp2
      go_ret
      exact ⟨rfl, (by repeat' (first | exact Ext_refl _ | apply Ext_alloc))⟩
    by_cases h5 : 132 < c
    · go_enter Try.func56, Try.ntmps56
      go_wp2
      go_ret
      exact ⟨rfl, (by repeat' (first | exact Ext_refl _ | apply Ext_alloc))⟩
    · omega

def RNewP (r c : Int) (m : Nat) (w : World) (e : Ending) (w' : World) : Prop :=
  ∃ b, e = .returned (.tuple #[.agg #[.int .i64 r, .int .i64 c, .slice (some ⟨b, 0, none⟩) m m, .int .i64 0], .int .i64 0]) ∧ Blk w' b 46 (cellRow (List.replicate m Cel.zero)) ∧ Ext w w' ∧ w.heap.size ≤ b
set_option maxRecDepth 100000 in
set_option maxHeartbeats 4000000 in
theorem RNew_yes (r c : Int) (m : Nat) (h : SzOk r c m) (w : World) : Calls Try.prog 33 #[.agg #[.int .i64 r, .int .i64 c]] w (RNewP r c m w) := by
  have HC := Lib.hid (cellsM_ok h)
  have HX := Lib.hid (Ext_refl w)
  have n0 := h.n0
  have n1 := h.n1
  have hmk := make_cells m (by omega)
  have hm0 : ((m : Int) == 0) = false := by rw [beq_eq_false_iff_ne]; omega
  clear h
  go_enter Try.func33, Try.ntmps33
  go_wp2_with (go_at_call 56; refine (RCells_any _ _ _).mono ?_; rintro e wn ⟨rfl, hb⟩; rw [HC.out]; have hz0 : w.heap.size < wn.heap.size := (by have := hb.size; (try simp only [World.size_alloc, World.size_setCell, World.size_drew, size_drewN] at this); omega); have hz1 : w.heap.size + 1 < wn.heap.size := (by have := hb.size; (try simp only [World.size_alloc, World.size_setCell, World.size_drew, size_drewN] at this); omega); have hc0_0 : wn.cell? ⟨w.heap.size, 0, none⟩ = some (.int .i64 r) := (cell_ext hb (by unfold In; first | omega | (simp; done) | (simp; omega))).trans (by go_simp); have hf0_0 : wn.frozen? ⟨w.heap.size, 0, none⟩ = false := (frozen_ext hb (by unfold In; first | omega | (simp; done) | (simp; omega))).trans (by go_simp); have hc0_1 : wn.cell? ⟨w.heap.size, 1, none⟩ = some (.int .i64 c) := (cell_ext hb (by unfold In; first | omega | (simp; done) | (simp; omega))).trans (by go_simp); have hf0_1 : wn.frozen? ⟨w.heap.size, 1, none⟩ = false := (frozen_ext hb (by unfold In; first | omega | (simp; done) | (simp; omega))).trans (by go_simp); have hc1_0 : wn.cell? ⟨w.heap.size + 1, 0, none⟩ = some (.int .i64 0) := (cell_ext hb (by unfold In; first | omega | (simp; done) | (simp; omega))).trans (by go_simp); have hf1_0 : wn.frozen? ⟨w.heap.size + 1, 0, none⟩ = false := (frozen_ext hb (by unfold In; first | omega | (simp; done) | (simp; omega))).trans (by go_simp); have hc1_1 : wn.cell? ⟨w.heap.size + 1, 1, none⟩ = some (.int .i64 0) := (cell_ext hb (by unfold In; first | omega | (simp; done) | (simp; omega))).trans (by go_simp); have hf1_1 : wn.frozen? ⟨w.heap.size + 1, 1, none⟩ = false := (frozen_ext hb (by unfold In; first | omega | (simp; done) | (simp; omega))).trans (by go_simp); have hc1_2 : wn.cell? ⟨w.heap.size + 1, 2, none⟩ = some (.slice none 0 0) := (cell_ext hb (by unfold In; first | omega | (simp; done) | (simp; omega))).trans (by go_simp); have hf1_2 : wn.frozen? ⟨w.heap.size + 1, 2, none⟩ = false := (frozen_ext hb (by unfold In; first | omega | (simp; done) | (simp; omega))).trans (by go_simp); have hc1_3 : wn.cell? ⟨w.heap.size + 1, 3, none⟩ = some (.int .i64 0) := (cell_ext hb (by unfold In; first | omega | (simp; done) | (simp; omega))).trans (by go_simp); have hf1_3 : wn.frozen? ⟨w.heap.size + 1, 3, none⟩ = false := (frozen_ext hb (by unfold In; first | omega | (simp; done) | (simp; omega))).trans (by go_simp); have HXn := Lib.hid (Ext_trans hb (by repeat' (first | (with_reducible first | exact HX.out | apply Ext_alloc | apply Ext_drewN | apply Ext_drew | (refine Ext_set ?_ ?_) | exact Ext_refl _) | (simp only [World.size_alloc, World.size_setCell, World.size_drew, size_drewN]; omega) | (simp; done) | (simp; omega)))); clear hb HX; have HX := HXn; clear HXn)
  go_region
  all_goals go_wp2
  have q := Blk.new ((((wn.setCell ⟨w.heap.size + 1, 0, none⟩ (.int .i64 r)).setCell ⟨w.heap.size + 1, 1, none⟩ (.int .i64 c)).setCell ⟨w.heap.size + 1, 2, none⟩ (.slice (some ⟨wn.heap.size, 0, none⟩) m m)).setCell ⟨w.heap.size + 1, 3, none⟩ (.int .i64 0)) 46 (cellRow (List.replicate m Cel.zero))
  rw [World.size_setCell, World.size_setCell, World.size_setCell, World.size_setCell] at q
  refine bodyPost_ret (v := .tuple #[.agg #[.int .i64 r, .int .i64 c, .slice (some ⟨wn.heap.size, 0, none⟩) m m, .int .i64 0], .int .i64 0]) (by simp [results, Try.results33, go_sem, hc1_0, hc1_1, hc1_2, hc1_3, hz0, hz1]) rfl ?_
  exact ⟨_, rfl, q.drew, (by repeat' (first | (with_reducible first | exact HX.out | apply Ext_alloc | apply Ext_drewN | apply Ext_drew | (refine Ext_set ?_ ?_) | exact Ext_refl _) | (simp only [World.size_alloc, World.size_setCell, World.size_drew, size_drewN]; omega) | (simp; done) | (simp; omega))), HX.out.size⟩
theorem RNew_no (r c : Int) (h : cellsM r c = 0) (w : World) : Calls Try.prog 33 #[.agg #[.int .i64 r, .int .i64 c]] w (Ret (.tuple #[.agg #[.int .i64 0, .int .i64 0, .slice none 0 0, .int .i64 0], .int .i64 1]) w) := by
  have HC := Lib.hid h
  have HX := Lib.hid (Ext_refl w)
  clear h
  go_enter Try.func33, Try.ntmps33
  go_wp2_with (go_at_call 56; refine (RCells_any _ _ _).mono ?_; rintro e wn ⟨rfl, hb⟩; rw [HC.out]; have hz0 : w.heap.size < wn.heap.size := (by have := hb.size; (try simp only [World.size_alloc, World.size_setCell, World.size_drew, size_drewN] at this); omega); have hz1 : w.heap.size + 1 < wn.heap.size := (by have := hb.size; (try simp only [World.size_alloc, World.size_setCell, World.size_drew, size_drewN] at this); omega); have hc0_0 : wn.cell? ⟨w.heap.size, 0, none⟩ = some (.int .i64 r) := (cell_ext hb (by unfold In; first | omega | (simp; done) | (simp; omega))).trans (by go_simp); have hf0_0 : wn.frozen? ⟨w.heap.size, 0, none⟩ = false := (frozen_ext hb (by unfold In; first | omega | (simp; done) | (simp; omega))).trans (by go_simp); have hc0_1 : wn.cell? ⟨w.heap.size, 1, none⟩ = some (.int .i64 c) := (cell_ext hb (by unfold In; first | omega | (simp; done) | (simp; omega))).trans (by go_simp); have hf0_1 : wn.frozen? ⟨w.heap.size, 1, none⟩ = false := (frozen_ext hb (by unfold In; first | omega | (simp; done) | (simp; omega))).trans (by go_simp); have hc1_0 : wn.cell? ⟨w.heap.size + 1, 0, none⟩ = some (.int .i64 0) := (cell_ext hb (by unfold In; first | omega | (simp; done) | (simp; omega))).trans (by go_simp); have hf1_0 : wn.frozen? ⟨w.heap.size + 1, 0, none⟩ = false := (frozen_ext hb (by unfold In; first | omega | (simp; done) | (simp; omega))).trans (by go_simp); have hc1_1 : wn.cell? ⟨w.heap.size + 1, 1, none⟩ = some (.int .i64 0) := (cell_ext hb (by unfold In; first | omega | (simp; done) | (simp; omega))).trans (by go_simp); have hf1_1 : wn.frozen? ⟨w.heap.size + 1, 1, none⟩ = false := (frozen_ext hb (by unfold In; first | omega | (simp; done) | (simp; omega))).trans (by go_simp); have hc1_2 : wn.cell? ⟨w.heap.size + 1, 2, none⟩ = some (.slice none 0 0) := (cell_ext hb (by unfold In; first | omega | (simp; done) | (simp; omega))).trans (by go_simp); have hf1_2 : wn.frozen? ⟨w.heap.size + 1, 2, none⟩ = false := (frozen_ext hb (by unfold In; first | omega | (simp; done) | (simp; omega))).trans (by go_simp); have hc1_3 : wn.cell? ⟨w.heap.size + 1, 3, none⟩ = some (.int .i64 0) := (cell_ext hb (by unfold In; first | omega | (simp; done) | (simp; omega))).trans (by go_simp); have hf1_3 : wn.frozen? ⟨w.heap.size + 1, 3, none⟩ = false := (frozen_ext hb (by unfold In; first | omega | (simp; done) | (simp; omega))).trans (by go_simp); have HXn := Lib.hid (Ext_trans hb (by repeat' (first | (with_reducible first | exact HX.out | apply Ext_alloc | apply Ext_drewN | apply Ext_drew | (refine Ext_set ?_ ?_) | exact Ext_refl _) | (simp only [World.size_alloc, World.size_setCell, World.size_drew, size_drewN]; omega) | (simp; done) | (simp; omega)))); clear hb HX; have HX := HXn; clear HXn)
  refine bodyPost_ret (v := .tuple #[.agg #[.int .i64 0, .int .i64 0, .slice none 0 0, .int .i64 0], .int .i64 1]) (by simp [results, Try.results33, go_sem, hc1_0, hc1_1, hc1_2, hc1_3, hz0, hz1]) rfl ?_
  exact ⟨rfl, (by repeat' (first | (with_reducible first | exact HX.out | apply Ext_alloc | apply Ext_drewN | apply Ext_drew | (refine Ext_set ?_ ?_) | exact Ext_refl _) | (simp only [World.size_alloc, World.size_setCell, World.size_drew, size_drewN]; omega) | (simp; done) | (simp; omega)))⟩
end Go.Proofs.Ytmldhgebbgalbaa
