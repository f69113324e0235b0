/- The document's Same, of the same events. -/
import Derived.Test.YthkioahpnbahhaaD5g
import Derived.Deep.QuietTactic
import Derived.BigQuiet
namespace Go.Proofs.Ythkioahpnbahhaa
set_option linter.unusedVariables false
set_option linter.unusedSimpArgs false
open Go.RowKit Go.Proofs.YthkioahpnbahhaaW.PrintWords
theorem same1_loop (l : List Int) (hl : l.length ≤ 1000000) : ∀ (d k i : Nat), l.length = i + d → d < k → PIacFeeds.greenscreenref01_Same.l0 k l l (i : Int) = some true := by
  intro d
  induction d with
  | zero =>
    intro k i hi hk
    obtain ⟨k, rfl⟩ : ∃ m, k = m + 1 := ⟨k - 1, by omega⟩
    simp only [PIacFeeds.greenscreenref01_Same.l0]
    rw [if_neg (by omega)]
  | succ d ih =>
    intro k i hi hk
    obtain ⟨k, rfl⟩ : ∃ m, k = m + 1 := ⟨k - 1, by omega⟩
    have hw : wrap64 ((i : Int) + 1) = ((i + 1 : Nat) : Int) := by unfold wrap64; omega
    simp only [PIacFeeds.greenscreenref01_Same.l0]
    rw [if_pos (by omega), if_pos (by omega), if_pos (by omega), if_pos True.intro, hw]
    exact ih k (i + 1) (by omega) (by omega)
theorem same1 (l : List Int) (hl : l.length ≤ 1000000) {k : Nat} (hk : l.length < k) : PIacFeeds.greenscreenref01_Same.f k l l = some true := by
  unfold PIacFeeds.greenscreenref01_Same.f
  rw [if_pos rfl]
  exact same1_loop l hl l.length k 0 (by omega) hk
set_option maxRecDepth 100000 in
set_option maxHeartbeats 8000000 in
theorem SameE_any {W : World} {v1 v2 : Value} {ms1 ms2 : List Em} (h1 : EvR W v1 ms1) (h2 : EvR W v2 ms2) (he : ms1.map Em.e = ms2.map Em.e) (hl : ms1.length ≤ 1000000) (hb : ∀ m ∈ ms1, m.e.bytes.length ≤ 1000000) :
    Calls Try.prog 28 #[v1, v2] W (fun e w' => e = .returned (.bool true) ∧ Ext W w') := by
  obtain ⟨A1, c1, rfl, k1, r1, m1⟩ := h1
  obtain ⟨A2, c2, rfl, k2, r2, m2⟩ := h2
  have hn : ms2.length = ms1.length := by have := congrArg List.length he; simpa using this.symm
  rw [hn] at r2 ⊢
  have HR1 := Lib.hid r1
  have HR2 := Lib.hid r2
  have HM1 := Lib.hid m1
  have HM2 := Lib.hid m2
  have HE := Lib.hid he
  have HB := Lib.hid hb
  have HN := Lib.hid hn
  clear r1 r2 m1 m2 he hb hn k1 k2
  go_enter Try.func28, Try.ntmps28
  go_wp2_with fail
  go_loopw [5] (fun v wr => ∃ k : Nat, k ≤ ms1.length ∧ v = .int .i64 k ∧ Hid (Ext W wr)) (fun v _ => ms1.length - (intOf v).toNat)
  case atStart => exact ⟨0, Nat.zero_le _, rfl, Ext_refl W⟩
  case round =>
    obtain ⟨k, hk, rfl, HX⟩ := hrel
    by_cases hlt : k < ms1.length
    · obtain ⟨a, ha⟩ : ∃ a, ms1[k]? = some a := ⟨_, List.getElem?_eq_getElem hlt⟩
      obtain ⟨d, hd⟩ : ∃ d, ms2[k]? = some d := ⟨_, List.getElem?_eq_getElem (by rw [HN.out]; exact hlt)⟩
      have hed : a.e = d.e := by
        have := congrArg (fun l => l[k]?) HE.out
        simp only [List.getElem?_map, ha, hd, Option.map_some, Option.some.injEq] at this
        exact this
      have hR2' : Rd W 4 A2 ms2.length (ms2.flatMap Em.enc) := by rw [HN.out]; exact HR2.out
      obtain ⟨bb1, o1, hA1, hc1⟩ := (Rd_ext HX.out HR1.out).elem Em.enc (fun _ => rfl) hlt ha
      obtain ⟨bb2, o2, hA2, hc2⟩ := (Rd_ext HX.out hR2').elem Em.enc (fun _ => rfl) (by rw [HN.out]; exact hlt) hd
      have hma := HM1.out a (List.mem_of_getElem? ha)
      have hmd := HM2.out d (List.mem_of_getElem? hd)
      have hba := HB.out a (List.mem_of_getElem? ha)
      obtain ⟨e, Aa, ca⟩ := a
      obtain ⟨e', Ad, cd⟩ := d
      obtain rfl : e = e' := hed
      have x0 := hc1 0 _ rfl
      have x1 := hc1 1 _ rfl
      have x2 := hc1 2 _ rfl
      have x3 := hc1 3 _ rfl
      have y0 := hc2 0 _ rfl
      have y1 := hc2 1 _ rfl
      have y2 := hc2 2 _ rfl
      have y3 := hc2 3 _ rfl
      simp only [Nat.add_zero, Em.v] at x0 x1 x2 x3 y0 y1 y2 y3
      subst hA1
      subst hA2
      have HA := Lib.hid hma
      have HD := Lib.hid hmd
      have hbe : e.bytes.length ≤ 1000000 := hba
      have hli : (k : Int) < (ms1.length : Int) := by omega
      have hwk : IntKind.i64.wrap ((k : Int) + 1) = ((k + 1 : Nat) : Int) := IntWalk.i64_in _ (by omega)
      clear hc1 hc2 ha hd hma hmd hR2'
      go_upto_region 6 with (fail)
      go_quiet ((go_at_call 15; exact Calls.quiet_of ((PIacFeeds.greenscreenref01_Same.calls (e.bytes.length + 1) Aa ca e.bytes Ad cd e.bytes true _ (C_of_Rd (Rd_ext (Ext_drewN HX.out) HA.out.1) (by show e.bytes.length ≤ _; omega)) HA.out.2 (C_of_Rd (Rd_ext (Ext_drewN HX.out) HD.out.1) (by show e.bytes.length ≤ _; omega)) HD.out.2 (same1 e.bytes hbe (by omega))).mono (fun _ _ ⟨h1, h2⟩ => ⟨h1, h2.out⟩))))
      go_wp2_with fail
      refine ⟨⟨k + 1, by omega, by go_num, Ext_drewN HX.out⟩, by simp [intOf]; omega⟩
    · have : k = ms1.length := by omega
      subst this
      go_wp2_with fail
      go_ret
      exact ⟨rfl, HX.out⟩
end Go.Proofs.Ythkioahpnbahhaa
