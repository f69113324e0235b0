/- IacEscapes: bytes that are escaped are data alone, and these again. -/
import Derived.Test.YthkioahpnbahhaaD5y
import Derived.Test.YthkioahpnbahhaaD5s
import Derived.Deep.QuietTactic
import Derived.BigQuiet
namespace Go.Proofs.Ythkioahpnbahhaa
set_option linter.unusedVariables false
set_option linter.unusedSimpArgs false
open Go.RowKit Go.Proofs.YthkioahpnbahhaaW.PrintWords
theorem map_one {ms : List Em} {a : Ev} (h : ms.map Em.e = [a]) : ∃ x, ms = [x] ∧ x.e = a := by
  match ms, h with
  | [x], h => exact ⟨x, rfl, by simpa using h⟩
theorem map_two {ms : List Em} {a b : Ev} (h : ms.map Em.e = [a, b]) : ∃ x y, ms = [x, y] ∧ x.e = a ∧ y.e = b := by
  match ms, h with
  | [x, y], h => exact ⟨x, y, rfl, by simpa using h⟩
theorem DOpen_false {W : World} {db : Nat} {d : Dec} {vs : Value} (h : DecR W db d vs) (h0 : (d.at_ != 0) = false) : Calls Try.prog 30 #[.pointer (some ⟨db, 0, none⟩)] W (fun e w' => e = .returned (.bool false) ∧ w' = W) :=
  h0 ▸ DOpen_any h
theorem esc_all (b : List Int) : (Dec.zero.takes (escL b)).at_ = 0 ∧ (Dec.zero.takes (escL b)).out = joinE [] ⟨1, 0, 0, b⟩ := by
  rw [esc_data Dec.zero rfl b]
  exact ⟨rfl, rfl⟩
theorem joinE_one (b : List Int) (h : b ≠ []) : joinE [] ⟨1, 0, 0, b⟩ = [⟨1, 0, 0, b⟩] := joinE_new [] _ (fun c => h c.2) (by intro o' l h; simp at h)
theorem rec_all (b : List Int) : (Dec.zero.takes (escL b ++ [255, 239])).at_ = 0 ∧ (Dec.zero.takes (escL b ++ [255, 239])).out = joinE [] ⟨1, 0, 0, b⟩ ++ [⟨2, 0, 0, []⟩] := by
  have h := wr1_takes (e := ⟨2, 0, 0, []⟩) (.inr (.inl rfl)) (Dec.zero.takes (escL b)) (esc_all b).1
  have e : wr1 ⟨2, 0, 0, []⟩ = [255, 239] := by unfold wr1; rw [if_neg (show (2 : Int) ≠ 1 by decide), if_pos rfl]
  rw [e, (esc_all b).2, joinE_emit _ _ (show (2 : Int) ≠ 1 by decide)] at h
  rw [Dec.takes_append]
  exact h
theorem tell_all (o : Int) (b : List Int) : (Dec.zero.takes (tellL o b)).at_ = 0 ∧ (Dec.zero.takes (tellL o b)).out = [⟨if 256 < b.length then 6 else 5, 0, o, b.take 256⟩] := by
  rw [tell_takes Dec.zero rfl]
  exact ⟨rfl, rfl⟩
set_option maxRecDepth 100000 in
set_option maxHeartbeats 8000000 in
theorem IacEscapes_cons (A : Option Addr) (c : Nat) (b : List Int) (o : Int) (hn : b.length ≤ 400) (hne : b ≠ []) (kk : Int) (d6 : Bool) (tk : List Int) (hd6 : decide ((256 : Int) < (b.length : Int)) = d6) (hk6 : (kk == 6) = d6) (htk : b.take 256 = tk) (hkk : (if 256 < b.length then (6 : Int) else 5) = kk) (hc : b.length ≤ c) (w : World) (hr : Rd w 1 A b.length (u8s b)) :
    Calls Try.prog 9 #[.slice A b.length c, .int .u8 o] w (Ret (.bool true) w) := by
  have HR := Lib.hid (fun w' (h : Ext w w') => Rd_ext h hr)
  have HX := Lib.hid (Ext_refl w)
  have HE1 : Hid ((Dec.zero.takes (escL b)).at_ = 0 ∧ (Dec.zero.takes (escL b)).out = [⟨1, 0, 0, b⟩]) := Lib.hid ⟨(esc_all b).1, (esc_all b).2.trans (joinE_one b hne)⟩
  have HE2 : Hid ((Dec.zero.takes (escL b ++ [255, 239])).at_ = 0 ∧ (Dec.zero.takes (escL b ++ [255, 239])).out = [⟨1, 0, 0, b⟩, ⟨2, 0, 0, []⟩]) := Lib.hid ⟨(rec_all b).1, (rec_all b).2.trans (by rw [joinE_one b hne]; rfl)⟩
  have HE3 : Hid ((Dec.zero.takes (tellL o b)).at_ = 0 ∧ (Dec.zero.takes (tellL o b)).out = [⟨kk, 0, o, tk⟩]) := Lib.hid ⟨(tell_all o b).1, by rw [← htk, ← hkk]; exact (tell_all o b).2⟩
  have hmin2 : (if (256 : Int) < (b.length : Int) then (256 : Int) else (b.length : Int)) = (tk.length : Int) := by
    rw [← htk, List.length_take]
    by_cases h : (256 : Int) < (b.length : Int)
    · rw [if_pos h]; omega
    · rw [if_neg h]; omega
  have htc : tk.length ≤ c := by rw [← htk, List.length_take]; omega
  have HRk := Lib.hid (fun w' (h : Ext w w') => (show Rd w' 1 A tk.length (u8s tk) from by
    have := (HR.out w' h).take tk.length (by rw [← htk, List.length_take]; omega)
    rwa [show b.take tk.length = tk from by rw [← htk, List.length_take]; exact List.take_eq_take_iff.2 (by omega)] at this))
  have htl : tk.length ≤ 400 := by rw [← htk, List.length_take]; omega
  clear htk hkk
  have hpos : 0 < b.length := by
    rcases Nat.eq_zero_or_pos b.length with h | h
    · exact absurd (List.eq_nil_of_length_eq_zero h) hne
    · exact h
  have hp0 : decide ((0 : Int) < (b.length : Int)) = true := decide_eq_true (by omega)
  have hmin : (if (1 : Int) < (b.length : Int) then (1 : Int) else (b.length : Int)) = 1 := by
    by_cases h : (1 : Int) < (b.length : Int)
    · rw [if_pos h]
    · rw [if_neg h]; omega
  have hd : decide ((400 : Int) < (b.length : Int)) = false := decide_eq_false (by omega)
  clear hr hne
  go_enter Try.func9, Try.ntmps9
  go_wp2_with (go_at_call 24; refine (alive5_any _).mono ?_; rintro e wn ⟨rfl, hb⟩; have HXn := Lib.hid (Ext_trans hb (by repeat' (first | (with_reducible first | exact HX.out | apply Ext_alloc | apply Ext_drewN | apply Ext_drew | (refine Ext_set ?_ ?_) | exact Ext_refl _) | (simp only [World.size_alloc, World.size_setCell, World.size_drew, size_drewN]; omega) | (simp; done) | (simp; omega)))); clear hb HX; have HX := HXn; clear HXn)
  have hX2 : Ext w (((wn.alloc (.cells #[.int .i64 0, .int .u8 0, .int .u8 0, .slice none 0 0, .bool false, .slice none 0 0] 57)).alloc (.cells #[.int .i64 0, .int .u8 0, .int .u8 0, .slice none 0 0, .bool false, .slice none 0 0] 57)).alloc (.cells #[.int .i64 0, .int .u8 0, .int .u8 0, .slice none 0 0, .bool false, .slice none 0 0] 57)) := Ext_alloc (Ext_alloc (Ext_alloc (HX.out)))
  have hD2_0 := (DecR.ext (DecR.ext (DecR.fresh wn) (Ext_alloc (o := (.cells #[.int .i64 0, .int .u8 0, .int .u8 0, .slice none 0 0, .bool false, .slice none 0 0] 57)) (Ext_refl _))) (Ext_alloc (o := (.cells #[.int .i64 0, .int .u8 0, .int .u8 0, .slice none 0 0, .bool false, .slice none 0 0] 57)) (Ext_refl _)))
  have hD2_1 := (DecR.ext (DecR.fresh (wn.alloc (.cells #[.int .i64 0, .int .u8 0, .int .u8 0, .slice none 0 0, .bool false, .slice none 0 0] 57))) (Ext_alloc (o := (.cells #[.int .i64 0, .int .u8 0, .int .u8 0, .slice none 0 0, .bool false, .slice none 0 0] 57)) (Ext_refl _)))
  simp only [World.size_alloc] at hD2_1
  have hD2_2 := (DecR.fresh ((wn.alloc (.cells #[.int .i64 0, .int .u8 0, .int .u8 0, .slice none 0 0, .bool false, .slice none 0 0] 57)).alloc (.cells #[.int .i64 0, .int .u8 0, .int .u8 0, .slice none 0 0, .bool false, .slice none 0 0] 57)))
  simp only [World.size_alloc] at hD2_2
  have hs2 : wn.heap.size + 3 ≤ (((wn.alloc (.cells #[.int .i64 0, .int .u8 0, .int .u8 0, .slice none 0 0, .bool false, .slice none 0 0] 57)).alloc (.cells #[.int .i64 0, .int .u8 0, .int .u8 0, .slice none 0 0, .bool false, .slice none 0 0] 57)).alloc (.cells #[.int .i64 0, .int .u8 0, .int .u8 0, .slice none 0 0, .bool false, .slice none 0 0] 57)).heap.size := by simp
  have hp : w.heap.size ≤ wn.heap.size := HX.out.size
  have HX2 := Lib.hid hX2
  have HD2_0 := Lib.hid hD2_0
  have HD2_1 := Lib.hid hD2_1
  have HD2_2 := Lib.hid hD2_2
  clear hX2 HX hD2_0 hD2_1 hD2_2
  generalize (((wn.alloc (.cells #[.int .i64 0, .int .u8 0, .int .u8 0, .slice none 0 0, .bool false, .slice none 0 0] 57)).alloc (.cells #[.int .i64 0, .int .u8 0, .int .u8 0, .slice none 0 0, .bool false, .slice none 0 0] 57)).alloc (.cells #[.int .i64 0, .int .u8 0, .int .u8 0, .slice none 0 0, .bool false, .slice none 0 0] 57)) = w2 at *
  generalize wn.heap.size = p at *
  refine (Escape_any A c b (by omega) hc w2 (HR.out _ HX2.out)).mono ?_
  rintro e w3 ⟨v3, rfl, ⟨A3, c3, rfl, hc3, hr3, hf3⟩, hx3⟩
  have HX3 := Lib.hid (Ext_trans hx3 HX2.out)
  have HA3 := Lib.hid (HD2_0.out.ext hx3)
  have HB3 := Lib.hid (HD2_1.out.ext hx3)
  have HC3 := Lib.hid (HD2_2.out.ext hx3)
  have HR3 := Lib.hid hr3
  have HF3 := Lib.hid hf3
  have hs3 : p + 3 ≤ w3.heap.size := Nat.le_trans hs2 hx3.size
  clear hr3 hf3 hx3 HX2 HD2_0 HD2_1 HD2_2
  go_wp2_with fail
  refine (Feed_new HA3.out A3 c3 (escL b) (by have := escL_length b; omega) hc3 HR3.out (fun _ => HF3.out.off (by omega))).mono ?_
  rintro e w4 ⟨vo4, ms4, vs4, rfl, hd4, he4, hm4, hv4, hx4⟩
  have HX4 := Lib.hid (Mut_trans hx4 HX3.out hp)
  have HA4 := Lib.hid hd4
  have HB4 := Lib.hid (HB3.out.mut hx4 (by omega) (fun h => by cases h))
  have HC4 := Lib.hid (HC3.out.mut hx4 (by omega) (fun h => by cases h))
  have hs4 : p + 3 ≤ w4.heap.size := Nat.le_trans hs3 hx4.size
  have hr4 := he4.rd
  rw [HE1.out.2] at hm4
  have HAT1 : Hid ((({ Dec.zero.takes (escL b) with out := [] } : Dec).at_ != 0) = false) := Lib.hid (by have := HE1.out.1; simp [this])
  clear hd4 he4 hv4 hx4 HA3 HB3 HC3 HX3 HR3 HF3
  obtain ⟨x4, rfl, hx4⟩ := map_one hm4
  obtain ⟨⟨_, _, _, _⟩, Ax, cx⟩ := x4
  cases hx4
  obtain ⟨A4, c4, rfl, _, hro, hmo⟩ := hr4
  obtain ⟨bo, oo, rfl, hcell⟩ := hro.2 (Nat.succ_pos 0)
  have e0 := hcell 0 _ rfl
  have e3 := hcell 3 _ rfl
  simp only [Nat.add_zero, Em.v] at e0 e3
  have hmx := hmo ⟨⟨1, 0, 0, b⟩, Ax, cx⟩ (by simp)
  have HMX := Lib.hid hmx
  have hcx : b.length ≤ cx := hmx.2
  clear hcell hro hmo hm4 hmx
  go_wp2_with (go_at_call 15; refine (SameB_any (by omega) hcx hc HMX.out.1 (HR.out _ HX4.out)).mono ?_; rintro e w5 ⟨rfl, hx5⟩; have HX5 := Lib.hid (Ext_trans hx5 HX4.out); have HA5 := Lib.hid (HA4.out.ext hx5); have HB5 := Lib.hid (HB4.out.ext hx5); have HC5 := Lib.hid (HC4.out.ext hx5); have hs5 : p + 3 ≤ w5.heap.size := Nat.le_trans hs4 hx5.size; clear hx5 HX4 HA4 HB4 HC4 e0 e3 HMX)
  have hrec := Record_any A c b (by omega) hc w5 (HR.out _ HX5.out)
  have hE2 := HE2.out
  have hrlen : (escL b ++ [255, 239]).length ≤ 802 := by have := escL_length b; simp only [List.length_append, List.length_cons, List.length_nil]; omega
  obtain ⟨rl, hrl⟩ : ∃ rl, escL b ++ [255, 239] = rl := ⟨_, rfl⟩
  rw [hrl] at hrec hE2 hrlen
  have HE2' := Lib.hid hE2
  clear hE2 hrl
  refine hrec.mono ?_
  clear hrec
  rintro e w6 ⟨v6, rfl, ⟨A6, c6, rfl, hc6, hr6, hf6⟩, hx6⟩
  have HX6 := Lib.hid (Ext_trans hx6 HX5.out)
  have HA6 := Lib.hid (HA5.out.ext hx6)
  have HB6 := Lib.hid (HB5.out.ext hx6)
  have HC6 := Lib.hid (HC5.out.ext hx6)
  have HR6 := Lib.hid hr6
  have HF6 := Lib.hid (hf6.mono hs5)
  have hs6 : p + 3 ≤ w6.heap.size := Nat.le_trans hs5 hx6.size
  clear hr6 hf6 hx6 HX5 HA5 HB5 HC5
  go_wp2_with fail
  refine (Feed_new HB6.out A6 c6 rl (by omega) hc6 HR6.out (fun _ => HF6.out.off (by omega))).mono ?_
  rintro e w7 ⟨vo7, ms7, vs7, rfl, hd7, he7, hm7, hv7, hx7⟩
  have HX7 := Lib.hid (Mut_trans hx7 HX6.out (by omega))
  have HA7 := Lib.hid (HA6.out.mut hx7 (by omega) (own_blk_ne HA6.out.sub HB6.out.blk (by decide)))
  have HB7 := Lib.hid hd7
  have HC7 := Lib.hid (HC6.out.mut hx7 (by omega) (fun h => by cases h))
  have hs7 : p + 3 ≤ w7.heap.size := Nat.le_trans hs6 hx7.size
  have hr7 := he7.rd
  rw [HE2'.out.2] at hm7
  have HAT2 : Hid ((({ Dec.zero.takes rl with out := [] } : Dec).at_ != 0) = false) := Lib.hid (by have := HE2'.out.1; simp [this])
  clear hd7 he7 hv7 hx7 HA6 HB6 HC6 HX6 HR6 HF6
  obtain ⟨x7, y7, rfl, hx7', hy7⟩ := map_two hm7
  clear hx7'
  obtain ⟨⟨_, _, _, _⟩, Ay, cy⟩ := y7
  cases hy7
  obtain ⟨A7, c7, rfl, _, hro, hmo⟩ := hr7
  obtain ⟨bp, op, rfl, hcell⟩ := hro.2 (Nat.succ_pos _)
  have y0 := hcell 4 _ rfl
  simp only [Nat.add_zero] at y0
  clear hcell hro hmo hm7
  go_wp2_with fail
  refine (Tell_any o A c b (by omega) hc w7 (HR.out _ HX7.out)).mono ?_
  rintro e w8 ⟨v8, rfl, ⟨A8, c8, rfl, hc8, hr8, hf8⟩, hx8⟩
  have HX8 := Lib.hid (Ext_trans hx8 HX7.out)
  have HA8 := Lib.hid (HA7.out.ext hx8)
  have HB8 := Lib.hid (HB7.out.ext hx8)
  have HC8 := Lib.hid (HC7.out.ext hx8)
  have HR8 := Lib.hid hr8
  have HF8 := Lib.hid (hf8.mono hs7)
  have hs8 : p + 3 ≤ w8.heap.size := Nat.le_trans hs7 hx8.size
  clear hr8 hf8 hx8 HX7 HA7 HB7 HC7 y0
  go_wp2_with fail
  refine (Feed_new HC8.out A8 c8 (tellL o b) (by have := tellL_length o b; omega) hc8 HR8.out (fun _ => HF8.out.off (by omega))).mono ?_
  rintro e w9 ⟨vo9, ms9, vs9, rfl, hd9, he9, hm9, hv9, hx9⟩
  have HX9 := Lib.hid (Mut_trans hx9 HX8.out (by omega))
  have HA9 := Lib.hid (HA8.out.mut hx9 (by omega) (own_blk_ne HA8.out.sub HC8.out.blk (by decide)))
  have HB9 := Lib.hid (HB8.out.mut hx9 (by omega) (own_blk_ne HB8.out.sub HC8.out.blk (by decide)))
  have HC9 := Lib.hid hd9
  have hr9 := he9.rd
  rw [HE3.out.2] at hm9
  have HAT3 : Hid ((({ Dec.zero.takes (tellL o b) with out := [] } : Dec).at_ != 0) = false) := Lib.hid (by have := HE3.out.1; simp [this])
  clear hd9 he9 hv9 hx9 HA8 HB8 HC8 HX8 HR8 HF8
  obtain ⟨z9, rfl, hz9⟩ := map_one hm9
  obtain ⟨⟨_, _, _, _⟩, Az, cz⟩ := z9
  cases hz9
  obtain ⟨A9, c9, rfl, _, hro, hmo⟩ := hr9
  obtain ⟨bq, oq, rfl, hcell⟩ := hro.2 (Nat.succ_pos 0)
  have z0 := hcell 0 _ rfl
  have z2 := hcell 2 _ rfl
  have z3 := hcell 3 _ rfl
  simp only [Nat.add_zero, Em.v] at z0 z2 z3
  have hmz := hmo ⟨⟨kk, 0, o, tk⟩, Az, cz⟩ (by simp)
  have HMZ := Lib.hid hmz.1
  have hcz : tk.length ≤ cz := hmz.2
  clear hcell hro hmo hm9 hmz
  go_upto_region 15 with (fail)
  go_quiet ((first
    | (go_at_call 15; exact Calls.quiet_of ((PIacFeeds.greenscreenref01_Same.calls (tk.length + 1) Az cz tk A c tk true _ (C_of_Rd (Rd_ext (Ext_drewN (Ext_refl _)) HMZ.out) (by omega)) hcz (C_of_Rd (HRk.out _ (Ext_drewN HX9.out)) (by omega)) htc (same1 tk (by omega) (by omega))).mono (fun _ _ ⟨h1, h2⟩ => ⟨h1, h2.out⟩)))
    | (go_at_call 30; exact Calls.quiet_of_same (DOpen_false (HA9.out.ext (Ext_drewN (Ext_refl _))) HAT1.out))
    | (go_at_call 30; exact Calls.quiet_of_same (DOpen_false (HB9.out.ext (Ext_drewN (Ext_refl _))) HAT2.out))
    | (go_at_call 30; exact Calls.quiet_of_same (DOpen_false (HC9.out.ext (Ext_drewN (Ext_refl _))) HAT3.out))))
  go_wp2_with fail
  go_ret
  exact ⟨rfl, Ext_drewN HX9.out⟩
set_option maxRecDepth 100000 in
set_option maxHeartbeats 8000000 in
theorem IacEscapes_nil (A : Option Addr) (c : Nat) (b : List Int) (o : Int) (hne : b = []) (hc : b.length ≤ c) (w : World) (hr : Rd w 1 A b.length (u8s b)) :
    Calls Try.prog 9 #[.slice A b.length c, .int .u8 o] w (Ret (.bool true) w) := by
  have HR := Lib.hid (fun w' (h : Ext w w') => Rd_ext h hr)
  have HX := Lib.hid (Ext_refl w)
  have HE1 : Hid ((Dec.zero.takes (escL b)).at_ = 0 ∧ (Dec.zero.takes (escL b)).out = []) := Lib.hid ⟨(esc_all b).1, (esc_all b).2.trans (joinE_nil rfl hne)⟩
  have HE2 : Hid ((Dec.zero.takes (escL b ++ [255, 239])).at_ = 0 ∧ (Dec.zero.takes (escL b ++ [255, 239])).out = [⟨2, 0, 0, []⟩]) := Lib.hid ⟨(rec_all b).1, (rec_all b).2.trans (by rw [joinE_nil rfl hne]; rfl)⟩
  have HE3 : Hid ((Dec.zero.takes (tellL o b)).at_ = 0 ∧ (Dec.zero.takes (tellL o b)).out = [⟨5, 0, o, []⟩]) := Lib.hid ⟨(tell_all o b).1, (tell_all o b).2.trans (by rw [hne]; rfl)⟩
  have HRk := Lib.hid (fun w' (h : Ext w w') => (show Rd w' 1 A 0 (u8s []) from ⟨rfl, fun h => absurd h (by omega)⟩))
  have hbl : (b.length : Int) = 0 := by rw [hne]; rfl
  have hn : b.length ≤ 400 := by omega
  have htc : 0 ≤ c := Nat.zero_le _
  clear hr hne
  go_enter Try.func9, Try.ntmps9
  go_wp2_with (go_at_call 24; refine (alive5_any _).mono ?_; rintro e wn ⟨rfl, hb⟩; have HXn := Lib.hid (Ext_trans hb (by repeat' (first | (with_reducible first | exact HX.out | apply Ext_alloc | apply Ext_drewN | apply Ext_drew | (refine Ext_set ?_ ?_) | exact Ext_refl _) | (simp only [World.size_alloc, World.size_setCell, World.size_drew, size_drewN]; omega) | (simp; done) | (simp; omega)))); clear hb HX; have HX := HXn; clear HXn)
  have hX2 : Ext w (((wn.alloc (.cells #[.int .i64 0, .int .u8 0, .int .u8 0, .slice none 0 0, .bool false, .slice none 0 0] 57)).alloc (.cells #[.int .i64 0, .int .u8 0, .int .u8 0, .slice none 0 0, .bool false, .slice none 0 0] 57)).alloc (.cells #[.int .i64 0, .int .u8 0, .int .u8 0, .slice none 0 0, .bool false, .slice none 0 0] 57)) := Ext_alloc (Ext_alloc (Ext_alloc (HX.out)))
  have hD2_0 := (DecR.ext (DecR.ext (DecR.fresh wn) (Ext_alloc (o := (.cells #[.int .i64 0, .int .u8 0, .int .u8 0, .slice none 0 0, .bool false, .slice none 0 0] 57)) (Ext_refl _))) (Ext_alloc (o := (.cells #[.int .i64 0, .int .u8 0, .int .u8 0, .slice none 0 0, .bool false, .slice none 0 0] 57)) (Ext_refl _)))
  have hD2_1 := (DecR.ext (DecR.fresh (wn.alloc (.cells #[.int .i64 0, .int .u8 0, .int .u8 0, .slice none 0 0, .bool false, .slice none 0 0] 57))) (Ext_alloc (o := (.cells #[.int .i64 0, .int .u8 0, .int .u8 0, .slice none 0 0, .bool false, .slice none 0 0] 57)) (Ext_refl _)))
  simp only [World.size_alloc] at hD2_1
  have hD2_2 := (DecR.fresh ((wn.alloc (.cells #[.int .i64 0, .int .u8 0, .int .u8 0, .slice none 0 0, .bool false, .slice none 0 0] 57)).alloc (.cells #[.int .i64 0, .int .u8 0, .int .u8 0, .slice none 0 0, .bool false, .slice none 0 0] 57)))
  simp only [World.size_alloc] at hD2_2
  have hs2 : wn.heap.size + 3 ≤ (((wn.alloc (.cells #[.int .i64 0, .int .u8 0, .int .u8 0, .slice none 0 0, .bool false, .slice none 0 0] 57)).alloc (.cells #[.int .i64 0, .int .u8 0, .int .u8 0, .slice none 0 0, .bool false, .slice none 0 0] 57)).alloc (.cells #[.int .i64 0, .int .u8 0, .int .u8 0, .slice none 0 0, .bool false, .slice none 0 0] 57)).heap.size := by simp
  have hp : w.heap.size ≤ wn.heap.size := HX.out.size
  have HX2 := Lib.hid hX2
  have HD2_0 := Lib.hid hD2_0
  have HD2_1 := Lib.hid hD2_1
  have HD2_2 := Lib.hid hD2_2
  clear hX2 HX hD2_0 hD2_1 hD2_2
  generalize (((wn.alloc (.cells #[.int .i64 0, .int .u8 0, .int .u8 0, .slice none 0 0, .bool false, .slice none 0 0] 57)).alloc (.cells #[.int .i64 0, .int .u8 0, .int .u8 0, .slice none 0 0, .bool false, .slice none 0 0] 57)).alloc (.cells #[.int .i64 0, .int .u8 0, .int .u8 0, .slice none 0 0, .bool false, .slice none 0 0] 57)) = w2 at *
  generalize wn.heap.size = p at *
  refine (Escape_any A c b (by omega) hc w2 (HR.out _ HX2.out)).mono ?_
  rintro e w3 ⟨v3, rfl, ⟨A3, c3, rfl, hc3, hr3, hf3⟩, hx3⟩
  have HX3 := Lib.hid (Ext_trans hx3 HX2.out)
  have HA3 := Lib.hid (HD2_0.out.ext hx3)
  have HB3 := Lib.hid (HD2_1.out.ext hx3)
  have HC3 := Lib.hid (HD2_2.out.ext hx3)
  have HR3 := Lib.hid hr3
  have HF3 := Lib.hid hf3
  have hs3 : p + 3 ≤ w3.heap.size := Nat.le_trans hs2 hx3.size
  clear hr3 hf3 hx3 HX2 HD2_0 HD2_1 HD2_2
  go_wp2_with fail
  refine (Feed_new HA3.out A3 c3 (escL b) (by have := escL_length b; omega) hc3 HR3.out (fun _ => HF3.out.off (by omega))).mono ?_
  rintro e w4 ⟨vo4, ms4, vs4, rfl, hd4, he4, hm4, hv4, hx4⟩
  have HX4 := Lib.hid (Mut_trans hx4 HX3.out hp)
  have HA4 := Lib.hid hd4
  have HB4 := Lib.hid (HB3.out.mut hx4 (by omega) (fun h => by cases h))
  have HC4 := Lib.hid (HC3.out.mut hx4 (by omega) (fun h => by cases h))
  have hs4 : p + 3 ≤ w4.heap.size := Nat.le_trans hs3 hx4.size
  have hr4 := he4.rd
  rw [HE1.out.2] at hm4
  have HAT1 : Hid ((({ Dec.zero.takes (escL b) with out := [] } : Dec).at_ != 0) = false) := Lib.hid (by have := HE1.out.1; simp [this])
  clear hd4 he4 hv4 hx4 HA3 HB3 HC3 HX3 HR3 HF3
  have hms4 : ms4 = [] := List.map_eq_nil_iff.1 hm4
  subst hms4
  obtain ⟨A4, c4, rfl, _, _, _⟩ := hr4
  clear hm4
  go_wp2_with fail
  have HX5 := Lib.hid HX4.out
  have HA5 := Lib.hid HA4.out
  have HB5 := Lib.hid HB4.out
  have HC5 := Lib.hid HC4.out
  have hs5 := hs4
  clear HX4 HA4 HB4 HC4 hs4
  obtain ⟨w5, hw5⟩ : ∃ w5, w5 = w4 := ⟨_, rfl⟩
  subst hw5
  have hrec := Record_any A c b (by omega) hc w5 (HR.out _ HX5.out)
  have hE2 := HE2.out
  have hrlen : (escL b ++ [255, 239]).length ≤ 802 := by have := escL_length b; simp only [List.length_append, List.length_cons, List.length_nil]; omega
  obtain ⟨rl, hrl⟩ : ∃ rl, escL b ++ [255, 239] = rl := ⟨_, rfl⟩
  rw [hrl] at hrec hE2 hrlen
  have HE2' := Lib.hid hE2
  clear hE2 hrl
  refine hrec.mono ?_
  clear hrec
  rintro e w6 ⟨v6, rfl, ⟨A6, c6, rfl, hc6, hr6, hf6⟩, hx6⟩
  have HX6 := Lib.hid (Ext_trans hx6 HX5.out)
  have HA6 := Lib.hid (HA5.out.ext hx6)
  have HB6 := Lib.hid (HB5.out.ext hx6)
  have HC6 := Lib.hid (HC5.out.ext hx6)
  have HR6 := Lib.hid hr6
  have HF6 := Lib.hid (hf6.mono hs5)
  have hs6 : p + 3 ≤ w6.heap.size := Nat.le_trans hs5 hx6.size
  clear hr6 hf6 hx6 HX5 HA5 HB5 HC5
  go_wp2_with fail
  refine (Feed_new HB6.out A6 c6 rl (by omega) hc6 HR6.out (fun _ => HF6.out.off (by omega))).mono ?_
  rintro e w7 ⟨vo7, ms7, vs7, rfl, hd7, he7, hm7, hv7, hx7⟩
  have HX7 := Lib.hid (Mut_trans hx7 HX6.out (by omega))
  have HA7 := Lib.hid (HA6.out.mut hx7 (by omega) (own_blk_ne HA6.out.sub HB6.out.blk (by decide)))
  have HB7 := Lib.hid hd7
  have HC7 := Lib.hid (HC6.out.mut hx7 (by omega) (fun h => by cases h))
  have hs7 : p + 3 ≤ w7.heap.size := Nat.le_trans hs6 hx7.size
  have hr7 := he7.rd
  rw [HE2'.out.2] at hm7
  have HAT2 : Hid ((({ Dec.zero.takes rl with out := [] } : Dec).at_ != 0) = false) := Lib.hid (by have := HE2'.out.1; simp [this])
  clear hd7 he7 hv7 hx7 HA6 HB6 HC6 HX6 HR6 HF6
  obtain ⟨y7, rfl, hy7⟩ := map_one hm7
  obtain ⟨⟨_, _, _, _⟩, Ay, cy⟩ := y7
  cases hy7
  obtain ⟨A7, c7, rfl, _, hro, hmo⟩ := hr7
  obtain ⟨bp, op, rfl, hcell⟩ := hro.2 (Nat.succ_pos _)
  have y0 := hcell 0 _ rfl
  simp only [Nat.add_zero] at y0
  clear hcell hro hmo hm7
  go_wp2_with fail
  refine (Tell_any o A c b (by omega) hc w7 (HR.out _ HX7.out)).mono ?_
  rintro e w8 ⟨v8, rfl, ⟨A8, c8, rfl, hc8, hr8, hf8⟩, hx8⟩
  have HX8 := Lib.hid (Ext_trans hx8 HX7.out)
  have HA8 := Lib.hid (HA7.out.ext hx8)
  have HB8 := Lib.hid (HB7.out.ext hx8)
  have HC8 := Lib.hid (HC7.out.ext hx8)
  have HR8 := Lib.hid hr8
  have HF8 := Lib.hid (hf8.mono hs7)
  have hs8 : p + 3 ≤ w8.heap.size := Nat.le_trans hs7 hx8.size
  clear hr8 hf8 hx8 HX7 HA7 HB7 HC7 y0
  go_wp2_with fail
  refine (Feed_new HC8.out A8 c8 (tellL o b) (by have := tellL_length o b; omega) hc8 HR8.out (fun _ => HF8.out.off (by omega))).mono ?_
  rintro e w9 ⟨vo9, ms9, vs9, rfl, hd9, he9, hm9, hv9, hx9⟩
  have HX9 := Lib.hid (Mut_trans hx9 HX8.out (by omega))
  have HA9 := Lib.hid (HA8.out.mut hx9 (by omega) (own_blk_ne HA8.out.sub HC8.out.blk (by decide)))
  have HB9 := Lib.hid (HB8.out.mut hx9 (by omega) (own_blk_ne HB8.out.sub HC8.out.blk (by decide)))
  have HC9 := Lib.hid hd9
  have hr9 := he9.rd
  rw [HE3.out.2] at hm9
  have HAT3 : Hid ((({ Dec.zero.takes (tellL o b) with out := [] } : Dec).at_ != 0) = false) := Lib.hid (by have := HE3.out.1; simp [this])
  clear hd9 he9 hv9 hx9 HA8 HB8 HC8 HX8 HR8 HF8
  obtain ⟨z9, rfl, hz9⟩ := map_one hm9
  obtain ⟨⟨_, _, _, _⟩, Az, cz⟩ := z9
  cases hz9
  obtain ⟨A9, c9, rfl, _, hro, hmo⟩ := hr9
  obtain ⟨bq, oq, rfl, hcell⟩ := hro.2 (Nat.succ_pos 0)
  have z0 := hcell 0 _ rfl
  have z2 := hcell 2 _ rfl
  have z3 := hcell 3 _ rfl
  simp only [Nat.add_zero, Em.v] at z0 z2 z3
  have hmz := hmo ⟨⟨5, 0, o, []⟩, Az, cz⟩ (by simp)
  have HMZ := Lib.hid hmz.1
  have hcz : 0 ≤ cz := hmz.2
  clear hcell hro hmo hm9 hmz
  go_upto_region 15 with (fail)
  go_quiet ((first
    | (go_at_call 15; exact Calls.quiet_of ((PIacFeeds.greenscreenref01_Same.calls (0 + 1) Az cz [] A c [] true _ (C_of_Rd (Rd_ext (Ext_drewN (Ext_refl _)) HMZ.out) (by simp)) hcz (C_of_Rd (HRk.out _ (Ext_drewN HX9.out)) (by simp)) htc (same1 [] (by simp) (by simp))).mono (fun _ _ ⟨h1, h2⟩ => ⟨h1, h2.out⟩)))
    | (go_at_call 30; exact Calls.quiet_of_same (DOpen_false (HA9.out.ext (Ext_drewN (Ext_refl _))) HAT1.out))
    | (go_at_call 30; exact Calls.quiet_of_same (DOpen_false (HB9.out.ext (Ext_drewN (Ext_refl _))) HAT2.out))
    | (go_at_call 30; exact Calls.quiet_of_same (DOpen_false (HC9.out.ext (Ext_drewN (Ext_refl _))) HAT3.out))))
  go_wp2_with fail
  go_ret
  exact ⟨rfl, Ext_drewN HX9.out⟩
set_option maxRecDepth 100000 in
set_option maxHeartbeats 4000000 in
theorem IacEscapes_long (A : Option Addr) (c : Nat) (b : List Int) (o : Int) (hn : 400 < b.length) (w : World) :
    Calls Try.prog 9 #[.slice A b.length c, .int .u8 o] w (Ret (.bool true) w) := by
  have HX := Lib.hid (Ext_refl w)
  have hd : decide ((400 : Int) < (b.length : Int)) = true := decide_eq_true (by omega)
  go_enter Try.func9, Try.ntmps9
  go_wp2_with (go_at_call 24; refine (alive5_any _).mono ?_; rintro e wn ⟨rfl, hb⟩; have HXn := Lib.hid (Ext_trans hb (by repeat' (first | (with_reducible first | exact HX.out | apply Ext_alloc | apply Ext_drewN | apply Ext_drew | (refine Ext_set ?_ ?_) | exact Ext_refl _) | (simp only [World.size_alloc, World.size_setCell, World.size_drew, size_drewN]; omega) | (simp; done) | (simp; omega)))); clear hb HX; have HX := HXn; clear HXn)
  go_ret
  exact ⟨rfl, HX.out⟩
theorem IacEscapes_any (A : Option Addr) (c : Nat) (b : List Int) (o : Int) (hc : b.length ≤ c) (w : World) (hr : Rd w 1 A b.length (u8s b)) :
    Calls Try.prog 9 #[.slice A b.length c, .int .u8 o] w (Ret (.bool true) w) := by
  by_cases h1 : 400 < b.length
  · exact IacEscapes_long A c b o h1 w
  · by_cases h2 : b = []
    · by_cases h3 : 256 < b.length
      · rw [h2] at h3; simp at h3
      · exact IacEscapes_nil A c b o h2 hc w hr
    · by_cases h3 : 256 < b.length
      · exact IacEscapes_cons A c b o (by omega) h2 6 true _ (decide_eq_true (by omega)) (by decide) rfl (if_pos h3) hc w hr
      · exact IacEscapes_cons A c b o (by omega) h2 5 false _ (decide_eq_false (by omega)) (by decide) rfl (if_neg h3) hc w hr
theorem IacEscapes_walk {H : Type} (w : World) (A : Option Addr) (n c : Nat) (t : Handed Try.prog H w 24 (.slice A n c)) (a : Int) (wa : (Lit.int .u8 a).wf = true) :
    Calls Try.prog 9 #[.slice A n c, .int .u8 a] w (Ret (.bool true) w) := by
  obtain ⟨l, rfl, hc, hn, hr, hb⟩ := byte_row t
  exact IacEscapes_any A c l a hc w hr
end Go.Proofs.Ythkioahpnbahhaa
