/- F7 F9 F10 F11 RT: the texts of these, one behind the other. -/
import Derived.Test.YthkioahpnbahhaaFB
import Derived.Deep.QuietTactic
import Derived.BigQuiet
namespace Go.Proofs.Ythkioahpnbahhaa
set_option linter.unusedVariables false
set_option linter.unusedSimpArgs false
open Go.RowKit Go.Proofs.YthkioahpnbahhaaW.PrintWords
theorem make_bytes (m : Nat) (hm : m ≤ 100000) (W : World) : (Instr.makeSlice 24 (.int .i64 (m : Int)) (.int .i64 (m : Int))).run Try.prog W = .ok (.slice (some ⟨W.heap.size, 0, none⟩) m m) (W.alloc (.cells (u8s (List.replicate m 0)).toArray 5)) := by
  obtain ⟨i0, hi, hz0, hz1, hz2⟩ := info_parts info5'
  have h := run_makeSlice W 24 5 i0 _ Try.underlying24 hi hz0 .i64 .i64 (m : Int) (m : Int) (by omega) (Int.le_refl _) (by rw [hz1]; simp; omega) (by rw [hz2]; omega) (by omega)
  rw [h, hz1]
  simp only [Int.toNat_natCast]
  have e : madeCells (Value.cells (.int .u8 0)) (m * 1) = (u8s (List.replicate m 0)).toArray := by
    refine Array.ext_getElem? (fun i => ?_)
    unfold madeCells
    rw [Array.getElem?_map, Array.getElem?_range, List.getElem?_toArray, u8s_get, List.getElem?_replicate]
    by_cases h : i < m
    · rw [if_pos h, if_pos (by omega)]
      simp [Value.cells, Nat.mod_one]
    · rw [if_neg h, if_neg (by omega)]
      rfl
  rw [e]
/-- a row that was handed out stays while the maker goes on -/
theorem row_data {W W1 : World} {mb : Nat} {m : Mk} {v u : Value} {l : List Int} (h : W.ownsRow 0 5 1 u l.length (u8s l)) (hm : MkAt W mb m v) (hn : ∀ g, u.ownBlock = some g → v.ownBlock ≠ some g) (ht : Turn (Own W v) mb W W1) : W1.ownsRow 0 5 1 u l.length (u8s l) :=
  own_move h (fun k hk => ht.block k (World.ownsRow.lt h k hk).2 (fun e => own_blk_ne h hm.blk (by decide) (by rw [hk, e])) (by
    rintro (h4 | h4)
    · have := (World.ownsRow.lt h k hk).2; omega
    · exact hn k hk h4))
theorem row_mut {W W1 : World} {mb b s n : Nat} {e : TypeId} {m : Mk} {v u : Value} {xs : List Value} (h : W.ownsRow b e s u n xs) (hm : MkAt W mb m v) (ht : Mut mb W W1) (he : 26 ≠ e) : W1.ownsRow b e s u n xs :=
  own_move h (fun k hk => ht.block k (World.ownsRow.lt h k hk).2 (fun e => own_blk_ne h hm.blk he (by rw [hk]; exact e)))
/-- what a take of literal bytes comes to -/
theorem Take_lit {w W : World} {mb : Nat} {m m' : Mk} {v : Value} {l : List Int} {n : Nat} (h : MkAt W mb m v) (hx : Ext w W) (hmb : w.heap.size ≤ mb) (hv : ∀ g, v.ownBlock = some g → w.heap.size ≤ g) (hm : m.add l = m') (hn : l.length = n) (hl : n ≤ 100000) :
    Calls Try.prog 13 #[.pointer (some ⟨mb, 0, none⟩), .agg #[.int .i64 1, .int .u8 0, .int .u8 0, .slice (some ⟨W.heap.size, 0, none⟩) n n]] (W.alloc (.cells (u8s l).toArray 5)) (fun e w' => e = .returned Nothing ∧ ∃ v', MkAt w' mb m' v' ∧ (∀ g, v'.ownBlock = some g → w.heap.size ≤ g) ∧ Ext w w' ∧ (∀ (u : Value) (k : List Int), W.ownsRow 0 5 1 u k.length (u8s k) → (∀ g, u.ownBlock = some g → v.ownBlock ≠ some g) → w'.ownsRow 0 5 1 u k.length (u8s k) ∧ ∀ g, u.ownBlock = some g → v'.ownBlock ≠ some g)) := by
  subst hn
  subst hm
  have hs : W.heap.size ≤ (W.alloc (.cells (u8s l).toArray 5)).heap.size := by simp
  refine (Take_data (h.ext (Ext_alloc (Ext_refl W))) 0 0 (some ⟨W.heap.size, 0, none⟩) l.length l hl (Nat.le_refl _) (lit_rd W l)).mono ?_
  rintro e w' ⟨he, v', h1, h2, h3⟩
  refine ⟨he, v', h1, fun g hg => ?_, h3.ext (Ext_alloc hx) hmb (Own.ge (Nat.le_trans hx.size hs) hv), fun u k hu hn => ⟨row_data (own_ext5 hu (Ext_alloc (Ext_refl W))) (h.ext (Ext_alloc (Ext_refl W))) hn h3, fun g hg e => ?_⟩⟩
  · exact Own.ge (Nat.le_trans hx.size hs) hv g (h2 g hg)
  · rcases h2 g e with h4 | h4
    · have := (World.ownsRow.lt hu g hg).2
      omega
    · exact hn g hg h4
theorem sb_two {ss : List Sb} {a b : List Int} (h : ss.map Sb.l = [a, b]) : ∃ x y, ss = [x, y] ∧ x.l = a ∧ y.l = b := by
  match ss, h with
  | [x, y], h => exact ⟨x, y, rfl, by simpa using h⟩
theorem split1 : splitOut [7, 255, 239, 255, 239] = [[7], []] ∧ splitN [7, 255, 239, 255, 239] = 0 ∧ splitE [7, 255, 239, 255, 239] = 0 := ⟨by kernel_rfl, by kernel_rfl, by kernel_rfl⟩
theorem split2 : splitN [7] = 0 ∧ splitE [7] = 20 := ⟨by kernel_rfl, by kernel_rfl⟩
theorem all1 : (Rs.zero.takes [⟨2, 0, 0, []⟩]).n = 0 ∧ (Rs.zero.takes [⟨2, 0, 0, []⟩]).out = [[]] := ⟨by kernel_rfl, by kernel_rfl⟩
theorem big1 {l : List Int} (h : l.length = 8193) : (Mk.zero.add l).long = true ∧ (Mk.zero.add l).b.length = 8192 := by
  unfold Mk.add Mk.n Mk.zero
  simp [h]
set_option maxRecDepth 100000 in
set_option maxHeartbeats 8000000 in
theorem alive10_any (w : World) : Calls Try.prog 11 #[] w (Ret (.bool true) w) := by
  obtain ⟨L0, hL0⟩ : ∃ L0, List.replicate 8193 (0 : Int) = L0 := ⟨_, rfl⟩
  have hmk : ∀ W : World, (Instr.makeSlice 24 (.int .i64 8193) (.int .i64 8193)).run Try.prog W = .ok (.slice (some ⟨W.heap.size, 0, none⟩) 8193 8193) (W.alloc (.cells (u8s L0).toArray 5)) := fun W => by
    rw [← hL0]
    exact make_bytes 8193 (by omega) W
  have hlen0 : L0.length = 8193 := by rw [← hL0, List.length_replicate]
  have HB1 := Lib.hid (big1 hlen0)
  have HL0 := Lib.hid hlen0
  clear hL0 hlen0
  go_enter Try.func11, Try.ntmps11
  go_wp2_with fail
  have HM0 := Lib.hid (MkAt.new w)
  have HX0 := Lib.hid (Ext_alloc (o := .cells #[.slice none 0 0, .bool false] 26) (Ext_refl w))
  generalize hw0 : w.alloc (.cells #[.slice none 0 0, .bool false] 26) = w0 at *
  have hz0 : w0.heap.size = w.heap.size + 1 := by rw [← hw0]; simp
  clear hw0
  rw [show w.heap.size + 1 = w0.heap.size from hz0.symm]
  refine (Take_lit (m' := ⟨[1], false⟩) (l := [1]) HM0.out HX0.out (Nat.le_refl _) (fun g h => by cases h) (by kernel_rfl) rfl (by decide)).mono ?_
  rintro e w1 ⟨he, v1, hv1, ho1, hx1, -⟩
  unfold Nothing at he
  subst he
  have HM1 := Lib.hid hv1
  have HO1 := Lib.hid ho1
  have HX1 := Lib.hid hx1
  clear hv1 ho1 hx1 HM0 HX0 hz0
  go_wp2_with fail
  refine (Take_lit (m' := ⟨[1, 2], false⟩) (l := [2]) HM1.out HX1.out (Nat.le_refl _) HO1.out (by kernel_rfl) rfl (by decide)).mono ?_
  rintro e w2 ⟨he, v2, hv2, ho2, hx2, -⟩
  unfold Nothing at he
  subst he
  have HM2 := Lib.hid hv2
  have HO2 := Lib.hid ho2
  have HX2 := Lib.hid hx2
  clear hv2 ho2 hx2 HM1 HO1 HX1
  go_wp2_with fail
  refine (Len_any HM2.out).mono ?_
  rintro e wq ⟨rfl, rfl⟩
  obtain ⟨A2, c2, hvv⟩ := Go.Proofs.YthkioahpnbahhaaW.PrintWords.own_slice HM2.out.row
  subst hvv
  go_wp2_with fail
  refine (Take_end HM2.out 0 0 none 0 0).mono ?_
  rintro e w3 ⟨he, hz3, hv3, hm3⟩
  simp only [Bool.false_eq_true, if_false] at he
  subst he
  have HM3 := Lib.hid hz3
  have HV3 := Lib.hid hv3
  have HX3 := Lib.hid (Mut_trans hm3 HX2.out (Nat.le_refl _))
  clear hz3 hv3 hm3 HM2 HO2 HX2
  go_wp2_with fail
  refine (Take_lit (m' := Mk.zero.add L0) (l := L0) HM3.out HX3.out (Nat.le_refl _) (fun g h => by cases h) rfl HL0.out (by omega)).mono ?_
  obtain ⟨m4, hm4⟩ : ∃ m4, Mk.zero.add L0 = m4 := ⟨_, rfl⟩
  have hb1 := HB1.out
  rw [hm4] at hb1 ⊢
  clear hm4
  rintro e w4 ⟨he, v4, hv4, ho4, hx4, hk4⟩
  unfold Nothing at he
  subst he
  have HM4 := Lib.hid hv4
  have HO4 := Lib.hid ho4
  have HX4 := Lib.hid hx4
  have HV4 := Lib.hid (hk4 _ _ HV3.out (fun g _ h => by cases h)).1
  have hlg := hb1.1
  have hle := hb1.2
  clear hv4 ho4 hx4 hk4 HM3 HV3 HX3 hb1 hmk
  go_wp2_with fail
  refine (Long_any HM4.out).mono ?_
  rintro e wq ⟨rfl, rfl⟩
  rw [hlg]
  go_wp2_with fail
  refine (Len_any HM4.out).mono ?_
  rintro e w4 ⟨rfl, rfl⟩
  rw [hle]
  go_wp2_with fail
  refine (Take_end HM4.out 0 0 none 0 0).mono ?_
  rintro e w5 ⟨he, hz5, hv5, hm5⟩
  rw [hlg] at he
  simp only [if_true] at he
  subst he
  have HM5 := Lib.hid hz5
  have HV5 := Lib.hid (row_mut HV4.out HM4.out hm5 (by decide))
  have HX5 := Lib.hid (Mut_trans hm5 HX4.out (Nat.le_refl _))
  clear hz5 hv5 hm5 HM4 HO4 HX4 HV4 hlg hle
  go_wp2_with fail
  refine (Take_lit (m' := ⟨[5], false⟩) (l := [5]) HM5.out HX5.out (Nat.le_refl _) (fun g h => by cases h) (by kernel_rfl) rfl (by decide)).mono ?_
  rintro e w6 ⟨he, v6, hv6, ho6, hx6, hk6⟩
  unfold Nothing at he
  subst he
  have HM6 := Lib.hid hv6
  have HX6 := Lib.hid hx6
  have HV6 := Lib.hid (hk6 _ _ HV5.out (fun g _ h => by cases h)).1
  clear hv6 ho6 hx6 hk6 HM5 HV5 HX5
  go_wp2_with fail
  refine (Split_any (some ⟨w6.heap.size, 0, none⟩) 5 [7, 255, 239, 255, 239] (by decide) (by decide) (w6.alloc (.cells (u8s [7, 255, 239, 255, 239]).toArray 5)) (lit_rd w6 [7, 255, 239, 255, 239])).mono ?_
  rintro e w7 ⟨v7, ss, rfl, hr7, hs7, hl7, hx7⟩
  rw [split1.2.1, split1.2.2]
  rw [split1.1] at hl7
  have hx7' := Ext_trans hx7 (Ext_alloc (o := .cells (u8s [7, 255, 239, 255, 239]).toArray 5) (Ext_refl w6))
  have HX7 := Lib.hid (Ext_trans hx7' HX6.out)
  have HM7 := Lib.hid (HM6.out.ext hx7')
  have HV7 := Lib.hid (own_ext5 HV6.out hx7')
  have HR7 := Lib.hid hr7
  have HS7 := Lib.hid hs7
  have HL7 := Lib.hid hl7
  clear hr7 hs7 hl7 hx7 hx7' HX6 HM6 HV6
  go_wp2_with fail
  refine (Split_any (some ⟨w7.heap.size, 0, none⟩) 1 [7] (by decide) (by decide) (w7.alloc (.cells (u8s [7]).toArray 5)) (lit_rd w7 [7])).mono ?_
  rintro e w8 ⟨v8, s8, rfl, -, -, -, hx8⟩
  rw [split2.1, split2.2]
  have hx8' := Ext_trans hx8 (Ext_alloc (o := .cells (u8s [7]).toArray 5) (Ext_refl w7))
  have HX8 := Lib.hid (Ext_trans hx8' HX7.out)
  have HM8 := Lib.hid (HM7.out.ext hx8')
  have HV8 := Lib.hid (own_ext5 HV7.out hx8')
  have HR8 := Lib.hid (own_ext5 HR7.out hx8')
  have HS8 := Lib.hid (fun s hs => own_ext5 (HS7.out s hs) hx8')
  clear hx8 hx8' HX7 HM7 HV7 HR7 HS7
  go_wp2_with fail
  have hev : EvR (w8.alloc (.cells #[.int .i64 2, .int .u8 0, .int .u8 0, .slice none 0 0] 28)) (.slice (some ⟨w8.heap.size, 0, none⟩) 1 1) [⟨⟨2, 0, 0, []⟩, none, 0⟩] :=
    ⟨_, _, rfl, by simp, Rd.blk (l := [.int .i64 2, .int .u8 0, .int .u8 0, .slice none 0 0]) (Blk.new w8 28 _) rfl, by
      intro m hm
      rw [List.mem_singleton.1 hm]
      exact ⟨Rd.nil _ _ _, Nat.le_refl _⟩⟩
  refine (RAll_any hev (by simp) (by intro m hm; rw [List.mem_singleton.1 hm]; simp)).mono ?_
  rintro e w9 ⟨v9, s9, rfl, hr9, -, hl9, hx9⟩
  rw [show ([(⟨⟨2, 0, 0, []⟩, none, 0⟩ : Em)].map Em.e) = [⟨2, 0, 0, []⟩] from rfl] at hl9 ⊢
  rw [all1.2] at hl9
  rw [all1.1]
  have hsl : s9.length = 1 := by
    have := congrArg List.length hl9
    simpa using this
  obtain ⟨A9, c9, hv9⟩ := Go.Proofs.YthkioahpnbahhaaW.PrintWords.own_slice hr9
  subst hv9
  rw [hsl]
  have hx9' := Ext_trans hx9 (Ext_alloc (o := .cells #[.int .i64 2, .int .u8 0, .int .u8 0, .slice none 0 0] 28) (Ext_refl w8))
  have HX9 := Lib.hid (Ext_trans hx9' HX8.out)
  have HM9 := Lib.hid (HM8.out.ext hx9')
  have HV9 := Lib.hid (own_ext5 HV8.out hx9')
  have HR9 := Lib.hid (own_ext5 HR8.out hx9')
  have HS9 := Lib.hid (fun s hs => own_ext5 (HS8.out s hs) hx9')
  clear hev hr9 hl9 hsl hx9 hx9' HX8 HM8 HV8 HR8 HS8
  obtain ⟨s1, s2, rfl, hs1, hs2⟩ := sb_two HL7.out
  obtain ⟨As1, cs1, ls1⟩ := s1
  obtain ⟨As2, cs2, ls2⟩ := s2
  cases hs1
  cases hs2
  have hform := World.ownsRow.form HR9.out (by simp)
  obtain ⟨go, cap, hvo, _, hgl⟩ := hform
  subst hvo
  have hs9 : (convert 24 9 (.slice A2 2 c2)).run Try.prog w9 = .ok (.string ⟨#[1, 2]⟩) w9 := conv_str (l := [1, 2]) Try.underlying24 Try.underlying5 Try.underlying9 (Rd.own HV9.out) c2
  go_wp2_with fail
  refine (Drop_any HM9.out).mono ?_
  rintro e w10 ⟨rfl, hz10, hm10⟩
  have HM10 := Lib.hid hz10
  have HX10 := Lib.hid (Mut_trans hm10 HX9.out (Nat.le_refl _))
  have hr10 := row_mut HR9.out HM9.out hm10 (by decide)
  have hrow1 := row_mut (HS9.out ⟨As1, cs1, [7]⟩ (by simp)) HM9.out hm10 (by decide)
  have r0 : w10.cell? ⟨go, 0, none⟩ = some (.slice As1 1 cs1) := (add_plain go _) ▸ World.ownsRow.cells hr10 rfl 0 (.slice As1 1 cs1) rfl
  have r1 : w10.cell? ⟨go, 1, none⟩ = some (.slice As2 0 cs2) := (add_plain go _) ▸ World.ownsRow.cells hr10 rfl 1 (.slice As2 0 cs2) rfl
  have hs10 : (convert 24 9 (.slice As1 1 cs1)).run Try.prog w10 = .ok (.string ⟨#[7]⟩) w10 := conv_str (l := [7]) Try.underlying24 Try.underlying5 Try.underlying9 (Rd.own hrow1) cs1
  clear hz10 hm10 hr10 hrow1 hs9 HM9 HX9 HV9 HR9 HS9
  go_wp2_with fail
  refine (Len_any HM10.out).mono ?_
  rintro e wq ⟨rfl, rfl⟩
  go_wp2_with fail
  go_ret
  exact ⟨rfl, HX10.out⟩
def recL (rs : List (List Int)) : List Int := rs.flatMap fun r => escL r ++ [255, 239]
/-- a record's events -/
def evR (r : List Int) : List Ev := (if r = [] then [] else [⟨1, 0, 0, r⟩]) ++ [⟨2, 0, 0, []⟩]
theorem recL_snoc (rs : List (List Int)) (r : List Int) : recL (rs ++ [r]) = recL rs ++ (escL r ++ [255, 239]) := by simp [recL]
/-- behind a record's end, or at the beginning -/
def Ended (es : List Ev) : Prop := ∀ o l, es = o ++ [l] → l.kind ≠ 1
theorem rec_takes (d : Dec) (h0 : d.at_ = 0) (he : Ended d.out) (r : List Int) : (d.takes (escL r ++ [255, 239])).at_ = 0 ∧ (d.takes (escL r ++ [255, 239])).out = d.out ++ evR r := by
  have h := wr1_takes (e := ⟨2, 0, 0, []⟩) (.inr (.inl rfl)) (d.takes (escL r)) (by rw [esc_data d h0 r]; exact h0)
  have e : wr1 ⟨2, 0, 0, []⟩ = [255, 239] := by unfold wr1; rw [if_neg (show (2 : Int) ≠ 1 by decide), if_pos rfl]
  rw [e, joinE_emit _ _ (show (2 : Int) ≠ 1 by decide), esc_data d h0 r] at h
  rw [Dec.takes_append, esc_data d h0 r]
  refine ⟨h.1, h.2.trans ?_⟩
  unfold evR
  by_cases hr : r = []
  · rw [if_pos hr, joinE_nil rfl hr]; rfl
  · rw [if_neg hr, joinE_new _ _ (fun c => hr c.2) (fun o l ho c => he o l ho c.2)]
    simp
theorem evR_ended (X : List Ev) (r : List Int) : Ended (X ++ evR r) := by
  intro o l h
  unfold evR at h
  rw [← List.append_assoc] at h
  have := (List.append_inj' h rfl).2
  simp at this
  rw [← this]
  decide
theorem recs_all (rs : List (List Int)) : ∃ es, (Dec.zero.takes (recL rs)).at_ = 0 ∧ (Dec.zero.takes (recL rs)).out = rs.flatMap evR ∧ Ended (rs.flatMap evR) ∧ es = rs := by
  suffices h : ∀ (n : Nat) (rs : List (List Int)), rs.length = n → (Dec.zero.takes (recL rs)).at_ = 0 ∧ (Dec.zero.takes (recL rs)).out = rs.flatMap evR ∧ Ended (rs.flatMap evR) by
    obtain ⟨a, b, c⟩ := h rs.length rs rfl
    exact ⟨rs, a, b, c, rfl⟩
  intro n
  induction n with
  | zero =>
    intro rs h
    obtain rfl : rs = [] := List.eq_nil_of_length_eq_zero h
    exact ⟨rfl, rfl, by intro o l h; simp at h⟩
  | succ n ih =>
    intro rs h
    rcases List.eq_nil_or_concat rs with rfl | ⟨rs, r, rfl⟩
    · simp at h
    · rw [List.concat_eq_append] at h ⊢
      obtain ⟨a, b, c⟩ := ih rs (by simpa using h)
      have := rec_takes (Dec.zero.takes (recL rs)) a (by rw [b]; exact c) r
      rw [recL_snoc, Dec.takes_append]
      refine ⟨this.1, ?_, ?_⟩
      · rw [this.2, b]; simp
      · rw [List.flatMap_append]
        have e : [r].flatMap evR = evR r := by simp
        rw [e]
        exact evR_ended _ _
/-- a record's events come to the record -/
theorem Rs.one_rec {r : Rs} (hm : r.m = Mk.zero) (l : List Int) (hl : l.length ≤ 8192) : r.takes (evR l) = { m := Mk.zero, out := r.out ++ [l], n := r.n } := by
  have hadd : Mk.zero.add l = ⟨l, false⟩ := by
    unfold Mk.add Mk.n Mk.zero
    simp only [List.nil_append, List.length_nil, Nat.sub_zero, Bool.false_or]
    rw [List.take_of_length_le (by omega), decide_eq_false (by omega)]
  unfold evR
  by_cases hr : l = []
  · rw [if_pos hr, hr]
    show r.take ⟨2, 0, 0, []⟩ = _
    rw [Rs.two rfl (by rw [hm]; rfl), hm]
    rfl
  · rw [if_neg hr]
    show (r.take ⟨1, 0, 0, l⟩).take ⟨2, 0, 0, []⟩ = _
    rw [Rs.one (e := ⟨1, 0, 0, l⟩) rfl, Rs.two rfl (by rw [hm]; show (Mk.zero.add l).long = false; rw [hadd])]
    rw [hm]
    show (⟨Mk.zero, r.out ++ [(Mk.zero.add l).b], r.n⟩ : Rs) = _
    rw [hadd]
theorem Rs.recs : ∀ (rs : List (List Int)) (r : Rs), r.m = Mk.zero → (∀ l ∈ rs, l.length ≤ 8192) → r.takes (rs.flatMap evR) = { m := Mk.zero, out := r.out ++ rs, n := r.n }
  | [], r, hm, _ => by rw [List.append_nil]; show r = _; rw [← hm]
  | l :: rs, r, hm, h => by
    have e : (l :: rs).flatMap evR = evR l ++ rs.flatMap evR := by simp
    have h1 := Rs.one_rec hm l (h l List.mem_cons_self)
    have h2 : r.takes (evR l ++ rs.flatMap evR) = (r.takes (evR l)).takes (rs.flatMap evR) := List.foldl_append
    rw [e, h2, h1, Rs.recs rs _ rfl (fun x hx => h x (List.mem_cons_of_mem _ hx))]
    simp
theorem lastB_evR (rs : List (List Int)) : lastB (rs.flatMap evR) = false := by
  rcases List.eq_nil_or_concat rs with rfl | ⟨rs, r, rfl⟩
  · rfl
  · rw [List.concat_eq_append, List.flatMap_append]
    have e : [r].flatMap evR = evR r := by simp
    rw [e]
    unfold evR lastB
    rw [← List.append_assoc, List.getLast?_append]
    rfl
/-- what is written is split as it was -/
theorem split_recs (rs : List (List Int)) (h : ∀ l ∈ rs, l.length ≤ 8192) : splitOut (recL rs) = rs ∧ splitN (recL rs) = 0 ∧ splitE (recL rs) = 0 := by
  obtain ⟨_, a, b, _, _⟩ := recs_all rs
  have hb : splitBad (recL rs) = false := by
    unfold splitBad
    rw [a, b, lastB_evR]
    rfl
  have hn : ¬ (splitBad (recL rs) = true) := by rw [hb]; decide
  unfold splitOut splitN splitE
  rw [if_neg hn, if_neg hn, if_neg hn, b, Rs.recs rs Rs.zero rfl h]
  exact ⟨by simp [Rs.zero], rfl, rfl⟩
theorem Mk.add_add (m : Mk) (hm : m.b.length ≤ 8192) (a b : List Int) : (m.add a).add b = m.add (a ++ b) := by
  unfold Mk.add Mk.n
  simp only [List.length_append, List.length_take]
  by_cases h : a.length ≤ 8192 - m.b.length
  · have e1 : min a.length (8192 - m.b.length) = a.length := by omega
    rw [e1, Nat.min_self, List.take_length]
    have e2 : min (a.length + b.length) (8192 - m.b.length) = a.length + min b.length (8192 - (m.b.length + a.length)) := by omega
    rw [e2, List.take_length_add_append, List.append_assoc]
    congr 1
    have d1 : decide (a.length < a.length) = false := decide_eq_false (by omega)
    rw [d1, Bool.or_false]
    congr 1
    exact decide_eq_decide.2 (by omega)
  · have e1 : min a.length (8192 - m.b.length) = 8192 - m.b.length := by omega
    have e3 : min (8192 - m.b.length) a.length = 8192 - m.b.length := by omega
    rw [e1, e3]
    have e2 : min (a.length + b.length) (8192 - m.b.length) = 8192 - m.b.length := by omega
    have e4 : min b.length (8192 - (m.b.length + (8192 - m.b.length))) = 0 := by omega
    rw [e2, e4, List.take_zero, List.append_nil, List.take_append_of_le_length (by omega)]
    congr 1
    have d1 : decide (8192 - m.b.length < a.length) = true := decide_eq_true (by omega)
    have d2 : decide (8192 - m.b.length < a.length + b.length) = true := decide_eq_true (by omega)
    rw [d1, d2]
    simp
theorem Mk.add_len (m : Mk) (hm : m.b.length ≤ 8192) (l : List Int) : (m.add l).b.length ≤ 8192 := by
  unfold Mk.add Mk.n
  simp only [List.length_append, List.length_take]
  omega
theorem Mk.add_nil (m : Mk) : m.add [] = m := by
  unfold Mk.add Mk.n
  simp
theorem Rs.take_len (r : Rs) (h : r.m.b.length ≤ 8192) (e : Ev) : (r.take e).m.b.length ≤ 8192 := by
  unfold Rs.take
  by_cases h1 : e.kind = 1
  · rw [if_pos h1]; exact Mk.add_len r.m h e.bytes
  · rw [if_neg h1]
    by_cases h2 : e.kind = 2
    · rw [if_pos h2]
      cases r.m.long <;> simp [Mk.zero]
    · rw [if_neg h2]; exact h
theorem Rs.takes_len : ∀ (es : List Ev) (r : Rs), r.m.b.length ≤ 8192 → (r.takes es).m.b.length ≤ 8192
  | [], _, h => h
  | e :: es, r, h => Rs.takes_len es (r.take e) (Rs.take_len r h e)
/-- joined or not: the records are the same -/
theorem Rs.joinE (r : Rs) (hr : r.m.b.length ≤ 8192) (X : List Ev) (e : Ev) : r.takes (joinE X e) = (r.takes X).take e := by
  by_cases hn : e.kind = 1 ∧ e.bytes = []
  · rw [joinE_nil hn.1 hn.2, Rs.one hn.1, hn.2, Mk.add_nil]
  · rcases joinE_cases X e (fun h1 h2 => hn ⟨h1, h2⟩) with ⟨h1, _⟩ | ⟨o, l, h1, h2, h3, h4⟩
    · rw [h1, Rs.takes_snoc]
    · rw [h4, h1, Rs.takes_snoc, Rs.takes_snoc, Rs.one (e := { l with bytes := l.bytes ++ e.bytes }) h3, Rs.one (e := l) h3, Rs.one h2]
      simp only
      rw [Mk.add_add _ (Rs.takes_len o r hr)]
theorem Rs.joinF (r : Rs) (hr : r.m.b.length ≤ 8192) : ∀ (es X : List Ev), r.takes (es.foldl Go.Proofs.Ythkioahpnbahhaa.joinE X) = (r.takes X).takes es
  | [], _ => rfl
  | e :: es, X => by
    rw [List.foldl_cons, Rs.joinF r hr es, Rs.joinE r hr]
    rfl
theorem Rs.joined (r : Rs) (hr : r.m.b.length ≤ 8192) (es : List Ev) : r.takes (joinL es) = r.takes es := Rs.joinF r hr es []
/-- rows of bytes that can be read -/
def RowsR (W : World) (v : Value) (ss : List Sb) : Prop := ∃ A c, v = .slice A ss.length c ∧ ss.length ≤ c ∧ Rd W 1 A ss.length (ss.map Sb.v) ∧ ∀ s ∈ ss, s.ok W
theorem RowsR.ext {W W1 : World} {v : Value} {ss : List Sb} (h : RowsR W v ss) (hx : Ext W W1) : RowsR W1 v ss := by
  obtain ⟨A, c, h1, h2, h3, h4⟩ := h
  exact ⟨A, c, h1, h2, Rd_ext hx h3, fun s hs => ⟨(h4 s hs).1, Rd_ext hx (h4 s hs).2.1, (h4 s hs).2.2⟩⟩
theorem RowsR.of_own {W : World} {b : Nat} {v : Value} {ss : List Sb} (h : W.ownsRow b 24 1 v ss.length (ss.map Sb.v)) (hr : ∀ s ∈ ss, W.ownsRow 0 5 1 s.v s.l.length (u8s s.l)) (hl : ∀ s ∈ ss, s.l.length ≤ 1000000000) : RowsR W v ss := by
  obtain ⟨A, c, rfl⟩ := Go.Proofs.YthkioahpnbahhaaW.PrintWords.own_slice h
  exact ⟨A, c, rfl, own_len_cap h, Rd.own h, fun s hs => ⟨own_len_cap (hr s hs), Rd.own (hr s hs), hl s hs⟩⟩
set_option maxRecDepth 100000 in
set_option maxHeartbeats 8000000 in
theorem SameAll_any {W : World} {v1 v2 : Value} {ss1 ss2 : List Sb} (h1 : RowsR W v1 ss1) (h2 : RowsR W v2 ss2) (he : ss1.map Sb.l = ss2.map Sb.l) (hl : ss1.length ≤ 1000000) (hb : ∀ s ∈ ss1, s.l.length ≤ 1000000) :
    Calls Try.prog 20 #[v1, v2] W (fun e w' => e = .returned (.bool true) ∧ Ext W w') := by
  obtain ⟨A1, c1, rfl, k1, r1, m1⟩ := h1
  obtain ⟨A2, c2, rfl, k2, r2, m2⟩ := h2
  have hn : ss2.length = ss1.length := by have := congrArg List.length he; simpa using this.symm
  rw [hn] at r2 ⊢
  have HR1 := Lib.hid r1
  have HR2 := Lib.hid r2
  have HM1 := Lib.hid m1
  have HM2 := Lib.hid m2
  have HE := Lib.hid he
  have HB := Lib.hid hb
  have HN := Lib.hid hn
  clear r1 r2 m1 m2 he hb hn k1 k2
  go_enter Try.func20, Try.ntmps20
  go_wp2_with fail
  go_loopw [5] (fun v wr => ∃ k : Nat, k ≤ ss1.length ∧ v = .int .i64 k ∧ Hid (Ext W wr)) (fun v _ => ss1.length - (intOf v).toNat)
  case atStart => exact ⟨0, Nat.zero_le _, rfl, Ext_refl W⟩
  case round =>
    obtain ⟨k, hk, rfl, HX⟩ := hrel
    by_cases hlt : k < ss1.length
    · obtain ⟨a, ha⟩ : ∃ a, ss1[k]? = some a := ⟨_, List.getElem?_eq_getElem hlt⟩
      obtain ⟨d, hd⟩ : ∃ d, ss2[k]? = some d := ⟨_, List.getElem?_eq_getElem (by rw [HN.out]; exact hlt)⟩
      have hed : a.l = d.l := by
        have := congrArg (fun l => l[k]?) HE.out
        simp only [List.getElem?_map, ha, hd, Option.map_some, Option.some.injEq] at this
        exact this
      obtain ⟨bb1, o1, hA1, hc1⟩ := (Rd_ext HX.out HR1.out).2 (by omega)
      obtain ⟨bb2, o2, hA2, hc2⟩ := (Rd_ext HX.out HR2.out).2 (by omega)
      have hma := HM1.out a (List.mem_of_getElem? ha)
      have hmd := HM2.out d (List.mem_of_getElem? hd)
      have hba := HB.out a (List.mem_of_getElem? ha)
      have x0 := hc1 k a.v (by rw [List.getElem?_map, ha]; rfl)
      have y0 := hc2 k d.v (by rw [List.getElem?_map, hd]; rfl)
      obtain ⟨Aa, ca, l⟩ := a
      obtain ⟨Ad, cd, l'⟩ := d
      obtain rfl : l = l' := hed
      simp only [Sb.v] at x0 y0
      subst hA1
      subst hA2
      have HA := Lib.hid hma
      have HD := Lib.hid hmd
      have hbe : l.length ≤ 1000000 := hba
      have hli : (k : Int) < (ss1.length : Int) := by omega
      have hwk : IntKind.i64.wrap ((k : Int) + 1) = ((k + 1 : Nat) : Int) := IntWalk.i64_in _ (by omega)
      clear hc1 hc2 ha hd hma hmd hba
      go_upto_region 6 with (fail)
      go_quiet ((go_at_call 15; exact Calls.quiet_of ((PIacFeeds.greenscreenref01_Same.calls (l.length + 1) Aa ca l Ad cd l true _ (C_of_Rd (Rd_ext (Ext_drewN HX.out) HA.out.2.1) (by show l.length ≤ _; omega)) HA.out.1 (C_of_Rd (Rd_ext (Ext_drewN HX.out) HD.out.2.1) (by show l.length ≤ _; omega)) HD.out.1 (same1 l hbe (by omega))).mono (fun _ _ ⟨h1, h2⟩ => ⟨h1, h2.out⟩))))
      go_wp2_with fail
      refine ⟨⟨k + 1, by omega, by go_num, Ext_drewN HX.out⟩, by simp [intOf]; omega⟩
    · have : k = ss1.length := by omega
      subst this
      go_wp2_with fail
      go_ret
      exact ⟨rfl, HX.out⟩
theorem field_bytes10 {H : Type} {enc : TypeId × Value → H} {W : World} {base : Nat} {sp : Nat → Bool} {held : Bool} {v : Value} {q : Nat} {z : DataW H × List MemPlace} (h : DataW.trod enc Try.prog W base sp held q 24 [v] = some z) :
    ∃ A n c, ∃ l : List Int, v = .slice A n c ∧ l.length = n ∧ n ≤ c ∧ n ≤ maxLen ∧ Rd W 1 A n (u8s l) ∧ ∀ x ∈ l, 0 ≤ x ∧ x < 256 := by
  have hv : ∃ A n c, v = .slice A n c := by
    rcases Go.Deep.open_slice Try.underlying24 h with ⟨hcs, _⟩ | ⟨a, len, cap, m, n, D, Pl, hcs, _⟩
    · exact ⟨none, 0, 0, by simpa using hcs⟩
    · exact ⟨some a, len, cap, by simpa using hcs⟩
  obtain ⟨A, n, c, rfl⟩ := hv
  obtain ⟨d, ps⟩ := z
  obtain ⟨l, h1, h2, h3, h4, h5⟩ := arg_bytes (A := A) (n := n) (c := c) (d := d) (ps := ps) Try.underlying24 Try.underlying5 (by kernel_rfl) ⟨q, h⟩
  exact ⟨A, n, c, l, rfl, h1, h2, h3, h4, h5⟩
theorem sb_rows {H : Type} {w : World} {A : Option Addr} {n c : Nat} (h : Handed Try.prog H w 34 (.slice A n c)) :
    ∃ ss : List Sb, ss.length = n ∧ n ≤ c ∧ n ≤ maxLen ∧ Rd w 1 A n (ss.map Sb.v) ∧ ∀ s ∈ ss, s.l.length ≤ s.c ∧ Rd w 1 s.A s.l.length (u8s s.l) ∧ s.l.length ≤ maxLen := by
  obtain ⟨enc, d, ps, h⟩ := h
  obtain ⟨ss, h1, h2, h3, h4, h5⟩ := arg_structs (fun s : Sb => [s.v]) (fun s => s.l.length ≤ s.c ∧ Rd w 1 s.A s.l.length (u8s s.l) ∧ s.l.length ≤ maxLen) Try.underlying34 (e := 24) (k := 1) (by kernel_rfl) (by omega) h (fun r m y hl hy => by
    obtain ⟨v, rfl⟩ : ∃ v, r = [v] := by
      match r, hl with
      | [v], _ => exact ⟨v, rfl⟩
    obtain ⟨A3, n3, c3, l, rfl, rfl, hb1, hb2, hb3, hb4⟩ := field_bytes10 hy
    exact ⟨⟨A3, c3, l⟩, rfl, hb1, hb3, hb2⟩)
  refine ⟨ss, h1, h2, h3, ?_, h5⟩
  have e : ss.flatMap (fun s : Sb => [s.v]) = ss.map Sb.v := by rw [List.map_eq_flatMap]
  rwa [e] at h4
def i64s (l : List Int) : List Value := l.map (Value.int .i64)
theorem i64s_get (l : List Int) (i : Nat) : (i64s l)[i]? = (l[i]?).map (Value.int .i64) := List.getElem?_map ..
theorem int_row {H : Type} {w : World} {A : Option Addr} {n c : Nat} (h : Handed Try.prog H w 66 (.slice A n c)) :
    ∃ l : List Int, l.length = n ∧ n ≤ maxLen ∧ Rd w 1 A n (i64s l) := by
  obtain ⟨enc, d, ps, h⟩ := h
  obtain ⟨l, h1, _, h2, h3, _⟩ := arg_structs (fun z : Int => [Value.int .i64 z]) (fun _ => True) Try.underlying66 (e := 3) (k := 1) (by kernel_rfl) (by omega) h (fun r m y hl hy => by
    obtain ⟨z, rfl, _⟩ := DataW.trod_int Try.underlying3 hy
    exact ⟨z, by simp, trivial⟩)
  refine ⟨l, h1, h2, ?_⟩
  have e : l.flatMap (fun z : Int => [Value.int .i64 z]) = i64s l := by unfold i64s; rw [List.map_eq_flatMap]
  rwa [e] at h3
/-- what is left of the bytes -/
structure Rest (w : World) (v : Value) (l : List Int) : Prop where
  out : ∃ A c, v = .slice A l.length c ∧ l.length ≤ c ∧ (∀ w', Ext w w' → Rd w' 1 A l.length (u8s l)) ∧ (0 < l.length → ∀ ad, A = some ad → ad.block < w.heap.size)
theorem Rest.step {w : World} {L : List Int} {Aq : Option Addr} {cq r : Nat} (hc : L.length ≤ cq) (hr : ∀ w', Ext w w' → Rd w' 1 Aq L.length (u8s L)) (hl : 0 < L.length → ∀ ad, Aq = some ad → ad.block < w.heap.size) (hk : r ≤ L.length) :
    Rest w (.slice (if cq = r then Aq else Option.map (fun x => x.add r) Aq) (L.length - r) (cq - r)) (L.drop r) := by
  refine ⟨_, cq - r, by rw [List.length_drop], by rw [List.length_drop]; omega, fun w' hx => ?_, fun h0 ad e => ?_⟩
  · rw [List.length_drop]
    rcases Nat.eq_zero_or_pos (L.length - r) with h0 | h0
    · exact ⟨by simp [u8s], fun h => absurd h (by omega)⟩
    · rw [if_neg (by omega)]
      obtain ⟨b, o, hA, _⟩ := (hr w' hx).2 (by omega)
      subst hA
      exact Rd.drop (hr w' hx) r hk
  · rw [List.length_drop] at h0
    rw [if_neg (by omega)] at e
    cases Aq with
    | none => cases e
    | some a =>
      cases e
      have := hl (by omega) a rfl
      obtain ⟨b, o, hA, _⟩ := (hr w (Ext_refl w)).2 (by omega)
      cases hA
      show ((⟨b, o, none⟩ : Addr).add r).block < w.heap.size
      rw [add_at]
      exact this
end Go.Proofs.Ythkioahpnbahhaa
