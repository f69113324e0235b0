/- F14 F15 F16: the texts of these, one behind the other. -/
import Derived.Test.YthkioahpnbahhaaFC
namespace Go.Proofs.Ythkioahpnbahhaa
set_option linter.unusedVariables false
set_option linter.unusedSimpArgs false
open Go.RowKit Go.Proofs.YthkioahpnbahhaaW.PrintWords
theorem Mk.min_of (bl : List Int) : (if (8192 : Int) < (bl.length : Int) then (8192 : Int) else (bl.length : Int)) = ((Mk.zero.add bl).b.length : Int) := by
  have hm1 : (Mk.zero.add bl).b.length = min bl.length 8192 := by
    unfold Mk.add Mk.n Mk.zero
    simp
  rw [hm1]
  by_cases h : (8192 : Int) < (bl.length : Int)
  · rw [if_pos h]; omega
  · rw [if_neg h]; omega
theorem Mk.long_of (bl : List Int) : decide ((8192 : Int) < (bl.length : Int)) = (Mk.zero.add bl).long := by
  unfold Mk.add Mk.n Mk.zero
  simp only [List.length_nil, Nat.sub_zero, Bool.false_or]
  exact decide_eq_decide.2 (by omega)
theorem Mk.b_of {bl : List Int} (h : (Mk.zero.add bl).long = false) : (Mk.zero.add bl).b = bl := by
  rw [← Mk.long_of, decide_eq_false_iff_not] at h
  unfold Mk.add Mk.n Mk.zero
  simp only [List.nil_append, List.length_nil, Nat.sub_zero]
  exact List.take_of_length_le (by omega)
structure Sr where
  long : Bool
  s : Sb
def Sr.enc (r : Sr) : List Value := [r.s.v, .bool r.long]
def Sr.p (r : Sr) : Bool × List Int := (r.long, r.s.l)
/-- the document's records -/
structure Dr where
  out : List (Bool × List Int)
  b : List Int
def Dr.zero : Dr := ⟨[], []⟩
def Dr.take (d : Dr) (e : Ev) : Dr := if e.kind = 1 then ⟨d.out, d.b ++ e.bytes⟩ else if e.kind = 2 then ⟨d.out ++ [if 8192 < d.b.length then (true, []) else (false, d.b)], []⟩ else d
def Dr.takes (d : Dr) (es : List Ev) : Dr := es.foldl Dr.take d
theorem Dr.takes_snoc (d : Dr) (es : List Ev) (e : Ev) : d.takes (es ++ [e]) = (d.takes es).take e := List.foldl_append
theorem Dr.one {d : Dr} {e : Ev} (h : e.kind = 1) : d.take e = ⟨d.out, d.b ++ e.bytes⟩ := by unfold Dr.take; rw [if_pos h]
theorem Dr.two {d : Dr} {e : Ev} (h : e.kind = 2) : d.take e = ⟨d.out ++ [if 8192 < d.b.length then (true, []) else (false, d.b)], []⟩ := by unfold Dr.take; rw [if_neg (by omega), if_pos h]
theorem Dr.none {d : Dr} {e : Ev} (h : e.kind ≠ 1) (h2 : e.kind ≠ 2) : d.take e = d := by unfold Dr.take; rw [if_neg h, if_neg h2]
/-- .. in memory -/
structure DrAt (w W : World) (d : Dr) (vo vb : Value) (ss : List Sr) : Prop where
  out : W.ownsRow w.heap.size 52 2 vo ss.length (ss.flatMap Sr.enc)
  row : ∀ s ∈ ss, W.ownsRow 0 5 1 s.s.v s.s.l.length (u8s s.s.l)
  b : W.ownsRow 0 5 1 vb d.b.length (u8s d.b)
  ls : ss.map Sr.p = d.out
  ex : Ext w W
theorem DrAt.ext {w W W1 : World} {d : Dr} {vo vb : Value} {ss : List Sr} (h : DrAt w W d vo vb ss) (hx : Ext W W1) : DrAt w W1 d vo vb ss :=
  ⟨own_ext5 h.out hx, fun s hs => own_ext5 (h.row s hs) hx, own_ext5 h.b hx, h.ls, Ext_trans hx h.ex⟩
theorem DrAt.with {w W : World} {d : Dr} {vo vb vb' : Value} {b' : List Int} {ss : List Sr} (h : DrAt w W d vo vb ss) (hb : W.ownsRow 0 5 1 vb' b'.length (u8s b')) : DrAt w W ⟨d.out, b'⟩ vo vb' ss :=
  ⟨h.out, h.row, hb, h.ls, h.ex⟩
/-- a record more -/
theorem DrAt.add {w W W1 : World} {d : Dr} {vo vo' vb : Value} {ss : List Sr} (h : DrAt w W d vo vb ss) (r : Sr) (hs : W.ownsRow 0 5 1 r.s.v r.s.l.length (u8s r.s.l)) (hq : W1.ownsRow w.heap.size 52 2 vo' (ss.length + 1) (ss.flatMap Sr.enc ++ r.enc)) (hg : W.grownBy W1 vo.ownBlock) :
    DrAt w W1 ⟨d.out ++ [r.p], d.b⟩ vo' vb (ss ++ [r]) := by
  have mv : ∀ {v : Value} {n : Nat} {xs : List Value}, W.ownsRow 0 5 1 v n xs → W1.ownsRow 0 5 1 v n xs := fun ha =>
    own_move ha (fun k hk => hg.block k (World.ownsRow.lt ha k hk).2 (fun e => own_same ha h.out (by decide) k hk e.symm))
  refine ⟨?_, fun a ha => ?_, mv h.b, ?_, h.ex.grown hg h.ex.size (fun g hg => (own_base h.out g hg).1)⟩
  · rw [List.length_append, List.flatMap_append]
    have e : [r].flatMap Sr.enc = r.enc := by simp
    rw [e]
    exact hq
  · rcases List.mem_append.1 ha with ha | ha
    · exact mv (h.row a ha)
    · rw [List.mem_singleton.1 ha]; exact mv hs
  · rw [List.map_append, h.ls]; rfl
theorem infoR : (Try.prog.info? 52).map (fun i => (i.zero, i.size, i.bytes)) = some (some (.agg #[.slice none 0 0, .bool false]), 2, 32) := by kernel_rfl
theorem Join_own (A : Option Addr) (c : Nat) (ss : List Sb) (hl : ss.length ≤ 1000000) (hc : ss.length ≤ c) (hT : (ss.map Sb.l).flatten.length ≤ 1000000000) (w : World) (h : Rd w 1 A ss.length (ss.map Sb.v)) (hs : ∀ s ∈ ss, s.ok w) :
    Calls Try.prog 14 #[.slice A ss.length c] w (fun e w' => ∃ v, e = .returned v ∧ w'.ownsRow w.heap.size 5 1 v (ss.map Sb.l).flatten.length (u8s (ss.map Sb.l).flatten) ∧ Ext w w') := by
  obtain ⟨k, hk⟩ := join_f (ss.map Sb.l) (by rw [List.length_map]; exact hl) hT
  have := PIacFeeds.greenscreenref01_Join.calls k A c (ss.map Sb.l) _ w (C_of_rows h hs (by omega)) (by rw [List.length_map]; exact hc) hk
  rw [List.length_map] at this
  exact this.mono fun _ _ ⟨v, he, h1, h2⟩ => ⟨v, he, own_of_R h1, h2⟩
/-- two rows of bytes, of a literal -/
theorem Join_two (W : World) (Ab Am : Option Addr) (cb cm : Nat) (bl l : List Int) (h1 : bl.length ≤ cb) (h2 : l.length ≤ cm) (r1 : Rd W 1 Ab bl.length (u8s bl)) (r2 : Rd W 1 Am l.length (u8s l)) (n1 : bl.length ≤ 900000000) (n2 : l.length ≤ 100000) :
    Calls Try.prog 14 #[.slice (some ⟨W.heap.size, 0, Option.none⟩) 2 2] (W.alloc (.cells #[.slice Ab bl.length cb, .slice Am l.length cm] 24)) (fun e w' => ∃ v, e = .returned v ∧ w'.ownsRow (W.heap.size + 1) 5 1 v (bl.length + l.length) (u8s (bl ++ l)) ∧ Ext W w') := by
  have hx : Ext W (W.alloc (.cells #[.slice Ab bl.length cb, .slice Am l.length cm] 24)) := Ext_alloc (Ext_refl W)
  have e : (([⟨Ab, cb, bl⟩, ⟨Am, cm, l⟩] : List Sb).map Sb.l).flatten = bl ++ l := by simp
  have := Join_own (some ⟨W.heap.size, 0, Option.none⟩) 2 [⟨Ab, cb, bl⟩, ⟨Am, cm, l⟩] (by simp) (by simp) (by rw [e, List.length_append]; omega) _ (Rd.blk (l := [.slice Ab bl.length cb, .slice Am l.length cm]) (Blk.new W 24 #[.slice Ab bl.length cb, .slice Am l.length cm]) rfl) (fun s hs => by
    simp only [List.mem_cons, List.not_mem_nil, or_false] at hs
    rcases hs with rfl | rfl
    · exact ⟨h1, Rd_ext hx r1, by show bl.length ≤ _; omega⟩
    · exact ⟨h2, Rd_ext hx r2, by show l.length ≤ _; omega⟩)
  rw [e, List.length_append, World.size_alloc] at this
  exact this.mono fun _ _ ⟨v, he, k1, k2⟩ => ⟨v, he, k1, Ext_trans k2 hx⟩
def RefAllP (W : World) (es : List Ev) (e : Ending) (w' : World) : Prop :=
  ∃ (v vb : Value) (ss : List Sr), e = .returned (.tuple #[v, vb]) ∧ DrAt W w' (Dr.zero.takes es) v vb ss ∧ ss.length ≤ es.length
set_option maxRecDepth 100000 in
set_option maxHeartbeats 8000000 in
theorem RefAll_any {W : World} {vo : Value} {ms : List Em} (h : EvR W vo ms) (hn : ms.length ≤ 60000) (hb : ∀ m ∈ ms, m.e.bytes.length ≤ 9000) : Calls Try.prog 22 #[vo] W (RefAllP W (ms.map Em.e)) := by
  obtain ⟨A, c, rfl, hc, hr, hm⟩ := h
  obtain ⟨i0, hi, hz0, hz1, hz2⟩ := info_parts infoR
  have HR := Lib.hid hr
  have HM := Lib.hid hm
  have HB := Lib.hid hb
  clear hr hm hc hb
  go_enter Try.func22, Try.ntmps22
  go_wp2_with fail
  go_loopw [4, 5, 6] (fun v4 v5 v wr => ∃ (k : Nat) (d : Dr) (ss : List Sr), k ≤ ms.length ∧ v = .int .i64 k ∧ Hid (DrAt W wr d v4 v5 ss) ∧ Hid (d = Dr.zero.takes ((ms.take k).map Em.e)) ∧ d.b.length ≤ k * 9000 ∧ ss.length ≤ k) (fun _ _ v _ => ms.length - (intOf v).toNat)
  case atStart => exact ⟨0, Dr.zero, [], Nat.zero_le _, rfl, ⟨own_ext5 (World.ownsRow_lit W #[] 0 (Nat.le_refl _) (by decide) rfl) (Ext_alloc (Ext_refl _)), fun s hs => (by cases hs), by have h := World.ownsRow_lit (base := 0) (e := 5) (size := 1) (W.alloc (.cells #[] 52)) #[] 0 (Nat.zero_le _) (by decide) rfl; rw [World.size_alloc] at h; exact h, rfl, Ext_alloc (Ext_alloc (Ext_refl _))⟩, Lib.hid rfl, by simp [Dr.zero], Nat.le_refl _⟩
  case round =>
    obtain ⟨k, d, ss, hk, rfl, HD, HE, hbl, hsl⟩ := hrel
    obtain ⟨A4, c4, rfl⟩ := Go.Proofs.YthkioahpnbahhaaW.PrintWords.own_slice HD.out.out
    obtain ⟨Ab, cb, rfl⟩ := Go.Proofs.YthkioahpnbahhaaW.PrintWords.own_slice HD.out.b
    have hcb : d.b.length ≤ cb := own_len_cap HD.out.b
    by_cases hlt : k < ms.length
    · obtain ⟨m, hx⟩ : ∃ m, ms[k]? = some m := ⟨_, List.getElem?_eq_getElem hlt⟩
      obtain ⟨bb, o, hA, hcell⟩ := (Rd_ext HD.out.ex HR.out).elem Em.enc (fun _ => rfl) hlt hx
      have hmem : m ∈ ms := List.mem_of_getElem? hx
      have hmr := HM.out m hmem
      have hmb := HB.out m hmem
      have HTK := Lib.hid (show Dr.zero.takes ((ms.take (k + 1)).map Em.e) = d.take m.e by rw [List.take_add_one, hx, Option.toList_some, List.map_append, List.map_singleton, Dr.takes_snoc, ← HE.out])
      have hwk : IntKind.i64.wrap ((k : Int) + 1) = ((k + 1 : Nat) : Int) := IntWalk.i64_in _ (by omega)
      obtain ⟨⟨kd, co, op, l⟩, Am, cm⟩ := m
      have k0 := hcell 0 _ rfl
      have k3 := hcell 3 _ rfl
      simp only [Nat.add_zero, Em.v] at k0 k3
      subst hA
      have HMR := Lib.hid hmr.1
      have hmc : l.length ≤ cm := hmr.2
      have hml : l.length ≤ 9000 := hmb
      clear hcell hx hmem hmr hmb
      by_cases c1 : kd = 1
      · subst c1
        go_wp2_with fail
        refine (Join_two wr Ab Am cb cm d.b l hcb hmc (Rd.own HD.out.b) (Rd_ext HD.out.ex HMR.out) (by omega) (by omega)).mono ?_
        rintro e w3 ⟨v3, rfl, h3, hx3⟩
        have hll : (d.b ++ l).length = d.b.length + l.length := List.length_append
        have HD3 := Lib.hid ((HD.out.ext hx3).with (b' := d.b ++ l) (by rw [hll]; exact Go.Proofs.YthkioahpnbahhaaW.PrintWords.own_weaken h3 (Nat.zero_le _)))
        have k0' := (cell_ext (i := o + k * 4) hx3 (World.block_lt_of_cell? _ _ k0)).trans k0
        obtain ⟨A3, c3, rfl⟩ := Go.Proofs.YthkioahpnbahhaaW.PrintWords.own_slice h3
        clear h3 hx3 k0 k3 HD
        simp only at k0'
        go_wp2_with fail
        refine ⟨⟨k + 1, ⟨d.out, d.b ++ l⟩, ss, by omega, by go_num, HD3, Lib.hid ?_, by show (d.b ++ l).length ≤ _; rw [hll]; omega, by omega⟩, by simp [intOf]; omega⟩
        rw [HTK.out, Dr.one rfl]
      · by_cases c2 : kd = 2
        · subst c2
          have HT := Lib.hid (HTK.out.trans (Dr.two rfl))
          have hz : W.heap.size ≤ wr.heap.size := HD.out.ex.size
          clear HTK
          by_cases h8 : 8192 < d.b.length
          · have hd8 : decide ((8192 : Int) < (d.b.length : Int)) = true := decide_eq_true (by omega)
            have HSB : Hid ((wr.alloc (.cells #[.slice Option.none 0 0, .bool true] 52)).ownsRow 0 5 1 (⟨Option.none, 0, []⟩ : Sb).v ([] : List Int).length (u8s [])) := Lib.hid (own_nil _ _ _ _)
            go_wp2_with (at_builtin; go_must (refine list_append_at W.heap.size rfl (.tmp 38) (.tmp 40) 46 rfl 52 i0 _ 2 32 Try.underlying46 hi hz0 hz1 hz2 rfl (by decide) (.slice A4 ss.length c4) ss.length (ss.flatMap Sr.enc) (by rfl) (own_alloc HD.out.out _) ⟨wr.heap.size, 0, none⟩ 1 1 (Sr.enc ⟨true, ⟨Option.none, 0, []⟩⟩) (by rfl) rfl (by exact World.news_of_block (heap_alloc_new wr (.cells #[.slice Option.none 0 0, .bool true] 52))) (by intro u hu; simp [Sr.enc, Sb.v] at hu; rcases hu with rfl | rfl <;> rfl) (by unfold maxLen; omega) (by omega) (by simp; omega) ?_); intro A6 c6 w6 hq hg; have HQ := Lib.hid ((HD.out.ext (Ext_alloc (o := (.cells #[.slice Option.none 0 0, .bool true] 52)) (Ext_refl wr))).add ⟨true, ⟨Option.none, 0, []⟩⟩ HSB.out hq hg); clear hq hg)
            have hb0 := World.ownsRow_lit (base := 0) (e := 5) (size := 1) w6 #[] 0 (Nat.zero_le _) (by decide) rfl
            refine ⟨⟨k + 1, ⟨d.out ++ [(true, [])], []⟩, ss ++ [⟨true, ⟨Option.none, 0, []⟩⟩], by omega, by go_num, Lib.hid ?_, Lib.hid ?_, by simp, by rw [List.length_append, List.length_singleton]; omega⟩, by simp [intOf]; omega⟩
            · have := (HQ.out.ext (Ext_alloc (o := .cells #[] 5) (Ext_refl _))).with (b' := []) hb0
              exact this
            · rw [HT.out, if_pos h8]
          · have hd8 : decide ((8192 : Int) < (d.b.length : Int)) = false := decide_eq_false (by omega)
            have HSB : Hid ((wr.alloc (.cells #[.slice Ab d.b.length cb, .bool false] 52)).ownsRow 0 5 1 (⟨Ab, cb, d.b⟩ : Sb).v d.b.length (u8s d.b)) := Lib.hid (own_alloc HD.out.b _)
            go_wp2_with (at_builtin; go_must (refine list_append_at W.heap.size rfl (.tmp 42) (.tmp 45) 46 rfl 52 i0 _ 2 32 Try.underlying46 hi hz0 hz1 hz2 rfl (by decide) (.slice A4 ss.length c4) ss.length (ss.flatMap Sr.enc) (by rfl) (own_alloc HD.out.out _) ⟨wr.heap.size, 0, none⟩ 1 1 (Sr.enc ⟨false, ⟨Ab, cb, d.b⟩⟩) (by rfl) rfl (by exact World.news_of_block (heap_alloc_new wr (.cells #[.slice Ab d.b.length cb, .bool false] 52))) (by intro u hu; simp [Sr.enc, Sb.v] at hu; rcases hu with rfl | rfl <;> rfl) (by unfold maxLen; omega) (by omega) (by simp; omega) ?_); intro A6 c6 w6 hq hg; have HQ := Lib.hid ((HD.out.ext (Ext_alloc (o := (.cells #[.slice Ab d.b.length cb, .bool false] 52)) (Ext_refl wr))).add ⟨false, ⟨Ab, cb, d.b⟩⟩ HSB.out hq hg); clear hq hg)
            have hb0 := World.ownsRow_lit (base := 0) (e := 5) (size := 1) w6 #[] 0 (Nat.zero_le _) (by decide) rfl
            refine ⟨⟨k + 1, ⟨d.out ++ [(false, d.b)], []⟩, ss ++ [⟨false, ⟨Ab, cb, d.b⟩⟩], by omega, by go_num, Lib.hid ?_, Lib.hid ?_, by simp, by rw [List.length_append, List.length_singleton]; omega⟩, by simp [intOf]; omega⟩
            · have := (HQ.out.ext (Ext_alloc (o := .cells #[] 5) (Ext_refl _))).with (b' := []) hb0
              exact this
            · rw [HT.out, if_neg h8]
        · have d1 : (kd == 1) = false := by rw [beq_eq_false_iff_ne]; exact c1
          have d2 : (kd == 2) = false := by rw [beq_eq_false_iff_ne]; exact c2
          have HT := Lib.hid (HTK.out.trans (Dr.none (by exact c1) (by exact c2)))
          clear c1 c2
          go_wp2_with fail
          refine ⟨⟨k + 1, d, ss, by omega, by go_num, HD, Lib.hid ?_, by omega, by omega⟩, by simp [intOf]; omega⟩
          rw [HT.out]
    · have hke : k = ms.length := by omega
      subst hke
      rw [List.take_length] at HE
      have HE2 := Lib.hid HE.out
      clear HE hlt hk
      go_wp2_with fail
      refine bodyPost_ret (v := .tuple #[.slice A4 ss.length c4, .slice Ab d.b.length cb]) (by simp [results, Try.results22, go_sem]) rfl ?_
      refine ⟨_, _, ss, rfl, by rw [← HE2.out]; exact HD.out, by rw [List.length_map]; exact hsl⟩
theorem ev_rows10 {H : Type} {w : World} {A : Option Addr} {n c : Nat} (h : Handed Try.prog H w 22 (.slice A n c)) :
    ∃ ms : List Em, ms.length = n ∧ n ≤ c ∧ n ≤ maxLen ∧ Rd w 4 A n (ms.flatMap Em.enc) ∧ ∀ m ∈ ms, m.rd w ∧ m.e.bytes.length ≤ maxLen := by
  obtain ⟨enc, d, ps, h⟩ := h
  refine arg_structs Em.enc (fun m => m.rd w ∧ m.e.bytes.length ≤ maxLen) Try.underlying22 (e := 28) (k := 4) (by kernel_rfl) (by omega) h (fun r m y hl hy => ?_)
  obtain ⟨v0, v1, v2, v3, rfl⟩ : ∃ v0 v1 v2 v3, r = [v0, v1, v2, v3] := by
    match r, hl with
    | [a, b, c, d], _ => exact ⟨a, b, c, d, rfl⟩
  have he := Try.underlying28
  obtain ⟨q0, z0, h0⟩ := row_field he (by kernel_rfl) hy 0 _ rfl v0 rfl
  obtain ⟨q1, z1, h1⟩ := row_field he (by kernel_rfl) hy 1 _ rfl v1 rfl
  obtain ⟨q2, z2, h2⟩ := row_field he (by kernel_rfl) hy 2 _ rfl v2 rfl
  obtain ⟨q3, z3, h3⟩ := row_field he (by kernel_rfl) hy 3 _ rfl v3 rfl
  obtain ⟨k, rfl, _⟩ := field_int Try.underlying3 h0
  obtain ⟨co, rfl, hc⟩ := field_int Try.underlying5 h1
  obtain ⟨x, rfl, hx⟩ := field_int Try.underlying5 h2
  obtain ⟨A3, n3, c3, l, rfl, rfl, hb1, hb2, hb3, hb4⟩ := field_bytes10 h3
  exact ⟨⟨⟨k, co, x, l⟩, A3, c3⟩, rfl, ⟨hb3, hb1⟩, hb2⟩
def keepL (l : List (Bool × List Int)) : List (List Int) := l.flatMap fun x => if x.1 then [] else [x.2]
def longN (l : List (Bool × List Int)) : Nat := l.countP fun x => x.1
theorem keepL_snoc (l : List (Bool × List Int)) (x : Bool × List Int) : keepL (l ++ [x]) = keepL l ++ (if x.1 then [] else [x.2]) := by simp [keepL]
theorem longN_snoc (l : List (Bool × List Int)) (x : Bool × List Int) : longN (l ++ [x]) = longN l + (if x.1 then 1 else 0) := by
  unfold longN
  rw [List.countP_append, List.countP_singleton]
theorem longN_le (l : List (Bool × List Int)) : longN l ≤ l.length := List.countP_le_length
/-- the document's records and the program's -/
structure RelD (r : Rs) (d : Dr) : Prop where
  m : r.m = Mk.zero.add d.b
  out : r.out = keepL d.out
  n : r.n = longN d.out
theorem RelD.take {r : Rs} {d : Dr} (h : RelD r d) (e : Ev) : RelD (r.take e) (d.take e) := by
  by_cases h1 : e.kind = 1
  · rw [Rs.one h1, Dr.one h1]
    refine ⟨?_, h.out, h.n⟩
    show r.m.add e.bytes = _
    rw [h.m, Mk.add_add Mk.zero (by show ([] : List Int).length ≤ _; simp)]
  · by_cases h2 : e.kind = 2
    · rw [Dr.two h2]
      cases hl : r.m.long
      · rw [Rs.two h2 hl]
        rw [h.m] at hl
        have hb := Mk.b_of hl
        rw [← Mk.long_of, decide_eq_false_iff_not] at hl
        rw [if_neg (by omega)]
        refine ⟨(Mk.add_nil _).symm, ?_, ?_⟩
        · show r.out ++ [r.m.b] = _
          rw [keepL_snoc, h.out, h.m, hb]; rfl
        · show r.n = _
          rw [longN_snoc, h.n]; rfl
      · rw [Rs.two' h2 hl]
        rw [h.m, ← Mk.long_of, decide_eq_true_eq] at hl
        rw [if_pos (by omega)]
        refine ⟨(Mk.add_nil _).symm, ?_, ?_⟩
        · show r.out = _
          rw [keepL_snoc, h.out]; simp
        · show r.n + 1 = _
          rw [longN_snoc, h.n]; rfl
    · rw [Rs.none h1 h2, Dr.none h1 h2]
      exact h
theorem RelD.takes {r : Rs} {d : Dr} (h : RelD r d) (es : List Ev) : RelD (r.takes es) (d.takes es) := by
  induction es generalizing r d with
  | nil => exact h
  | cons e es ih => exact ih (h.take e)
theorem RelD.zero : RelD Rs.zero Dr.zero := ⟨(Mk.add_nil _).symm, rfl, rfl⟩
set_option maxRecDepth 100000 in
set_option maxHeartbeats 8000000 in
theorem RefSplit_any (A : Option Addr) (c : Nat) (b : List Int) (hb : b.length ≤ 4000) (hc : b.length ≤ c) (hby : ∀ x ∈ b, x ≤ 255) (W : World) (hr : Rd W 1 A b.length (u8s b)) : Calls Try.prog 19 #[.slice A b.length c] W (SplitP W b) := by
  have HR := Lib.hid hr
  have HBY := Lib.hid hby
  clear hr hby
  go_enter Try.func19, Try.ntmps19
  go_wp2_with fail
  refine (All_any A c b (by omega) hc HBY.out W HR.out).mono ?_
  obtain ⟨op, hop⟩ : ∃ op, decide ((Dec.zero.takes b).at_ ≠ 0) = op := ⟨_, rfl⟩
  unfold AllP
  rw [hop]
  rintro e w1 ⟨vo, ms, rfl, hd1, hm1, hx1⟩
  have HX1 : Hid (Ext W w1) := Lib.hid hx1
  have HE1 := Lib.hid hd1.rd
  have HM1 := Lib.hid hm1
  have hsm := out_small hm1
  have hn1 : ms.length ≤ 60000 := by have := hsm.1; omega
  have HB1 : Hid (∀ m ∈ ms, m.e.bytes.length ≤ 9000) := Lib.hid (fun m hm => by have := hsm.2 m hm; omega)
  obtain ⟨A1, c1, hvo⟩ := Go.Proofs.YthkioahpnbahhaaW.PrintWords.own_slice hd1.out
  subst hvo
  clear hd1 hm1 hx1 hsm
  have bad : ∀ (hbad : splitBad b = true) (w2 : World), Ext W w2 → SplitP W b (.returned (.tuple #[.slice none 0 0, .int .i64 0, .int .i64 20])) w2 := fun hbad w2 hx => by
    refine ⟨.slice none 0 0, [], ?_, own_nil _ _ _ _, fun s hs => (by cases hs), ?_, hx⟩
    · unfold splitN splitE
      rw [if_pos hbad, if_pos hbad]
      rfl
    · unfold splitOut
      rw [if_pos hbad]
      rfl
  have good : ∀ (hbad : splitBad b = false) (o : List (Bool × List Int)), o = (Dr.zero.takes (Dec.zero.takes b).out).out → ∀ (w2 : World) (out : List Sb) (nl : Nat) (v : Value), nl = longN o → out.map Sb.l = keepL o → w2.ownsRow W.heap.size 24 1 v out.length (out.map Sb.v) → (∀ s ∈ out, w2.ownsRow 0 5 1 s.v s.l.length (u8s s.l)) → Ext W w2 → SplitP W b (.returned (.tuple #[v, .int .i64 nl, .int .i64 0])) w2 := fun hbad o ho w2 out nl v h1 h2 h3 h4 h5 => by
    have hbn : ¬ (splitBad b = true) := by rw [hbad]; decide
    have hrel := RelD.zero.takes (Dec.zero.takes b).out
    refine ⟨v, out, ?_, h3, h4, ?_, h5⟩
    · unfold splitN splitE
      rw [if_neg hbn, if_neg hbn, hrel.n, ← ho, h1]
    · unfold splitOut
      rw [if_neg hbn, hrel.out, ← ho, h2]
  have BAD := Lib.hid bad
  have GOOD := Lib.hid good
  clear bad good
  have hbd : splitBad b = (((Dec.zero.takes b).at_ != 0) || lastB (ms.map Em.e)) := by unfold splitBad; rw [HM1.out]
  have hop2 : ((Dec.zero.takes b).at_ != 0) = op := by rw [← hop]; by_cases h : (Dec.zero.takes b).at_ = 0 <;> simp [h]
  have HBD := Lib.hid hbd
  have HOP2 := Lib.hid hop2
  clear hbd hop hop2
  cases op
  case true =>
    have hbt : splitBad b = true := by rw [HBD.out, HOP2.out]; rfl
    have HBT := Lib.hid hbt
    clear hbt
    go_wp2_with fail
    refine bodyPost_ret (v := .tuple #[.slice none 0 0, .int .i64 0, .int .i64 20]) (by simp [results, Try.results19, go_sem]) rfl ?_
    exact BAD.out HBT.out _ HX1.out
  case false =>
    have hcases : ms = [] ∨ ∃ ms0 m, ms = ms0 ++ [m] := by
      rcases List.eq_nil_or_concat ms with e | ⟨ms0, m, e⟩
      · exact .inl e
      · exact .inr ⟨ms0, m, by rw [e, List.concat_eq_append]⟩
    rcases hcases with hm0 | ⟨ms0, m, hm0⟩
    · have hbf : splitBad b = false := by rw [HBD.out, HOP2.out, hm0]; rfl
      have HBF := Lib.hid hbf
      subst hm0
      clear hbf
      go_wp2_with fail
      refine (RefAll_any HE1.out hn1 HB1.out).mono ?_
      rintro e w2 ⟨v2, vb, ss, rfl, hd2, hs2⟩
      have HD2 := Lib.hid hd2
      obtain ⟨A2, c2, rfl⟩ := Go.Proofs.YthkioahpnbahhaaW.PrintWords.own_slice hd2.out
      have HX2 : Hid (Ext W w2) := Lib.hid (Ext_trans hd2.ex HX1.out)
      have hsl : ss.length ≤ 60000 := by rw [List.length_map] at hs2; omega
      have HGO := Lib.hid (GOOD.out HBF.out (ss.map Sr.p) (by rw [← HM1.out]; exact hd2.ls))
      clear hd2 hs2 HE1 HX1
      obtain ⟨i0, hi, hz0, hz1, hz2⟩ := info_parts infoS
      go_wp2_with fail
      go_loopw [9, 10, 11] (fun v9 v10 v wr => ∃ (k : Nat) (out : List Sb) (nl : Nat), k ≤ ss.length ∧ v = .int .i64 k ∧ v10 = .int .i64 nl ∧ Hid (nl = longN ((ss.map Sr.p).take k)) ∧ Hid (wr.ownsRow w2.heap.size 24 1 v9 out.length (out.map Sb.v)) ∧ Hid (out.map Sb.l = keepL ((ss.map Sr.p).take k)) ∧ Hid (∀ s ∈ out, ∃ r ∈ ss, r.s = s) ∧ Hid (Ext w2 wr) ∧ out.length ≤ k ∧ nl ≤ k) (fun _ _ v _ => ss.length - (intOf v).toNat)
      case atStart => exact ⟨0, [], 0, Nat.zero_le _, rfl, rfl, Lib.hid rfl, World.ownsRow_lit w2 #[] 0 (Nat.le_refl _) (by decide) rfl, Lib.hid rfl, fun s hs => (by cases hs), Ext_alloc (Ext_refl _), Nat.le_refl _, Nat.le_refl _⟩
      case round =>
        obtain ⟨k, out, nl, hk, rfl, rfl, HN, HO, HL, HS, HX, hol, hnl⟩ := hrel
        obtain ⟨A9, c9, rfl⟩ := Go.Proofs.YthkioahpnbahhaaW.PrintWords.own_slice HO.out
        have hz : w2.heap.size ≤ wr.heap.size := HX.out.size
        by_cases hlt : k < ss.length
        · obtain ⟨r, hx⟩ : ∃ r, ss[k]? = some r := ⟨_, List.getElem?_eq_getElem hlt⟩
          obtain ⟨bb, o, hA, hcell⟩ := (Rd_ext HX.out (Rd.own HD2.out.out)).elem Sr.enc (fun _ => rfl) hlt hx
          have HMEM := Lib.hid (List.mem_of_getElem? hx)
          have HTK := Lib.hid (show (ss.map Sr.p).take (k + 1) = (ss.map Sr.p).take k ++ [r.p] by rw [List.take_add_one, List.getElem?_map, hx]; rfl)
          have hwk : IntKind.i64.wrap ((k : Int) + 1) = ((k + 1 : Nat) : Int) := IntWalk.i64_in _ (by omega)
          have hwn : IntKind.i64.wrap ((nl : Int) + 1) = ((nl + 1 : Nat) : Int) := IntWalk.i64_in _ (by omega)
          obtain ⟨lg, Ar, cr, l⟩ := r
          have k0 := hcell 0 _ rfl
          have k1 := hcell 1 _ rfl
          simp only [Nat.add_zero, Sb.v] at k0 k1
          subst hA
          clear hcell hx
          cases lg
          case true =>
            go_wp2_with fail
            refine ⟨⟨k + 1, out, nl + 1, by omega, by go_num, by go_num, Lib.hid ?_, HO, Lib.hid ?_, HS, HX, by omega, by omega⟩, by simp [intOf]; omega⟩
            · rw [HTK.out, longN_snoc, ← HN.out]; rfl
            · rw [HTK.out, keepL_snoc, ← HL.out]; simp [Sr.p]
          case false =>
            go_wp2_with (at_builtin; go_must (refine list_append_at w2.heap.size rfl (.tmp 52) (.tmp 58) 34 rfl 24 i0 _ 1 24 Try.underlying34 hi hz0 hz1 hz2 rfl (by decide) (.slice A9 out.length c9) out.length (out.map Sb.v) (by rfl) (own_alloc HO.out _) ⟨wr.heap.size, 0, none⟩ 1 1 [.slice Ar l.length cr] (by rfl) rfl (by exact World.news_of_block (heap_alloc_new wr (.cells #[.slice Ar l.length cr] 24))) (by intro u hu; rw [List.mem_singleton.1 hu]; rfl) (by unfold maxLen; omega) (by omega) (by simp; omega) ?_); intro A6 c6 w6 hq hg; have HQ := Lib.hid hq; have HX6 : Hid (Ext w2 w6) := Lib.hid ((Ext_alloc (o := (.cells #[.slice Ar l.length cr] 24)) HX.out).grown hg (by simp; omega) (fun g hg => (own_base HO.out g hg).1)); clear hq hg)
            refine ⟨⟨k + 1, out ++ [⟨Ar, cr, l⟩], nl, by omega, by go_num, rfl, Lib.hid ?_, Lib.hid ?_, Lib.hid ?_, Lib.hid ?_, HX6, by rw [List.length_append, List.length_singleton]; omega, by omega⟩, by simp [intOf]; omega⟩
            · rw [HTK.out, longN_snoc, ← HN.out]; rfl
            · rw [List.length_append, List.map_append]; exact HQ.out
            · rw [HTK.out, keepL_snoc, ← HL.out, List.map_append]; rfl
            · intro s hs
              rcases List.mem_append.1 hs with hs | hs
              · exact HS.out s hs
              · rw [List.mem_singleton.1 hs]; exact ⟨_, HMEM.out, rfl⟩
        · have hke : k = ss.length := by omega
          subst hke
          have hlm : (ss.map Sr.p).take ss.length = ss.map Sr.p := List.take_of_length_le (by simp)
          rw [hlm] at HN HL
          have HN2 := Lib.hid HN.out
          have HL2 := Lib.hid HL.out
          clear hlt hk hlm HN HL
          go_wp2_with fail
          refine bodyPost_ret (v := .tuple #[.slice A9 out.length c9, .int .i64 nl, .int .i64 0]) (by simp [results, Try.results19, go_sem]) rfl ?_
          refine HGO.out _ out nl _ HN2.out HL2.out (Go.Proofs.YthkioahpnbahhaaW.PrintWords.own_weaken HO.out HX2.out.size) (fun s hs => ?_) (Ext_trans HX.out HX2.out)
          obtain ⟨r, hr, rfl⟩ := HS.out s hs
          exact own_ext5 (HD2.out.row r hr) HX.out
    · have hbf : splitBad b = (m.e.kind != 2) := by
        rw [HBD.out, HOP2.out, hm0, List.map_append]
        unfold lastB
        simp
      subst hm0
      have hll : (ms0 ++ [m]).length = ms0.length + 1 := by simp
      obtain ⟨_, _, hvx, _, hgr, _⟩ := HE1.out
      injection hvx with hv1 _ hv2
      subst hv1
      subst hv2
      obtain ⟨bb, o, hA, hcell⟩ := hgr.elem Em.enc (fun _ => rfl) (i := ms0.length) (by simp) (by simp : (ms0 ++ [m])[ms0.length]? = some m)
      have k0 := hcell 0 _ rfl
      simp only [Nat.add_zero] at k0
      subst hA
      have hw : IntKind.i64.wrap (ms0.length : Int) = (ms0.length : Int) := IntWalk.i64_in _ (by omega)
      have hb1 : (ms0.length : Int) < (ms0.length : Int) + 1 := by omega
      have hpos : (0 : Int) < (ms0.length : Int) + 1 := by omega
      rw [hll] at HE1 ⊢
      clear hcell hgr
      by_cases h2 : m.e.kind = 2
      · have q2 : (m.e.kind != 2) = false := by simp [h2]
        have HBF := Lib.hid (hbf.trans q2)
        clear hbf h2
        go_wp2_with fail
        refine (RefAll_any HE1.out hn1 HB1.out).mono ?_
        rintro e w2 ⟨v2, vb, ss, rfl, hd2, hs2⟩
        have HD2 := Lib.hid hd2
        obtain ⟨A2, c2, rfl⟩ := Go.Proofs.YthkioahpnbahhaaW.PrintWords.own_slice hd2.out
        have HX2 : Hid (Ext W w2) := Lib.hid (Ext_trans hd2.ex HX1.out)
        have hsl : ss.length ≤ 60000 := by rw [List.length_map] at hs2; omega
        have HGO := Lib.hid (GOOD.out HBF.out (ss.map Sr.p) (by rw [← HM1.out]; exact hd2.ls))
        clear hd2 hs2 HE1 HX1
        obtain ⟨i0, hi, hz0, hz1, hz2⟩ := info_parts infoS
        go_wp2_with fail
        go_loopw [9, 10, 11] (fun v9 v10 v wr => ∃ (k : Nat) (out : List Sb) (nl : Nat), k ≤ ss.length ∧ v = .int .i64 k ∧ v10 = .int .i64 nl ∧ Hid (nl = longN ((ss.map Sr.p).take k)) ∧ Hid (wr.ownsRow w2.heap.size 24 1 v9 out.length (out.map Sb.v)) ∧ Hid (out.map Sb.l = keepL ((ss.map Sr.p).take k)) ∧ Hid (∀ s ∈ out, ∃ r ∈ ss, r.s = s) ∧ Hid (Ext w2 wr) ∧ out.length ≤ k ∧ nl ≤ k) (fun _ _ v _ => ss.length - (intOf v).toNat)
        case atStart => exact ⟨0, [], 0, Nat.zero_le _, rfl, rfl, Lib.hid rfl, World.ownsRow_lit w2 #[] 0 (Nat.le_refl _) (by decide) rfl, Lib.hid rfl, fun s hs => (by cases hs), Ext_alloc (Ext_refl _), Nat.le_refl _, Nat.le_refl _⟩
        case round =>
          obtain ⟨k, out, nl, hk, rfl, rfl, HN, HO, HL, HS, HX, hol, hnl⟩ := hrel
          obtain ⟨A9, c9, rfl⟩ := Go.Proofs.YthkioahpnbahhaaW.PrintWords.own_slice HO.out
          have hz : w2.heap.size ≤ wr.heap.size := HX.out.size
          by_cases hlt : k < ss.length
          · obtain ⟨r, hx⟩ : ∃ r, ss[k]? = some r := ⟨_, List.getElem?_eq_getElem hlt⟩
            obtain ⟨bb, o, hA, hcell⟩ := (Rd_ext HX.out (Rd.own HD2.out.out)).elem Sr.enc (fun _ => rfl) hlt hx
            have HMEM := Lib.hid (List.mem_of_getElem? hx)
            have HTK := Lib.hid (show (ss.map Sr.p).take (k + 1) = (ss.map Sr.p).take k ++ [r.p] by rw [List.take_add_one, List.getElem?_map, hx]; rfl)
            have hwk : IntKind.i64.wrap ((k : Int) + 1) = ((k + 1 : Nat) : Int) := IntWalk.i64_in _ (by omega)
            have hwn : IntKind.i64.wrap ((nl : Int) + 1) = ((nl + 1 : Nat) : Int) := IntWalk.i64_in _ (by omega)
            obtain ⟨lg, Ar, cr, l⟩ := r
            have k0 := hcell 0 _ rfl
            have k1 := hcell 1 _ rfl
            simp only [Nat.add_zero, Sb.v] at k0 k1
            subst hA
            clear hcell hx
            cases lg
            case true =>
              go_wp2_with fail
              refine ⟨⟨k + 1, out, nl + 1, by omega, by go_num, by go_num, Lib.hid ?_, HO, Lib.hid ?_, HS, HX, by omega, by omega⟩, by simp [intOf]; omega⟩
              · rw [HTK.out, longN_snoc, ← HN.out]; rfl
              · rw [HTK.out, keepL_snoc, ← HL.out]; simp [Sr.p]
            case false =>
              go_wp2_with (at_builtin; go_must (refine list_append_at w2.heap.size rfl (.tmp 52) (.tmp 58) 34 rfl 24 i0 _ 1 24 Try.underlying34 hi hz0 hz1 hz2 rfl (by decide) (.slice A9 out.length c9) out.length (out.map Sb.v) (by rfl) (own_alloc HO.out _) ⟨wr.heap.size, 0, none⟩ 1 1 [.slice Ar l.length cr] (by rfl) rfl (by exact World.news_of_block (heap_alloc_new wr (.cells #[.slice Ar l.length cr] 24))) (by intro u hu; rw [List.mem_singleton.1 hu]; rfl) (by unfold maxLen; omega) (by omega) (by simp; omega) ?_); intro A6 c6 w6 hq hg; have HQ := Lib.hid hq; have HX6 : Hid (Ext w2 w6) := Lib.hid ((Ext_alloc (o := (.cells #[.slice Ar l.length cr] 24)) HX.out).grown hg (by simp; omega) (fun g hg => (own_base HO.out g hg).1)); clear hq hg)
              refine ⟨⟨k + 1, out ++ [⟨Ar, cr, l⟩], nl, by omega, by go_num, rfl, Lib.hid ?_, Lib.hid ?_, Lib.hid ?_, Lib.hid ?_, HX6, by rw [List.length_append, List.length_singleton]; omega, by omega⟩, by simp [intOf]; omega⟩
              · rw [HTK.out, longN_snoc, ← HN.out]; rfl
              · rw [List.length_append, List.map_append]; exact HQ.out
              · rw [HTK.out, keepL_snoc, ← HL.out, List.map_append]; rfl
              · intro s hs
                rcases List.mem_append.1 hs with hs | hs
                · exact HS.out s hs
                · rw [List.mem_singleton.1 hs]; exact ⟨_, HMEM.out, rfl⟩
          · have hke : k = ss.length := by omega
            subst hke
            have hlm : (ss.map Sr.p).take ss.length = ss.map Sr.p := List.take_of_length_le (by simp)
            rw [hlm] at HN HL
            have HN2 := Lib.hid HN.out
            have HL2 := Lib.hid HL.out
            clear hlt hk hlm HN HL
            go_wp2_with fail
            refine bodyPost_ret (v := .tuple #[.slice A9 out.length c9, .int .i64 nl, .int .i64 0]) (by simp [results, Try.results19, go_sem]) rfl ?_
            refine HGO.out _ out nl _ HN2.out HL2.out (Go.Proofs.YthkioahpnbahhaaW.PrintWords.own_weaken HO.out HX2.out.size) (fun s hs => ?_) (Ext_trans HX.out HX2.out)
            obtain ⟨r, hr, rfl⟩ := HS.out s hs
            exact own_ext5 (HD2.out.row r hr) HX.out
      · have q2 : (m.e.kind != 2) = true := by simp [h2]
        have HBT := Lib.hid (hbf.trans q2)
        clear hbf h2
        go_wp2_with fail
        refine bodyPost_ret (v := .tuple #[.slice none 0 0, .int .i64 0, .int .i64 20]) (by simp [results, Try.results19, go_sem]) rfl ?_
        exact BAD.out HBT.out _ HX1.out
set_option maxRecDepth 100000 in
set_option maxHeartbeats 1000000 in
theorem as10_any (k co x : Int) (A : Option Addr) (n c : Nat) (w : World) :
    Calls Try.prog 21 #[.agg #[.int .i64 k, .int .u8 co, .int .u8 x, .slice A n c]] w (Ret (.agg #[.int .i64 k, .int .u8 co, .int .u8 x, .slice A n c]) w) := by
  go_enter Try.func21, Try.ntmps21
  go_wp2_with fail
  refine bodyPost_ret (v := .agg #[.int .i64 k, .int .u8 co, .int .u8 x, .slice A n c]) (by simp [results, Try.results21, go_sem]) rfl ⟨rfl, ?_⟩
  repeat' (first | exact Ext_refl _ | (apply Ext_alloc) | (refine Ext_set ?_ ?_) | (simp; done) | (simp; omega))
theorem Rs.room (es : List Ev) : ∀ r : Rs, r.m.b.length ≤ 8192 → (∀ l ∈ r.out, l.length ≤ 8192) → (r.takes es).out.length ≤ r.out.length + es.length ∧ ∀ l ∈ (r.takes es).out, l.length ≤ 8192 := by
  induction es with
  | nil => exact fun r _ h => ⟨Nat.le_refl _, h⟩
  | cons e es ih =>
    intro r hm ho
    have h2 : (r.take e).out.length ≤ r.out.length + 1 ∧ ∀ l ∈ (r.take e).out, l.length ≤ 8192 := by
      unfold Rs.take
      split
      · exact ⟨Nat.le_succ _, ho⟩
      · split
        · split
          · exact ⟨Nat.le_succ _, ho⟩
          · refine ⟨by simp, fun l hl => ?_⟩
            rcases List.mem_append.1 hl with hl | hl
            · exact ho l hl
            · rw [List.mem_singleton.1 hl]; exact hm
        · exact ⟨Nat.le_succ _, ho⟩
    have := ih (r.take e) (Rs.take_len r hm e) h2.2
    refine ⟨?_, this.2⟩
    have h3 := this.1
    have h4 := h2.1
    show ((r.take e).takes es).out.length ≤ _
    rw [List.length_cons]
    omega
theorem splitOut_small (b : List Int) : (splitOut b).length ≤ 2 * b.length ∧ ∀ l ∈ splitOut b, l.length ≤ 8192 := by
  have hR := (Dec.Room.takes (d := Dec.zero) (k := 0) ⟨by show ([] : List Ev).length ≤ 0; simp, fun e he => (by cases he), by show ([] : List Int).length ≤ _; simp⟩ b).1
  have h := Rs.room (Dec.zero.takes b).out Rs.zero (by show ([] : List Int).length ≤ _; simp) (fun l hl => (by cases hl))
  unfold splitOut
  split
  · exact ⟨Nat.zero_le _, fun l hl => (by cases hl)⟩
  · refine ⟨?_, h.2⟩
    have h1 := h.1
    have h0 : Rs.zero.out.length = 0 := rfl
    omega
theorem keepL_at {o : List (Bool × List Int)} {k : Nat} {l : List Int} (h : o[k]? = some (false, l)) : (keepL o)[(keepL (o.take k)).length]? = some l := by
  have hk : k < o.length := by
    rcases Nat.lt_or_ge k o.length with h' | h'
    · exact h'
    · rw [List.getElem?_eq_none h'] at h; cases h
  have e : o = o.take k ++ ((false, l) :: o.drop (k + 1)) := by
    have h1 : o[k] = (false, l) := by rw [List.getElem?_eq_getElem hk] at h; exact Option.some.inj h
    rw [← h1, ← List.drop_eq_getElem_cons hk, List.take_append_drop]
  have e2 : keepL o = keepL (o.take k) ++ (l :: keepL (o.drop (k + 1))) := by
    conv => lhs; rw [e]
    simp [keepL]
  rw [e2, List.getElem?_append_right (Nat.le_refl _), Nat.sub_self]
  rfl
set_option maxRecDepth 100000 in
set_option maxHeartbeats 8000000 in
theorem RecordSplits_any (A A2 : Option Addr) (c c2 : Nat) (b : List Int) (ms : List Em) (hn : b.length ≤ maxLen) (hc : b.length ≤ c) (hby : ∀ x ∈ b, x ≤ 255) (hn2 : ms.length ≤ maxLen) (hc2 : ms.length ≤ c2) (w : World) (hr : Rd w 1 A b.length (u8s b)) (hr2 : Rd w 4 A2 ms.length (ms.flatMap Em.enc)) (hm : ∀ m ∈ ms, m.rd w ∧ m.e.bytes.length ≤ maxLen) :
    Calls Try.prog 4 #[.slice A b.length c, .slice A2 ms.length c2] w (Ret (.bool true) w) := by
  unfold maxLen at hn hn2 hm
  have HR := Lib.hid (fun w' (h : Ext w w') => Rd_ext h hr)
  have HR2 := Lib.hid (fun w' (h : Ext w w') => Rd_ext h hr2)
  have HM := Lib.hid hm
  have HBY := Lib.hid hby
  have HX := Lib.hid (Ext_refl w)
  clear hr hr2 hm hby
  by_cases hl : 3000 < b.length
  · have hd : decide ((3000 : Int) < (b.length : Int)) = true := decide_eq_true (by omega)
    go_enter Try.func4, Try.ntmps4
    go_wp2_with (go_at_call 11; refine (alive10_any _).mono ?_; rintro e wn ⟨rfl, hb⟩; have HXn := Lib.hid (Ext_trans hb (by repeat' (first | (with_reducible first | exact HX.out | apply Ext_alloc | apply Ext_drewN | apply Ext_drew | (refine Ext_set ?_ ?_) | exact Ext_refl _) | (simp only [World.size_alloc, World.size_setCell, World.size_drew, size_drewN]; omega) | (simp; done) | (simp; omega)))); clear hb HX; have HX := HXn; clear HXn)
    go_ret
    exact ⟨rfl, HX.out⟩
  have hd : decide ((3000 : Int) < (b.length : Int)) = false := decide_eq_false (by omega)
  by_cases hl2 : 60 < ms.length
  · have hd2 : decide ((60 : Int) < (ms.length : Int)) = true := decide_eq_true (by omega)
    go_enter Try.func4, Try.ntmps4
    go_wp2_with (go_at_call 11; refine (alive10_any _).mono ?_; rintro e wn ⟨rfl, hb⟩; have HXn := Lib.hid (Ext_trans hb (by repeat' (first | (with_reducible first | exact HX.out | apply Ext_alloc | apply Ext_drewN | apply Ext_drew | (refine Ext_set ?_ ?_) | exact Ext_refl _) | (simp only [World.size_alloc, World.size_setCell, World.size_drew, size_drewN]; omega) | (simp; done) | (simp; omega)))); clear hb HX; have HX := HXn; clear HXn)
    go_ret
    exact ⟨rfl, HX.out⟩
  have hd2 : decide ((60 : Int) < (ms.length : Int)) = false := decide_eq_false (by omega)
  have hb2 : b.length ≤ 3000 := by omega
  have hn60 : ms.length ≤ 60 := by omega
  clear hl hl2
  go_enter Try.func4, Try.ntmps4
  go_wp2_with (go_at_call 11; refine (alive10_any _).mono ?_; rintro e wn ⟨rfl, hb⟩; have HXn := Lib.hid (Ext_trans hb (by repeat' (first | (with_reducible first | exact HX.out | apply Ext_alloc | apply Ext_drewN | apply Ext_drew | (refine Ext_set ?_ ?_) | exact Ext_refl _) | (simp only [World.size_alloc, World.size_setCell, World.size_drew, size_drewN]; omega) | (simp; done) | (simp; omega)))); clear hb HX; have HX := HXn; clear HXn)
  refine (Split_any A c b (by omega) hc _ (HR.out _ HX.out)).mono ?_
  have hsm := splitOut_small b
  have hsp := RefSplit_any A c b (by omega) hc HBY.out
  unfold SplitP at hsp ⊢
  obtain ⟨sn, hsn⟩ : ∃ sn, splitN b = sn := ⟨_, rfl⟩
  obtain ⟨se, hse⟩ : ∃ se, splitE b = se := ⟨_, rfl⟩
  obtain ⟨so, hso⟩ : ∃ so, splitOut b = so := ⟨_, rfl⟩
  rw [hsn, hse, hso] at hsp ⊢
  rw [hso] at hsm
  have HSP := Lib.hid hsp
  have HSM := Lib.hid hsm
  clear hsn hse hso hsp hsm
  rintro e w1 ⟨v1, s1, rfl, hr1, hs1, hl1, hx1⟩
  have HX1 := Lib.hid (Ext_trans hx1 HX.out)
  have HR1 := Lib.hid hr1
  have HS1 := Lib.hid hs1
  have HL1 := Lib.hid hl1
  clear hr1 hs1 hl1 hx1 HX
  go_wp2_with fail
  refine (HSP.out _ (HR.out _ HX1.out)).mono ?_
  rintro e w2 ⟨v2, s2, rfl, hr2, hs2, hl2, hx2⟩
  have HX2 := Lib.hid (Ext_trans hx2 HX1.out)
  have hln : s1.length ≤ 6000 := by
    have h1 := congrArg List.length HL1.out
    rw [List.length_map] at h1
    have h2 := HSM.out.1
    omega
  have hsz : ∀ (s : List Sb), s.map Sb.l = so → ∀ x ∈ s, x.l.length ≤ 8192 := fun s hs x hx => HSM.out.2 _ (by rw [← hs]; exact List.mem_map_of_mem hx)
  have HG1 := Lib.hid ((RowsR.of_own HR1.out HS1.out (fun s hs => by have := hsz s1 HL1.out s hs; omega)).ext hx2)
  have HG2 := Lib.hid (RowsR.of_own hr2 hs2 (fun s hs => by have := hsz s2 hl2 s hs; omega))
  have HE := Lib.hid (HL1.out.trans hl2.symm)
  have HB := Lib.hid (show ∀ s ∈ s1, s.l.length ≤ 1000000 from fun s hs => by have := hsz s1 HL1.out s hs; omega)
  clear hr2 hs2 hl2 hx2 hsz HX1 HR1 HS1 HL1
  go_wp2_with fail
  refine (SameAll_any HG1.out HG2.out HE.out (by omega) HB.out).mono ?_
  rintro e w3 ⟨rfl, hx3⟩
  have HX3 := Lib.hid (Ext_trans hx3 HX2.out)
  clear hx3 HX2 HG1 HG2 HE HB HSP HSM
  obtain ⟨i0, hi, hz0, hz1, hz2⟩ := info_parts infoD
  go_wp2_with fail
  go_loopw [11, 13, 60] (fun v11 _ v wr => ∃ (k : Nat) (A9 : Option Addr) (c9 : Nat), k ≤ ms.length ∧ v = .int .i64 k ∧ v11 = .slice A9 k c9 ∧ Hid (wr.ownsRow w3.heap.size 44 4 (.slice A9 k c9) k ((ms.take k).flatMap Em.enc)) ∧ Hid (Ext w3 wr) ∧ Hid (∀ m ∈ ms.take k, m.e.bytes.length ≤ 9000)) (fun _ _ v _ => ms.length - (intOf v).toNat)
  case atStart => exact ⟨0, _, _, Nat.zero_le _, rfl, rfl, World.ownsRow_lit w3 #[] 0 (Nat.le_refl _) (by decide) rfl, Ext_alloc (Ext_refl _), fun m hm => by simp at hm⟩
  case round =>
    obtain ⟨k, A9, c9, hk, rfl, rfl, HO, HX, H9⟩ := hrel
    have hz : w3.heap.size ≤ wr.heap.size := HX.out.size
    by_cases hlt : k < ms.length
    · obtain ⟨m, hx⟩ : ∃ m, ms[k]? = some m := ⟨_, List.getElem?_eq_getElem hlt⟩
      obtain ⟨bb, o, hA, hcell⟩ := (HR2.out _ (Ext_trans HX.out HX3.out)).elem Em.enc (fun _ => rfl) hlt hx
      have HTK := Lib.hid (show ms.take (k + 1) = ms.take k ++ [m] by rw [List.take_add_one, hx]; rfl)
      have hwk : IntKind.i64.wrap ((k : Int) + 1) = ((k + 1 : Nat) : Int) := IntWalk.i64_in _ (by omega)
      obtain ⟨⟨kd, co, op, l⟩, Am, cm⟩ := m
      have k0 := hcell 0 _ rfl
      have k1 := hcell 1 _ rfl
      have k2 := hcell 2 _ rfl
      have k3 := hcell 3 _ rfl
      simp only [Nat.add_zero, Em.v] at k0 k1 k2 k3
      subst hA
      have hml : l.length ≤ 2 ^ 63 - 1 := (HM.out _ (List.mem_of_getElem? hx)).2
      clear hcell hx
      by_cases hb9 : 9000 < l.length
      · have hd9 : decide ((9000 : Int) < (l.length : Int)) = true := decide_eq_true (by omega)
        go_wp2_with fail
        go_ret
        exact ⟨rfl, Ext_alloc (Ext_trans HX.out HX3.out)⟩
      · have hd9 : decide ((9000 : Int) < (l.length : Int)) = false := decide_eq_false (by omega)
        have hl9 : l.length ≤ 9000 := by omega
        clear hb9
        go_wp2_with fail
        refine (as10_any kd co op Am l.length cm _).mono ?_
        rintro e w4 ⟨rfl, hx4⟩
        have hx4 : Ext wr w4 := Ext_trans hx4 (Ext_alloc (Ext_refl _))
        have hz4 : w3.heap.size ≤ w4.heap.size := Nat.le_trans hz hx4.size
        have HX4 := Lib.hid hx4
        go_wp2_with (at_builtin; go_must (refine list_append_at w3.heap.size rfl (.tmp 68) (.tmp 71) 42 rfl 44 i0 _ 4 40 Try.underlying42 hi hz0 hz1 hz2 rfl (by decide) (.slice A9 k c9) k ((ms.take k).flatMap Em.enc) (by rfl) (own_alloc (own_ext5 HO.out hx4) _) ⟨w4.heap.size, 0, none⟩ 1 1 (Em.enc ⟨⟨kd, co, op, l⟩, Am, cm⟩) (by rfl) rfl (by exact World.news_of_block (heap_alloc_new w4 (.cells #[.int .i64 kd, .int .u8 co, .int .u8 op, .slice Am l.length cm] 44))) (by intro u hu; simp [Em.enc, Em.v] at hu; rcases hu with rfl | rfl | rfl | rfl <;> rfl) (by unfold maxLen; omega) (by omega) (by simp; omega) ?_); intro A6 c6 w6 hq hg; have HQ := Lib.hid hq; have HX6 : Hid (Ext w3 w6) := Lib.hid ((Ext_alloc (o := (.cells #[.int .i64 kd, .int .u8 co, .int .u8 op, .slice Am l.length cm] 44)) (Ext_trans hx4 HX.out)).grown hg (by simp; omega) (fun g hg => (own_base HO.out g hg).1)); clear hq hg)
        refine ⟨⟨k + 1, A6, c6, by omega, by go_num, rfl, Lib.hid ?_, HX6, Lib.hid ?_⟩, by simp [intOf]; omega⟩
        · rw [HTK.out, List.flatMap_append]
          have e : [(⟨⟨kd, co, op, l⟩, Am, cm⟩ : Em)].flatMap Em.enc = Em.enc ⟨⟨kd, co, op, l⟩, Am, cm⟩ := by simp
          rw [e]
          exact HQ.out
        · intro m hm
          rw [HTK.out] at hm
          rcases List.mem_append.1 hm with hm | hm
          · exact H9.out m hm
          · rw [List.mem_singleton.1 hm]; exact hl9
    · have hke : k = ms.length := by omega
      subst hke
      rw [List.take_length] at HO H9
      have HMR := Lib.hid (fun m hm => (HM.out m hm).1.ext (Ext_trans HX.out HX3.out))
      have HED := Lib.hid (EvR.of_own HO.out HMR.out)
      have HEI := Lib.hid (show EvR wr (.slice A2 ms.length c2) ms from ⟨A2, c2, rfl, hc2, HR2.out _ (Ext_trans HX.out HX3.out), HMR.out⟩)
      have HXr := Lib.hid (Ext_trans HX.out HX3.out)
      clear hlt hk HO HX HX3 HMR
      go_wp2_with fail
      refine (RefAll_any HED.out (by omega) H9.out).mono ?_
      rintro e w4 ⟨v4, vb, ss, rfl, hd4, hs4⟩
      rw [List.length_map] at hs4
      have HD4 := Lib.hid hd4
      have HX4 := Lib.hid (Ext_trans hd4.ex HXr.out)
      have HEI4 := Lib.hid (HEI.out.ext hd4.ex)
      obtain ⟨A4, c4, rfl⟩ := Go.Proofs.YthkioahpnbahhaaW.PrintWords.own_slice hd4.out
      clear hd4 HED HEI HXr
      go_wp2_with fail
      refine (RAll_any HEI4.out (by omega) (fun m hm => by have := H9.out m hm; omega)).mono ?_
      rintro e w5 ⟨v5, s5, rfl, hr5, hs5, hl5, hx5⟩
      have hrel := RelD.zero.takes (ms.map Em.e)
      have hb5 := (Rs.room (ms.map Em.e) Rs.zero (by show ([] : List Int).length ≤ _; simp) (fun l hl => (by cases hl))).2
      rw [← hl5] at hb5
      have HB5 : Hid (∀ s ∈ s5, s.l.length ≤ 8192) := Lib.hid (fun s hs => hb5 _ (List.mem_map_of_mem hs))
      clear hb5
      rw [hrel.out, ← HD4.out.ls] at hl5
      have hnn := hrel.n
      rw [← HD4.out.ls] at hnn
      obtain ⟨nn, hnn'⟩ : ∃ nn, (Rs.zero.takes (ms.map Em.e)).n = nn := ⟨_, rfl⟩
      rw [hnn'] at hnn ⊢
      have HNN := Lib.hid hnn
      have HL5 := Lib.hid hl5
      have HR5 := Lib.hid hr5
      have HS5 := Lib.hid hs5
      have HX5 := Lib.hid (Ext_trans hx5 HX4.out)
      have HD5 := Lib.hid (HD4.out.ext hx5)
      obtain ⟨A5, c5, rfl⟩ := Go.Proofs.YthkioahpnbahhaaW.PrintWords.own_slice hr5
      have hn5 : nn ≤ 60 := by rw [hnn]; have := longN_le (ss.map Sr.p); rw [List.length_map] at this; omega
      have hl5n : s5.length ≤ 60 := by
        have h1 := congrArg List.length hl5
        rw [List.length_map] at h1
        rw [h1]
        have : ∀ o : List (Bool × List Int), (keepL o).length ≤ o.length := by
          intro o
          induction o with
          | nil => exact Nat.le_refl _
          | cons x o ih =>
            have e : keepL (x :: o) = (if x.1 then [] else [x.2]) ++ keepL o := rfl
            rw [e, List.length_append, List.length_cons]
            split <;> simp <;> omega
        have h2 := this (ss.map Sr.p)
        rw [List.length_map] at h2
        omega
      clear hr5 hs5 hl5 hx5 hrel hnn hnn' HX4 HD4 HEI4 H9
      go_wp2_with fail
      go_loopw [17, 18, 20, 86] (fun v17 v18 _ v wr => ∃ (k i : Nat), k ≤ ss.length ∧ v = .int .i64 k ∧ v18 = .int .i64 i ∧ v17 = .int .i64 ((nn : Int) - (longN ((ss.map Sr.p).take k) : Int)) ∧ i ≤ k ∧ Hid (i = (keepL ((ss.map Sr.p).take k)).length) ∧ Hid (Ext w5 wr)) (fun _ _ _ v _ => ss.length - (intOf v).toNat)
      case atStart => exact ⟨0, 0, Nat.zero_le _, rfl, rfl, by simp [longN], Nat.le_refl _, Lib.hid rfl, Ext_refl _⟩
      case round =>
        obtain ⟨k, i, hk, rfl, rfl, rfl, hik, HI, HX⟩ := hrel
        obtain ⟨nl, hnl⟩ : ∃ nl, longN ((ss.map Sr.p).take k) = nl := ⟨_, rfl⟩
        have hnlk : nl ≤ k := by rw [← hnl]; have := longN_le ((ss.map Sr.p).take k); rw [List.length_take] at this; omega
        rw [hnl]
        have HNL := Lib.hid hnl
        clear hnl
        by_cases hlt : k < ss.length
        · obtain ⟨r, hx⟩ : ∃ r, ss[k]? = some r := ⟨_, List.getElem?_eq_getElem hlt⟩
          obtain ⟨bb, o, hA, hcell⟩ := (Rd_ext HX.out (Rd.own HD5.out.out)).elem Sr.enc (fun _ => rfl) hlt hx
          have hrow := HD5.out.row r (List.mem_of_getElem? hx)
          have hop : (ss.map Sr.p)[k]? = some r.p := by rw [List.getElem?_map, hx]; rfl
          have HTK := Lib.hid (show (ss.map Sr.p).take (k + 1) = (ss.map Sr.p).take k ++ [r.p] by rw [List.take_add_one, hop]; rfl)
          have hwk : IntKind.i64.wrap ((k : Int) + 1) = ((k + 1 : Nat) : Int) := IntWalk.i64_in _ (by omega)
          obtain ⟨lg, Ar, cr, l⟩ := r
          have k0 := hcell 0 _ rfl
          have k1 := hcell 1 _ rfl
          simp only [Nat.add_zero, Sb.v] at k0 k1
          subst hA
          clear hcell hx
          cases lg
          case true =>
            have hwn : IntKind.i64.wrap ((nn : Int) - (nl : Int) - 1) = (nn : Int) - ((nl + 1 : Nat) : Int) := by rw [IntWalk.i64_in _ (by omega)]; omega
            go_wp2_with fail
            refine ⟨⟨k + 1, i, by omega, by go_num, rfl, ?_, by omega, Lib.hid ?_, Ext_alloc HX.out⟩, by simp [intOf]; omega⟩
            · rw [HTK.out, longN_snoc, HNL.out]; rfl
            · rw [HTK.out, keepL_snoc, HI.out]; simp [Sr.p]
          case false =>
            have hat := keepL_at hop
            rw [← HL5.out, ← HI.out, List.getElem?_map] at hat
            obtain ⟨s, hs, hsl⟩ : ∃ s, s5[i]? = some s ∧ s.l = l := by
              cases e : s5[i]? with
              | none => rw [e] at hat; cases hat
              | some s => rw [e] at hat; exact ⟨s, rfl, by simpa using hat⟩
            have hil : i < s5.length := by
              rcases Nat.lt_or_ge i s5.length with h' | h'
              · exact h'
              · rw [List.getElem?_eq_none h'] at hs; cases hs
            have hsr := HS5.out s (List.mem_of_getElem? hs)
            have hsb := HB5.out s (List.mem_of_getElem? hs)
            obtain ⟨b5, o5, hA5, hc5⟩ := (Rd_ext HX.out (Rd.own HR5.out)).2 (by omega)
            have x0 := hc5 i s.v (by rw [List.getElem?_map, hs]; rfl)
            obtain ⟨As, cs, l'⟩ := s
            obtain rfl : l' = l := hsl
            simp only [Sb.v] at x0
            subst hA5
            have hsr0 := hsr
            have hrow0 := hrow
            have HSR := Lib.hid hsr
            have HRW := Lib.hid hrow
            have hwi : IntKind.i64.wrap ((i : Int) + 1) = ((i + 1 : Nat) : Int) := IntWalk.i64_in _ (by omega)
            have hili : (i : Int) < (s5.length : Int) := by omega
            have hge : decide ((s5.length : Int) ≤ (i : Int)) = false := decide_eq_false (by omega)
            clear hc5 hs hat hsr hrow hop
            have hlb : l'.length ≤ 8192 := hsb
            have hca := own_len_cap hrow0
            have hcs := own_len_cap hsr0
            clear hsr0 hrow0 hsb
            go_upto_region 25 with (fail)
            clear k0 k1
            have HX2 : Hid (Ext w5 (wr.alloc (.cells #[.slice Ar l'.length cr, .bool false] 52))) := Lib.hid (Ext_alloc HX.out)
            have hbx := Blk.new wr 52 #[.slice Ar l'.length cr, .bool false]
            have e0 : (wr.alloc (.cells #[.slice Ar l'.length cr, .bool false] 52)).cell? ⟨wr.heap.size, 0, none⟩ = some (.slice Ar l'.length cr) := hbx.cell 0
            have hlt2 := hbx.lt
            have y0 := (cell_ext (i := o5 + i) (Ext_alloc (o := .cells #[.slice Ar l'.length cr, .bool false] 52) (Ext_refl wr)) (World.block_lt_of_cell? _ _ x0)).trans x0
            clear hbx x0 HX
            generalize (wr.alloc (.cells #[.slice Ar l'.length cr, .bool false] 52)) = W2 at *
            generalize wr.heap.size = bx at *
            go_quiet ((go_at_call 15; exact Calls.quiet_of ((PIacFeeds.greenscreenref01_Same.calls (l'.length + 1) As cs l' Ar cr l' true _ (C_of_Rd (Rd.own (own_ext5 HSR.out (Ext_drewN HX2.out))) (by omega)) hcs (C_of_Rd (Rd.own (own_ext5 HRW.out (Ext_drewN HX2.out))) (by omega)) hca (same1 l' (by omega) (by omega))).mono (fun _ _ ⟨h1, h2⟩ => ⟨h1, h2.out⟩))))
            go_wp2_with fail
            refine ⟨⟨k + 1, i + 1, by omega, by go_num, by go_num, ?_, by omega, Lib.hid ?_, Ext_drewN HX2.out⟩, by simp [intOf]; omega⟩
            · rw [HTK.out, longN_snoc, HNL.out]; rfl
            · rw [HTK.out, keepL_snoc, List.length_append, ← HI.out]; rfl
        · have hke : k = ss.length := by omega
          subst hke
          have hlm : (ss.map Sr.p).take ss.length = ss.map Sr.p := List.take_of_length_le (by simp)
          rw [hlm] at HI HNL
          have hi5 : i = s5.length := by
            have h1 := congrArg List.length HL5.out
            rw [List.length_map] at h1
            rw [HI.out, h1]
          have hnl2 : nl = nn := by rw [← HNL.out, HNN.out]
          subst hi5
          subst hnl2
          have h00 : (nl : Int) - (nl : Int) = 0 := by omega
          rw [h00]
          clear hlt hk hlm
          go_wp2_with fail
          go_ret
          exact ⟨rfl, Ext_trans HX.out HX5.out⟩
theorem RecordSplits_walk {H : Type} (w : World) (A : Option Addr) (n c : Nat) (t : Handed Try.prog H w 24 (.slice A n c)) (A2 : Option Addr) (n2 c2 : Nat) (t2 : Handed Try.prog H w 22 (.slice A2 n2 c2)) :
    Calls Try.prog 4 #[.slice A n c, .slice A2 n2 c2] w (Ret (.bool true) w) := by
  obtain ⟨b, rfl, hc, hn, hr, hb⟩ := byte_row t
  obtain ⟨ms, rfl, hc2, hn2, hr2, hm⟩ := ev_rows10 t2
  exact RecordSplits_any A A2 c c2 b ms hn hc (fun x hx => by have := hb x hx; omega) hn2 hc2 w hr hr2 hm
end Go.Proofs.Ythkioahpnbahhaa
