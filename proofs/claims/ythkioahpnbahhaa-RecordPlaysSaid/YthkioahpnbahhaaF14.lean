/- The document's records (ref10.All) walked. -/
import Derived.Test.YthkioahpnbahhaaFC
namespace Go.Proofs.Ythkioahpnbahhaa
set_option linter.unusedVariables false
set_option linter.unusedSimpArgs false
open Go.RowKit Go.Proofs.YthkioahpnbahhaaW.PrintWords
structure Sr where
  long : Bool
  s : Sb
def Sr.enc (r : Sr) : List Value := [r.s.v, .bool r.long]
def Sr.p (r : Sr) : Bool × List Int := (r.long, r.s.l)
/-- the document's records -/
structure Dr where
  out : List (Bool × List Int)
  b : List Int
def Dr.zero : Dr := ⟨[], []⟩
def Dr.take (d : Dr) (e : Ev) : Dr := if e.kind = 1 then ⟨d.out, d.b ++ e.bytes⟩ else if e.kind = 2 then ⟨d.out ++ [if 8192 < d.b.length then (true, []) else (false, d.b)], []⟩ else d
def Dr.takes (d : Dr) (es : List Ev) : Dr := es.foldl Dr.take d
theorem Dr.takes_snoc (d : Dr) (es : List Ev) (e : Ev) : d.takes (es ++ [e]) = (d.takes es).take e := List.foldl_append
theorem Dr.one {d : Dr} {e : Ev} (h : e.kind = 1) : d.take e = ⟨d.out, d.b ++ e.bytes⟩ := by unfold Dr.take; rw [if_pos h]
theorem Dr.two {d : Dr} {e : Ev} (h : e.kind = 2) : d.take e = ⟨d.out ++ [if 8192 < d.b.length then (true, []) else (false, d.b)], []⟩ := by unfold Dr.take; rw [if_neg (by omega), if_pos h]
theorem Dr.none {d : Dr} {e : Ev} (h : e.kind ≠ 1) (h2 : e.kind ≠ 2) : d.take e = d := by unfold Dr.take; rw [if_neg h, if_neg h2]
/-- .. in memory -/
structure DrAt (w W : World) (d : Dr) (vo vb : Value) (ss : List Sr) : Prop where
  out : W.ownsRow w.heap.size 52 2 vo ss.length (ss.flatMap Sr.enc)
  row : ∀ s ∈ ss, W.ownsRow 0 5 1 s.s.v s.s.l.length (u8s s.s.l)
  b : W.ownsRow 0 5 1 vb d.b.length (u8s d.b)
  ls : ss.map Sr.p = d.out
  ex : Ext w W
theorem DrAt.ext {w W W1 : World} {d : Dr} {vo vb : Value} {ss : List Sr} (h : DrAt w W d vo vb ss) (hx : Ext W W1) : DrAt w W1 d vo vb ss :=
  ⟨own_ext5 h.out hx, fun s hs => own_ext5 (h.row s hs) hx, own_ext5 h.b hx, h.ls, Ext_trans hx h.ex⟩
theorem DrAt.with {w W : World} {d : Dr} {vo vb vb' : Value} {b' : List Int} {ss : List Sr} (h : DrAt w W d vo vb ss) (hb : W.ownsRow 0 5 1 vb' b'.length (u8s b')) : DrAt w W ⟨d.out, b'⟩ vo vb' ss :=
  ⟨h.out, h.row, hb, h.ls, h.ex⟩
/-- a record more -/
theorem DrAt.add {w W W1 : World} {d : Dr} {vo vo' vb : Value} {ss : List Sr} (h : DrAt w W d vo vb ss) (r : Sr) (hs : W.ownsRow 0 5 1 r.s.v r.s.l.length (u8s r.s.l)) (hq : W1.ownsRow w.heap.size 52 2 vo' (ss.length + 1) (ss.flatMap Sr.enc ++ r.enc)) (hg : W.grownBy W1 vo.ownBlock) :
    DrAt w W1 ⟨d.out ++ [r.p], d.b⟩ vo' vb (ss ++ [r]) := by
  have mv : ∀ {v : Value} {n : Nat} {xs : List Value}, W.ownsRow 0 5 1 v n xs → W1.ownsRow 0 5 1 v n xs := fun ha =>
    own_move ha (fun k hk => hg.block k (World.ownsRow.lt ha k hk).2 (fun e => own_same ha h.out (by decide) k hk e.symm))
  refine ⟨?_, fun a ha => ?_, mv h.b, ?_, h.ex.grown hg h.ex.size (fun g hg => (own_base h.out g hg).1)⟩
  · rw [List.length_append, List.flatMap_append]
    have e : [r].flatMap Sr.enc = r.enc := by simp
    rw [e]
    exact hq
  · rcases List.mem_append.1 ha with ha | ha
    · exact mv (h.row a ha)
    · rw [List.mem_singleton.1 ha]; exact mv hs
  · rw [List.map_append, h.ls]; rfl
theorem infoR : (Try.prog.info? 52).map (fun i => (i.zero, i.size, i.bytes)) = some (some (.agg #[.slice none 0 0, .bool false]), 2, 32) := by kernel_rfl
theorem Join_own (A : Option Addr) (c : Nat) (ss : List Sb) (hl : ss.length ≤ 1000000) (hc : ss.length ≤ c) (hT : (ss.map Sb.l).flatten.length ≤ 1000000000) (w : World) (h : Rd w 1 A ss.length (ss.map Sb.v)) (hs : ∀ s ∈ ss, s.ok w) :
    Calls Try.prog 14 #[.slice A ss.length c] w (fun e w' => ∃ v, e = .returned v ∧ w'.ownsRow w.heap.size 5 1 v (ss.map Sb.l).flatten.length (u8s (ss.map Sb.l).flatten) ∧ Ext w w') := by
  obtain ⟨k, hk⟩ := join_f (ss.map Sb.l) (by rw [List.length_map]; exact hl) hT
  have := PIacFeeds.greenscreenref01_Join.calls k A c (ss.map Sb.l) _ w (C_of_rows h hs (by omega)) (by rw [List.length_map]; exact hc) hk
  rw [List.length_map] at this
  exact this.mono fun _ _ ⟨v, he, h1, h2⟩ => ⟨v, he, own_of_R h1, h2⟩
/-- two rows of bytes, of a literal -/
theorem Join_two (W : World) (Ab Am : Option Addr) (cb cm : Nat) (bl l : List Int) (h1 : bl.length ≤ cb) (h2 : l.length ≤ cm) (r1 : Rd W 1 Ab bl.length (u8s bl)) (r2 : Rd W 1 Am l.length (u8s l)) (n1 : bl.length ≤ 900000000) (n2 : l.length ≤ 100000) :
    Calls Try.prog 14 #[.slice (some ⟨W.heap.size, 0, Option.none⟩) 2 2] (W.alloc (.cells #[.slice Ab bl.length cb, .slice Am l.length cm] 24)) (fun e w' => ∃ v, e = .returned v ∧ w'.ownsRow (W.heap.size + 1) 5 1 v (bl.length + l.length) (u8s (bl ++ l)) ∧ Ext W w') := by
  have hx : Ext W (W.alloc (.cells #[.slice Ab bl.length cb, .slice Am l.length cm] 24)) := Ext_alloc (Ext_refl W)
  have e : (([⟨Ab, cb, bl⟩, ⟨Am, cm, l⟩] : List Sb).map Sb.l).flatten = bl ++ l := by simp
  have := Join_own (some ⟨W.heap.size, 0, Option.none⟩) 2 [⟨Ab, cb, bl⟩, ⟨Am, cm, l⟩] (by simp) (by simp) (by rw [e, List.length_append]; omega) _ (Rd.blk (l := [.slice Ab bl.length cb, .slice Am l.length cm]) (Blk.new W 24 #[.slice Ab bl.length cb, .slice Am l.length cm]) rfl) (fun s hs => by
    simp only [List.mem_cons, List.not_mem_nil, or_false] at hs
    rcases hs with rfl | rfl
    · exact ⟨h1, Rd_ext hx r1, by show bl.length ≤ _; omega⟩
    · exact ⟨h2, Rd_ext hx r2, by show l.length ≤ _; omega⟩)
  rw [e, List.length_append, World.size_alloc] at this
  exact this.mono fun _ _ ⟨v, he, k1, k2⟩ => ⟨v, he, k1, Ext_trans k2 hx⟩
def RefAllP (W : World) (es : List Ev) (e : Ending) (w' : World) : Prop :=
  ∃ (v vb : Value) (ss : List Sr), e = .returned (.tuple #[v, vb]) ∧ DrAt W w' (Dr.zero.takes es) v vb ss ∧ ss.length ≤ es.length
set_option maxRecDepth 100000 in
set_option maxHeartbeats 8000000 in
theorem RefAll_any {W : World} {vo : Value} {ms : List Em} (h : EvR W vo ms) (hn : ms.length ≤ 60000) (hb : ∀ m ∈ ms, m.e.bytes.length ≤ 9000) : Calls Try.prog 22 #[vo] W (RefAllP W (ms.map Em.e)) := by
  obtain ⟨A, c, rfl, hc, hr, hm⟩ := h
  obtain ⟨i0, hi, hz0, hz1, hz2⟩ := info_parts infoR
  have HR := Lib.hid hr
  have HM := Lib.hid hm
  have HB := Lib.hid hb
  clear hr hm hc hb
  go_enter Try.func22, Try.ntmps22
  go_wp2_with fail
  go_loopw [4, 5, 6] (fun v4 v5 v wr => ∃ (k : Nat) (d : Dr) (ss : List Sr), k ≤ ms.length ∧ v = .int .i64 k ∧ Hid (DrAt W wr d v4 v5 ss) ∧ Hid (d = Dr.zero.takes ((ms.take k).map Em.e)) ∧ d.b.length ≤ k * 9000 ∧ ss.length ≤ k) (fun _ _ v _ => ms.length - (intOf v).toNat)
  case atStart => exact ⟨0, Dr.zero, [], Nat.zero_le _, rfl, ⟨own_ext5 (World.ownsRow_lit W #[] 0 (Nat.le_refl _) (by decide) rfl) (Ext_alloc (Ext_refl _)), fun s hs => (by cases hs), by have h := World.ownsRow_lit (base := 0) (e := 5) (size := 1) (W.alloc (.cells #[] 52)) #[] 0 (Nat.zero_le _) (by decide) rfl; rw [World.size_alloc] at h; exact h, rfl, Ext_alloc (Ext_alloc (Ext_refl _))⟩, Lib.hid rfl, by simp [Dr.zero], Nat.le_refl _⟩
  case round =>
    obtain ⟨k, d, ss, hk, rfl, HD, HE, hbl, hsl⟩ := hrel
    obtain ⟨A4, c4, rfl⟩ := Go.Proofs.YthkioahpnbahhaaW.PrintWords.own_slice HD.out.out
    obtain ⟨Ab, cb, rfl⟩ := Go.Proofs.YthkioahpnbahhaaW.PrintWords.own_slice HD.out.b
    have hcb : d.b.length ≤ cb := own_len_cap HD.out.b
    by_cases hlt : k < ms.length
    · obtain ⟨m, hx⟩ : ∃ m, ms[k]? = some m := ⟨_, List.getElem?_eq_getElem hlt⟩
      obtain ⟨bb, o, hA, hcell⟩ := (Rd_ext HD.out.ex HR.out).elem Em.enc (fun _ => rfl) hlt hx
      have hmem : m ∈ ms := List.mem_of_getElem? hx
      have hmr := HM.out m hmem
      have hmb := HB.out m hmem
      have HTK := Lib.hid (show Dr.zero.takes ((ms.take (k + 1)).map Em.e) = d.take m.e by rw [List.take_add_one, hx, Option.toList_some, List.map_append, List.map_singleton, Dr.takes_snoc, ← HE.out])
      have hwk : IntKind.i64.wrap ((k : Int) + 1) = ((k + 1 : Nat) : Int) := IntWalk.i64_in _ (by omega)
      obtain ⟨⟨kd, co, op, l⟩, Am, cm⟩ := m
      have k0 := hcell 0 _ rfl
      have k3 := hcell 3 _ rfl
      simp only [Nat.add_zero, Em.v] at k0 k3
      subst hA
      have HMR := Lib.hid hmr.1
      have hmc : l.length ≤ cm := hmr.2
      have hml : l.length ≤ 9000 := hmb
      clear hcell hx hmem hmr hmb
      by_cases c1 : kd = 1
      · subst c1
        go_wp2_with fail
        refine (Join_two wr Ab Am cb cm d.b l hcb hmc (Rd.own HD.out.b) (Rd_ext HD.out.ex HMR.out) (by omega) (by omega)).mono ?_
        rintro e w3 ⟨v3, rfl, h3, hx3⟩
        have hll : (d.b ++ l).length = d.b.length + l.length := List.length_append
        have HD3 := Lib.hid ((HD.out.ext hx3).with (b' := d.b ++ l) (by rw [hll]; exact Go.Proofs.YthkioahpnbahhaaW.PrintWords.own_weaken h3 (Nat.zero_le _)))
        have k0' := (cell_ext (i := o + k * 4) hx3 (World.block_lt_of_cell? _ _ k0)).trans k0
        obtain ⟨A3, c3, rfl⟩ := Go.Proofs.YthkioahpnbahhaaW.PrintWords.own_slice h3
        clear h3 hx3 k0 k3 HD
        simp only at k0'
        go_wp2_with fail
        refine ⟨⟨k + 1, ⟨d.out, d.b ++ l⟩, ss, by omega, by go_num, HD3, Lib.hid ?_, by show (d.b ++ l).length ≤ _; rw [hll]; omega, by omega⟩, by simp [intOf]; omega⟩
        rw [HTK.out, Dr.one rfl]
      · by_cases c2 : kd = 2
        · subst c2
          have HT := Lib.hid (HTK.out.trans (Dr.two rfl))
          have hz : W.heap.size ≤ wr.heap.size := HD.out.ex.size
          clear HTK
          by_cases h8 : 8192 < d.b.length
          · have hd8 : decide ((8192 : Int) < (d.b.length : Int)) = true := decide_eq_true (by omega)
            have HSB : Hid ((wr.alloc (.cells #[.slice Option.none 0 0, .bool true] 52)).ownsRow 0 5 1 (⟨Option.none, 0, []⟩ : Sb).v ([] : List Int).length (u8s [])) := Lib.hid (own_nil _ _ _ _)
            go_wp2_with (at_builtin; go_must (refine list_append_at W.heap.size rfl (.tmp 38) (.tmp 40) 46 rfl 52 i0 _ 2 32 Try.underlying46 hi hz0 hz1 hz2 rfl (by decide) (.slice A4 ss.length c4) ss.length (ss.flatMap Sr.enc) (by rfl) (own_alloc HD.out.out _) ⟨wr.heap.size, 0, none⟩ 1 1 (Sr.enc ⟨true, ⟨Option.none, 0, []⟩⟩) (by rfl) rfl (by exact World.news_of_block (heap_alloc_new wr (.cells #[.slice Option.none 0 0, .bool true] 52))) (by intro u hu; simp [Sr.enc, Sb.v] at hu; rcases hu with rfl | rfl <;> rfl) (by unfold maxLen; omega) (by omega) (by simp; omega) ?_); intro A6 c6 w6 hq hg; have HQ := Lib.hid ((HD.out.ext (Ext_alloc (o := (.cells #[.slice Option.none 0 0, .bool true] 52)) (Ext_refl wr))).add ⟨true, ⟨Option.none, 0, []⟩⟩ HSB.out hq hg); clear hq hg)
            have hb0 := World.ownsRow_lit (base := 0) (e := 5) (size := 1) w6 #[] 0 (Nat.zero_le _) (by decide) rfl
            refine ⟨⟨k + 1, ⟨d.out ++ [(true, [])], []⟩, ss ++ [⟨true, ⟨Option.none, 0, []⟩⟩], by omega, by go_num, Lib.hid ?_, Lib.hid ?_, by simp, by rw [List.length_append, List.length_singleton]; omega⟩, by simp [intOf]; omega⟩
            · have := (HQ.out.ext (Ext_alloc (o := .cells #[] 5) (Ext_refl _))).with (b' := []) hb0
              exact this
            · rw [HT.out, if_pos h8]
          · have hd8 : decide ((8192 : Int) < (d.b.length : Int)) = false := decide_eq_false (by omega)
            have HSB : Hid ((wr.alloc (.cells #[.slice Ab d.b.length cb, .bool false] 52)).ownsRow 0 5 1 (⟨Ab, cb, d.b⟩ : Sb).v d.b.length (u8s d.b)) := Lib.hid (own_alloc HD.out.b _)
            go_wp2_with (at_builtin; go_must (refine list_append_at W.heap.size rfl (.tmp 42) (.tmp 45) 46 rfl 52 i0 _ 2 32 Try.underlying46 hi hz0 hz1 hz2 rfl (by decide) (.slice A4 ss.length c4) ss.length (ss.flatMap Sr.enc) (by rfl) (own_alloc HD.out.out _) ⟨wr.heap.size, 0, none⟩ 1 1 (Sr.enc ⟨false, ⟨Ab, cb, d.b⟩⟩) (by rfl) rfl (by exact World.news_of_block (heap_alloc_new wr (.cells #[.slice Ab d.b.length cb, .bool false] 52))) (by intro u hu; simp [Sr.enc, Sb.v] at hu; rcases hu with rfl | rfl <;> rfl) (by unfold maxLen; omega) (by omega) (by simp; omega) ?_); intro A6 c6 w6 hq hg; have HQ := Lib.hid ((HD.out.ext (Ext_alloc (o := (.cells #[.slice Ab d.b.length cb, .bool false] 52)) (Ext_refl wr))).add ⟨false, ⟨Ab, cb, d.b⟩⟩ HSB.out hq hg); clear hq hg)
            have hb0 := World.ownsRow_lit (base := 0) (e := 5) (size := 1) w6 #[] 0 (Nat.zero_le _) (by decide) rfl
            refine ⟨⟨k + 1, ⟨d.out ++ [(false, d.b)], []⟩, ss ++ [⟨false, ⟨Ab, cb, d.b⟩⟩], by omega, by go_num, Lib.hid ?_, Lib.hid ?_, by simp, by rw [List.length_append, List.length_singleton]; omega⟩, by simp [intOf]; omega⟩
            · have := (HQ.out.ext (Ext_alloc (o := .cells #[] 5) (Ext_refl _))).with (b' := []) hb0
              exact this
            · rw [HT.out, if_neg h8]
        · have d1 : (kd == 1) = false := by rw [beq_eq_false_iff_ne]; exact c1
          have d2 : (kd == 2) = false := by rw [beq_eq_false_iff_ne]; exact c2
          have HT := Lib.hid (HTK.out.trans (Dr.none (by exact c1) (by exact c2)))
          clear c1 c2
          go_wp2_with fail
          refine ⟨⟨k + 1, d, ss, by omega, by go_num, HD, Lib.hid ?_, by omega, by omega⟩, by simp [intOf]; omega⟩
          rw [HT.out]
    · have hke : k = ms.length := by omega
      subst hke
      rw [List.take_length] at HE
      have HE2 := Lib.hid HE.out
      clear HE hlt hk
      go_wp2_with fail
      refine bodyPost_ret (v := .tuple #[.slice A4 ss.length c4, .slice Ab d.b.length cb]) (by simp [results, Try.results22, go_sem]) rfl ?_
      refine ⟨_, _, ss, rfl, by rw [← HE2.out]; exact HD.out, by rw [List.length_map]; exact hsl⟩
theorem ev_rows10 {H : Type} {w : World} {A : Option Addr} {n c : Nat} (h : Handed Try.prog H w 22 (.slice A n c)) :
    ∃ ms : List Em, ms.length = n ∧ n ≤ c ∧ n ≤ maxLen ∧ Rd w 4 A n (ms.flatMap Em.enc) ∧ ∀ m ∈ ms, m.rd w ∧ m.e.bytes.length ≤ maxLen := by
  obtain ⟨enc, d, ps, h⟩ := h
  refine arg_structs Em.enc (fun m => m.rd w ∧ m.e.bytes.length ≤ maxLen) Try.underlying22 (e := 28) (k := 4) (by kernel_rfl) (by omega) h (fun r m y hl hy => ?_)
  obtain ⟨v0, v1, v2, v3, rfl⟩ : ∃ v0 v1 v2 v3, r = [v0, v1, v2, v3] := by
    match r, hl with
    | [a, b, c, d], _ => exact ⟨a, b, c, d, rfl⟩
  have he := Try.underlying28
  obtain ⟨q0, z0, h0⟩ := row_field he (by kernel_rfl) hy 0 _ rfl v0 rfl
  obtain ⟨q1, z1, h1⟩ := row_field he (by kernel_rfl) hy 1 _ rfl v1 rfl
  obtain ⟨q2, z2, h2⟩ := row_field he (by kernel_rfl) hy 2 _ rfl v2 rfl
  obtain ⟨q3, z3, h3⟩ := row_field he (by kernel_rfl) hy 3 _ rfl v3 rfl
  obtain ⟨k, rfl, _⟩ := field_int Try.underlying3 h0
  obtain ⟨co, rfl, hc⟩ := field_int Try.underlying5 h1
  obtain ⟨x, rfl, hx⟩ := field_int Try.underlying5 h2
  obtain ⟨A3, n3, c3, l, rfl, rfl, hb1, hb2, hb3, hb4⟩ := field_bytes10 h3
  exact ⟨⟨⟨k, co, x, l⟩, A3, c3⟩, rfl, ⟨hb3, hb1⟩, hb2⟩
end Go.Proofs.Ythkioahpnbahhaa
