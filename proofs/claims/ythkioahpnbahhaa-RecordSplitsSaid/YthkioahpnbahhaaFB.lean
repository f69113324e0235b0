/- F4 F5 F6: the texts of these, one behind the other. -/
import Derived.Test.YthkioahpnbahhaaFA
namespace Go.Proofs.Ythkioahpnbahhaa
set_option linter.unusedVariables false
set_option linter.unusedSimpArgs false
open Go.RowKit Go.Proofs.YthkioahpnbahhaaW.PrintWords
/-- what came of events: the maker, the records, how many were long -/
structure Rs where
  m : Mk
  out : List (List Int)
  n : Nat
def Rs.take (r : Rs) (e : Ev) : Rs := if e.kind = 1 then { r with m := r.m.add e.bytes } else if e.kind = 2 then (if r.m.long then { m := Mk.zero, out := r.out, n := r.n + 1 } else { m := Mk.zero, out := r.out ++ [r.m.b], n := r.n }) else r
def Rs.zero : Rs := ⟨Mk.zero, [], 0⟩
def Rs.takes (r : Rs) (es : List Ev) : Rs := es.foldl Rs.take r
/-- the records in memory -/
structure RsAt (w W : World) (mb : Nat) (r : Rs) (v vo : Value) (ss : List Sb) : Prop where
  mka : MkAt W mb r.m v
  out : W.ownsRow w.heap.size 24 1 vo ss.length (ss.map Sb.v)
  row : ∀ s ∈ ss, W.ownsRow 0 5 1 s.v s.l.length (u8s s.l)
  ns : ∀ s ∈ ss, ∀ g, s.v.ownBlock = some g → v.ownBlock ≠ some g
  ls : ss.map Sb.l = r.out
  vb : ∀ g, v.ownBlock = some g → w.heap.size ≤ g
  mbb : w.heap.size ≤ mb
  ex : Ext w W
section
variable {w W W1 : World} {mb : Nat} {r : Rs} {v v' vo vo' : Value} {ss : List Sb}
theorem RsAt.step (h : RsAt w W mb r v vo ss) (hx : Ext W W1) : RsAt w W1 mb r v vo ss :=
  ⟨h.mka.ext hx, own_ext5 h.out hx, fun s hs => own_ext5 (h.row s hs) hx, h.ns, h.ls, h.vb, h.mbb, Ext_trans hx h.ex⟩
/-- bytes are laid to the maker's -/
theorem RsAt.data (h : RsAt w W mb r v vo ss) {m' : Mk} (hm : MkAt W1 mb m' v') (ho : ∀ g, v'.ownBlock = some g → Own W v g) (ht : Turn (Own W v) mb W W1) : RsAt w W1 mb { r with m := m' } v' vo ss := by
  have mv : ∀ {b : Nat} {u : Value} {e : TypeId} {s n : Nat} {xs : List Value}, W.ownsRow b e s u n xs → 26 ≠ e → (∀ g, u.ownBlock = some g → v.ownBlock ≠ some g) → W1.ownsRow b e s u n xs := fun h1 h2 h3 => own_move h1 (fun k hk => ht.block k (World.ownsRow.lt h1 k hk).2 (fun e => own_blk_ne h1 h.mka.blk h2 (by rw [hk, e])) (by
    rintro (h4 | h4)
    · have := (World.ownsRow.lt h1 k hk).2; omega
    · exact h3 k hk h4))
  refine ⟨hm, mv h.out (by decide) (own_same h.out h.mka.row (by decide)), fun s hs => mv (h.row s hs) (by decide) (h.ns s hs), fun s hs g h1 h2 => ?_, h.ls, fun g hg => ?_, h.mbb, ht.ext h.ex h.mbb (Own.ge h.ex.size h.vb)⟩
  · rcases ho g h2 with h3 | h3
    · have := (World.ownsRow.lt (h.row s hs) g h1).2; omega
    · exact h.ns s hs g h1 h3
  · exact Own.ge h.ex.size h.vb g (ho g hg)
/-- the maker is empty again -/
theorem RsAt.empty (h : RsAt w W mb r v vo ss) (hm : MkAt W1 mb Mk.zero (.slice none 0 0)) (ht : Mut mb W W1) {n : Nat} : RsAt w W1 mb ⟨Mk.zero, r.out, n⟩ (.slice none 0 0) vo ss := by
  have mv : ∀ {b : Nat} {u : Value} {e : TypeId} {s n : Nat} {xs : List Value}, W.ownsRow b e s u n xs → 26 ≠ e → W1.ownsRow b e s u n xs := fun h1 h2 => own_move h1 (fun k hk => ht.block k (World.ownsRow.lt h1 k hk).2 (fun e => own_blk_ne h1 h.mka.blk h2 (by rw [hk]; exact e)))
  exact ⟨hm, mv h.out (by decide), fun s hs => mv (h.row s hs) (by decide), fun s hs g _ h2 => (by cases h2), h.ls, fun g hg => (by cases hg), h.mbb, Mut_trans ht h.ex h.mbb⟩
/-- a record more -/
theorem RsAt.add {m : Mk} {n : Nat} {out : List (List Int)} (h : RsAt w W mb ⟨m, out, n⟩ (.slice none 0 0) vo ss) (s : Sb) (hs : W.ownsRow 0 5 1 s.v s.l.length (u8s s.l)) (hq : W1.ownsRow w.heap.size 24 1 vo' (ss.length + 1) (ss.map Sb.v ++ [s.v])) (hg : W.grownBy W1 vo.ownBlock) :
    RsAt w W1 mb ⟨m, out ++ [s.l], n⟩ (.slice none 0 0) vo' (ss ++ [s]) := by
  have mv : ∀ a : Sb, W.ownsRow 0 5 1 a.v a.l.length (u8s a.l) → W1.ownsRow 0 5 1 a.v a.l.length (u8s a.l) := fun a ha =>
    own_move ha (fun k hk => hg.block k (World.ownsRow.lt ha k hk).2 (fun e => own_same ha h.out (by decide) k hk e.symm))
  refine ⟨⟨h.mka.blk.grown hg (fun e => own_blk_ne h.out h.mka.blk (by decide) e.symm), ?_, h.mka.len⟩, ?_, fun a ha => ?_, fun a ha g _ h2 => (by cases h2), ?_, h.vb, h.mbb, h.ex.grown hg h.ex.size (fun g hg => (own_base h.out g hg).1)⟩
  · exact own_move h.mka.row (fun k hk => (by cases hk))
  · rw [List.length_append, List.map_append]; exact hq
  · rcases List.mem_append.1 ha with ha | ha
    · exact mv a (h.row a ha)
    · rw [List.mem_singleton.1 ha]; exact mv s hs
  · rw [List.map_append, h.ls]; rfl
end
theorem infoS : (Try.prog.info? 24).map (fun i => (i.zero, i.size, i.bytes)) = some (some (.slice none 0 0), 1, 24) := by kernel_rfl
theorem Rs.takes_snoc (r : Rs) (es : List Ev) (e : Ev) : r.takes (es ++ [e]) = (r.takes es).take e := List.foldl_append
theorem Rs.one {r : Rs} {e : Ev} (h : e.kind = 1) : r.take e = { r with m := r.m.add e.bytes } := by unfold Rs.take; rw [if_pos h]
theorem Rs.two {r : Rs} {e : Ev} (h : e.kind = 2) (hl : r.m.long = false) : r.take e = { m := Mk.zero, out := r.out ++ [r.m.b], n := r.n } := by unfold Rs.take; rw [if_neg (by omega), if_pos h, hl]; rfl
theorem Rs.two' {r : Rs} {e : Ev} (h : e.kind = 2) (hl : r.m.long = true) : r.take e = { m := Mk.zero, out := r.out, n := r.n + 1 } := by unfold Rs.take; rw [if_neg (by omega), if_pos h, hl]; rfl
theorem Rs.none {r : Rs} {e : Ev} (h : e.kind ≠ 1) (h2 : e.kind ≠ 2) : r.take e = r := by unfold Rs.take; rw [if_neg h, if_neg h2]
def RAllP (W : World) (es : List Ev) (e : Ending) (w' : World) : Prop :=
  ∃ (v : Value) (ss : List Sb), e = .returned (.tuple #[v, .int .i64 (Rs.zero.takes es).n]) ∧ w'.ownsRow W.heap.size 24 1 v ss.length (ss.map Sb.v) ∧ (∀ s ∈ ss, w'.ownsRow 0 5 1 s.v s.l.length (u8s s.l)) ∧ ss.map Sb.l = (Rs.zero.takes es).out ∧ Ext W w'
set_option maxRecDepth 100000 in
set_option maxHeartbeats 8000000 in
theorem RAll_any {W : World} {vo : Value} {ms : List Em} (h : EvR W vo ms) (hn : ms.length ≤ 100000) (hb : ∀ m ∈ ms, m.e.bytes.length ≤ 100000) : Calls Try.prog 23 #[vo] W (RAllP W (ms.map Em.e)) := by
  obtain ⟨A, c, rfl, hc, hr, hm⟩ := h
  obtain ⟨i0, hi, hz0, hz1, hz2⟩ := info_parts infoS
  have HR := Lib.hid hr
  have HM := Lib.hid hm
  have HB := Lib.hid hb
  clear hr hm hc hb
  go_enter Try.func23, Try.ntmps23
  go_wp2_with fail
  have HN := Lib.hid (MkAt.new W)
  go_loopw [5, 6, 8, 9, 10, 11, 14] (fun v5 v6 _ _ _ _ v wr => ∃ (k : Nat) (r : Rs) (vm : Value) (ss : List Sb), k ≤ ms.length ∧ v = .int .i64 k ∧ v6 = .int .i64 r.n ∧ Hid (RsAt W wr W.heap.size r vm v5 ss) ∧ Hid (r = Rs.zero.takes ((ms.take k).map Em.e)) ∧ r.n ≤ k ∧ ss.length ≤ k) (fun _ _ _ _ _ _ v _ => ms.length - (intOf v).toNat)
  case atStart => exact ⟨0, Rs.zero, .slice none 0 0, [], Nat.zero_le _, rfl, rfl, ⟨HN.out, own_nil _ _ _ _, fun s hs => (by cases hs), fun s hs => (by cases hs), rfl, fun g hg => (by cases hg), Nat.le_refl _, Ext_alloc (Ext_refl W)⟩, Lib.hid rfl, Nat.le_refl _, Nat.le_refl _⟩
  case round =>
    clear HN
    obtain ⟨k, r, vm, ss, hk, rfl, rfl, HRs, HE, hrn, hsl⟩ := hrel
    obtain ⟨A5, c5, rfl⟩ := Go.Proofs.YthkioahpnbahhaaW.PrintWords.own_slice HRs.out.out
    by_cases hlt : k < ms.length
    · obtain ⟨m, hx⟩ : ∃ m, ms[k]? = some m := ⟨_, List.getElem?_eq_getElem hlt⟩
      obtain ⟨bb, o, hA, hcell⟩ := (Rd_ext HRs.out.ex HR.out).elem Em.enc (fun _ => rfl) hlt hx
      have hmem : m ∈ ms := List.mem_of_getElem? hx
      have hmr := HM.out m hmem
      have hmb := HB.out m hmem
      have HTK := Lib.hid (show Rs.zero.takes ((ms.take (k + 1)).map Em.e) = r.take m.e by rw [List.take_add_one, hx, Option.toList_some, List.map_append, List.map_singleton, Rs.takes_snoc, ← HE.out])
      have hwk : IntKind.i64.wrap ((k : Int) + 1) = ((k + 1 : Nat) : Int) := IntWalk.i64_in _ (by omega)
      obtain ⟨⟨kd, co, op, l⟩, Am, cm⟩ := m
      have k0 := hcell 0 _ rfl
      have k1 := hcell 1 _ rfl
      have k2 := hcell 2 _ rfl
      have k3 := hcell 3 _ rfl
      simp only [Nat.add_zero, Em.v] at k0 k1 k2 k3
      subst hA
      have HMR := Lib.hid hmr.1
      have hmc : l.length ≤ cm := hmr.2
      have hml : l.length ≤ 100000 := hmb
      clear hcell hx hmem hmr hmb
      go_wp2_with fail
      by_cases c1 : kd = 1
      · subst c1
        refine (Take_data (HRs.out.mka.ext (Ext_alloc (Ext_refl _))) co op Am cm l hml hmc (Rd_ext (Ext_alloc HRs.out.ex) HMR.out)).mono ?_
        rintro e w3 ⟨he, v3, hv3, ho3, ht3⟩
        unfold Nothing at he
        subst he
        have HR3 := Lib.hid ((HRs.out.step (Ext_alloc (Ext_refl _))).data hv3 ho3 ht3)
        clear hv3 ho3 ht3 k0 k1 k2 k3 HRs
        go_wp2_with fail
        refine ⟨⟨k + 1, { r with m := r.m.add l }, v3, ss, by omega, by go_num, rfl, HR3, Lib.hid ?_, by show r.n ≤ _; omega, by omega⟩, by simp [intOf]; omega⟩
        rw [HTK.out, Rs.one rfl]
      · by_cases c2 : kd = 2
        · subst c2
          obtain ⟨Av, cv, hvm⟩ := Go.Proofs.YthkioahpnbahhaaW.PrintWords.own_slice HRs.out.mka.row
          refine (Take_end (HRs.out.mka.ext (Ext_alloc (Ext_refl _))) co op Am cm l.length).mono ?_
          rintro e w3 ⟨he, hz3, hv3, hm3⟩
          cases hlg : r.m.long
          · rw [hlg, hvm] at he
            simp only [Bool.false_eq_true, if_false] at he
            subst he
            obtain ⟨lb, hlb⟩ : ∃ lb, r.m.b = lb := ⟨_, rfl⟩
            rw [hvm, hlb] at hv3
            rw [hlb]
            have HR3 := Lib.hid ((HRs.out.step (Ext_alloc (Ext_refl _))).empty hz3 hm3 (n := r.n))
            have HV3 := Lib.hid hv3
            have HT := Lib.hid (HTK.out.trans (Rs.two rfl hlg))
            have HLB := Lib.hid hlb
            have hz : W.heap.size ≤ w3.heap.size := HR3.out.ex.size
            clear hz3 hv3 hm3 k0 k1 k2 k3 HRs hlg hvm hlb
            go_wp2_with (at_builtin; go_must (refine list_append_at W.heap.size rfl (.tmp 29) (.tmp 31) 34 rfl 24 i0 _ 1 24 Try.underlying34 hi hz0 hz1 hz2 rfl (by decide) (.slice A5 ss.length c5) ss.length (ss.map Sb.v) (by rfl) (own_alloc HR3.out.out _) ⟨w3.heap.size, 0, none⟩ 1 1 [.slice Av lb.length cv] (by rfl) rfl (by exact World.news_of_block (heap_alloc_new w3 (.cells #[.slice Av lb.length cv] 24))) (by intro u hu; rw [List.mem_singleton.1 hu]; rfl) (by unfold maxLen; omega) (by omega) (by simp; omega) ?_); intro A6 c6 w6 hq hg; have HQ := Lib.hid ((HR3.out.step (Ext_alloc (o := .cells #[.slice Av lb.length cv] 24) (Ext_refl w3))).add ⟨Av, cv, lb⟩ (own_alloc HV3.out _) hq hg); clear hq hg)
            refine ⟨⟨k + 1, ⟨Mk.zero, r.out ++ [lb], r.n⟩, .slice none 0 0, ss ++ [⟨Av, cv, lb⟩], by omega, by go_num, rfl, Lib.hid ?_, Lib.hid ?_, by show r.n ≤ _; omega, by rw [List.length_append, List.length_singleton]; omega⟩, by simp [intOf]; omega⟩
            · exact HQ.out
            · rw [HT.out, HLB.out]
          · rw [hlg] at he
            simp only [if_true] at he
            subst he
            have HR3 := Lib.hid ((HRs.out.step (Ext_alloc (Ext_refl _))).empty hz3 hm3 (n := r.n + 1))
            have HT := Lib.hid (HTK.out.trans (Rs.two' rfl hlg))
            have hwn : IntKind.i64.wrap ((r.n : Int) + 1) = ((r.n + 1 : Nat) : Int) := IntWalk.i64_in _ (by omega)
            clear hz3 hv3 hm3 k0 k1 k2 k3 HRs hlg hvm
            go_wp2_with fail
            refine ⟨⟨k + 1, ⟨Mk.zero, r.out, r.n + 1⟩, .slice none 0 0, ss, by omega, by go_num, by go_num, HR3, Lib.hid ?_, by show r.n + 1 ≤ _; omega, by omega⟩, by simp [intOf]; omega⟩
            rw [HT.out]
        · refine (Take_other _ _ kd co op c1 c2 Am cm l.length).mono ?_
          rintro e w3 ⟨he, hx3⟩
          unfold Nothing at he
          subst he
          have HR3 := Lib.hid (HRs.out.step (Ext_trans hx3 (Ext_alloc (Ext_refl _))))
          have HT := Lib.hid (HTK.out.trans (Rs.none (by exact c1) (by exact c2)))
          clear hx3 k0 k1 k2 k3 HRs c1 c2
          go_wp2_with fail
          refine ⟨⟨k + 1, r, vm, ss, by omega, by go_num, rfl, HR3, Lib.hid ?_, by omega, by omega⟩, by simp [intOf]; omega⟩
          rw [HT.out]
    · have hke : k = ms.length := by omega
      subst hke
      rw [List.take_length] at HE
      have HE2 := Lib.hid HE.out
      clear HE hlt hk
      go_wp2_with fail
      refine bodyPost_ret (v := .tuple #[.slice A5 ss.length c5, .int .i64 r.n]) (by simp [results, Try.results23, go_sem]) rfl ?_
      refine ⟨_, ss, by rw [← HE2.out], HRs.out.out, HRs.out.row, by rw [← HE2.out]; exact HRs.out.ls, HRs.out.ex⟩
def lastB (es : List Ev) : Bool := match es.getLast? with
  | some e => e.kind != 2
  | none => false
def splitBad (b : List Int) : Bool := ((Dec.zero.takes b).at_ != 0) || lastB (Dec.zero.takes b).out
def splitOut (b : List Int) : List (List Int) := if splitBad b then [] else (Rs.zero.takes (Dec.zero.takes b).out).out
def splitN (b : List Int) : Nat := if splitBad b then 0 else (Rs.zero.takes (Dec.zero.takes b).out).n
def splitE (b : List Int) : Int := if splitBad b then 20 else 0
def SplitP (W : World) (b : List Int) (e : Ending) (w' : World) : Prop :=
  ∃ (v : Value) (ss : List Sb), e = .returned (.tuple #[v, .int .i64 (splitN b), .int .i64 (splitE b)]) ∧ w'.ownsRow W.heap.size 24 1 v ss.length (ss.map Sb.v) ∧ (∀ s ∈ ss, w'.ownsRow 0 5 1 s.v s.l.length (u8s s.l)) ∧ ss.map Sb.l = splitOut b ∧ Ext W w'
set_option maxRecDepth 100000 in
set_option maxHeartbeats 8000000 in
theorem Split_any (A : Option Addr) (c : Nat) (b : List Int) (hb : b.length ≤ 40000) (hc : b.length ≤ c) (W : World) (hr : Rd W 1 A b.length (u8s b)) : Calls Try.prog 18 #[.slice A b.length c] W (SplitP W b) := by
  have HR := Lib.hid hr
  have HL0 := Lib.hid (fun (h : 0 < b.length) => Rd.lt hr h)
  have HD0 := Lib.hid (DecR.fresh W)
  clear hr
  go_enter Try.func18, Try.ntmps18
  go_wp2_with fail
  refine (Feed_new HD0.out A c b hb hc (Rd_ext (Ext_alloc (Ext_refl W)) HR.out) (fun h0 ad e => by have := HL0.out h0 ad e; omega)).mono ?_
  rintro e w1 ⟨vo, ms, vs, rfl, hd1, he1, hm1, hv1, hx1⟩
  have HX1 : Hid (Ext W w1) := Lib.hid (Mut_trans hx1 (Ext_alloc (Ext_refl W)) (Nat.le_refl _))
  have HD1 := Lib.hid hd1
  have HE1 := Lib.hid he1.rd
  have HM1 := Lib.hid hm1
  have hsm := out_small hm1
  have hn1 : ms.length ≤ 100000 := by have := hsm.1; omega
  have HB1 : Hid (∀ m ∈ ms, m.e.bytes.length ≤ 100000) := Lib.hid (fun m hm => by have := hsm.2 m hm; omega)
  obtain ⟨A1, c1, hvo⟩ := Go.Proofs.YthkioahpnbahhaaW.PrintWords.own_slice he1.out
  subst hvo
  clear hd1 he1 hm1 hv1 hx1 hsm HD0
  have bad : ∀ (hbad : splitBad b = true) (w2 : World), Ext W w2 → SplitP W b (.returned (.tuple #[.slice none 0 0, .int .i64 0, .int .i64 20])) w2 := fun hbad w2 hx => by
    refine ⟨.slice none 0 0, [], ?_, own_nil _ _ _ _, fun s hs => (by cases hs), ?_, hx⟩
    · unfold splitN splitE
      rw [if_pos hbad, if_pos hbad]
      rfl
    · unfold splitOut
      rw [if_pos hbad]
      rfl
  have good : ∀ (hbad : splitBad b = false) (w2 : World) (e2 : Ending) (v : Value) (n : Nat), RAllP w1 (ms.map Em.e) (.returned (.tuple #[v, .int .i64 n])) w2 → n = (Rs.zero.takes (ms.map Em.e)).n → SplitP W b (.returned (.tuple #[v, .int .i64 n, .int .i64 0])) w2 := fun hbad w2 e2 v n hp hn => by
    obtain ⟨v', ss, he, h1, h2, h3, h4⟩ := hp
    have hbn : ¬ (splitBad b = true) := by rw [hbad]; decide
    injection he with he
    injection he with he
    have hv : v = v' := by
      have := congrArg (fun (a : Array Value) => a.toList.head?) he
      simpa using this
    subst hv
    rw [HM1.out] at h3 hn
    refine ⟨v, ss, ?_, Go.Proofs.YthkioahpnbahhaaW.PrintWords.own_weaken h1 HX1.out.size, h2, ?_, Ext_trans h4 HX1.out⟩
    · unfold splitN splitE
      rw [if_neg hbn, if_neg hbn, hn]
    · unfold splitOut
      rw [if_neg hbn]
      exact h3
  have BAD := Lib.hid bad
  have GOOD := Lib.hid good
  clear bad good
  have hbd : splitBad b = (((Dec.zero.takes b).at_ != 0) || lastB (ms.map Em.e)) := by unfold splitBad; rw [HM1.out]
  have HBD := Lib.hid hbd
  clear hbd
  obtain ⟨op, hop⟩ : ∃ op, ((({ Dec.zero.takes b with out := [] } : Dec)).at_ != 0) = op := ⟨_, rfl⟩
  have hop2 : ((Dec.zero.takes b).at_ != 0) = op := hop
  have HOP := Lib.hid hop
  have HOP2 := Lib.hid hop2
  clear hop hop2
  go_wp2_with fail
  refine (DOpen_any HD1.out).mono ?_
  rintro e wq ⟨rfl, rfl⟩
  rw [HOP.out]
  cases op
  case true =>
    have hbt : splitBad b = true := by rw [HBD.out, HOP2.out]; rfl
    have HBT := Lib.hid hbt
    clear hbt
    go_wp2_with fail
    refine bodyPost_ret (v := .tuple #[.slice none 0 0, .int .i64 0, .int .i64 20]) (by simp [results, Try.results18, go_sem]) rfl ?_
    exact BAD.out HBT.out _ HX1.out
  case false =>
    have hcases : ms = [] ∨ ∃ ms0 m, ms = ms0 ++ [m] := by
      rcases List.eq_nil_or_concat ms with e | ⟨ms0, m, e⟩
      · exact .inl e
      · exact .inr ⟨ms0, m, by rw [e, List.concat_eq_append]⟩
    rcases hcases with hm0 | ⟨ms0, m, hm0⟩
    · have hbf : splitBad b = false := by rw [HBD.out, HOP2.out, hm0]; rfl
      have HBF := Lib.hid hbf
      subst hm0
      clear hbf
      go_wp2_with fail
      refine (RAll_any HE1.out hn1 HB1.out).mono ?_
      rintro e w2 hp
      have hp' := hp
      obtain ⟨v2, ss, rfl, _⟩ := hp
      have HG := Lib.hid (GOOD.out HBF.out w2 (.returned .nilIface) v2 _ hp' rfl)
      obtain ⟨nn, hnn⟩ : ∃ nn : Nat, (Rs.zero.takes (([] : List Em).map Em.e)).n = nn := ⟨_, rfl⟩
      rw [hnn] at HG ⊢
      clear hp' hnn
      go_wp2_with fail
      refine bodyPost_ret (v := .tuple #[v2, .int .i64 nn, .int .i64 0]) (by simp [results, Try.results18, go_sem]) rfl ?_
      exact HG.out
    · have hbf : splitBad b = (m.e.kind != 2) := by
        rw [HBD.out, HOP2.out, hm0, List.map_append]
        unfold lastB
        simp
      subst hm0
      have hll : (ms0 ++ [m]).length = ms0.length + 1 := by simp
      obtain ⟨_, _, hvx, _, hgr, _⟩ := HE1.out
      injection hvx with hv1 _ hv2
      subst hv1
      subst hv2
      obtain ⟨bb, o, hA, hcell⟩ := hgr.elem Em.enc (fun _ => rfl) (i := ms0.length) (by simp) (by simp : (ms0 ++ [m])[ms0.length]? = some m)
      have k0 := hcell 0 _ rfl
      simp only [Nat.add_zero] at k0
      subst hA
      have hw : IntKind.i64.wrap (ms0.length : Int) = (ms0.length : Int) := IntWalk.i64_in _ (by omega)
      have hb1 : (ms0.length : Int) < (ms0.length : Int) + 1 := by omega
      have hpos : (0 : Int) < (ms0.length : Int) + 1 := by omega
      rw [hll] at HE1 ⊢
      clear hcell hgr
      by_cases h2 : m.e.kind = 2
      · have q2 : (m.e.kind != 2) = false := by simp [h2]
        have HBF := Lib.hid (hbf.trans q2)
        clear hbf h2
        go_wp2_with fail
        refine (RAll_any HE1.out hn1 HB1.out).mono ?_
        rintro e w2 hp
        have hp' := hp
        obtain ⟨v2, ss, rfl, _⟩ := hp
        have HG := Lib.hid (GOOD.out HBF.out w2 (.returned .nilIface) v2 _ hp' rfl)
        obtain ⟨nn, hnn⟩ : ∃ nn : Nat, (Rs.zero.takes ((ms0 ++ [m]).map Em.e)).n = nn := ⟨_, rfl⟩
        rw [hnn] at HG ⊢
        clear hp' hnn
        go_wp2_with fail
        refine bodyPost_ret (v := .tuple #[v2, .int .i64 nn, .int .i64 0]) (by simp [results, Try.results18, go_sem]) rfl ?_
        exact HG.out
      · have q2 : (m.e.kind != 2) = true := by simpa using h2
        have HBT := Lib.hid (hbf.trans q2)
        clear hbf h2
        go_wp2_with fail
        refine bodyPost_ret (v := .tuple #[.slice none 0 0, .int .i64 0, .int .i64 20]) (by simp [results, Try.results18, go_sem]) rfl ?_
        exact BAD.out HBT.out _ HX1.out
end Go.Proofs.Ythkioahpnbahhaa
