/- Chapter 19: CaretRounds. -/
import Derived.Test.YtmcfckdgolojlaaQ6
import Derived.Test.YtmcfckdgolojlaaS5
import Derived.Maps.AppendAt
import Derived.Deep.RegionHeld3
namespace Go.Proofs.Ytmcfckdgolojlaa
set_option linter.unusedVariables false
set_option linter.unusedSimpArgs false
open Go.RowKit
open Go.Maps (Keyed)
theorem point_opensL (p : Pl) (q : Int) : (p.point q).opensL = p.opensL := by unfold Pl.point; split <;> rfl
theorem PlAt.below {B : Nat} {w w' : World} {g c : Nat} {p : Pl} (h : PlAt w g c p) (k : Below B w w') (hg : g < B) (hc : c < B) : PlAt w' g c p := ⟨(k.block g hg).trans h.obj, (k.block c hc).trans h.row, h.ok⟩
theorem own_below {B : Nat} {w w1 : World} {base : Nat} {e : TypeId} {size n : Nat} {v : Value} {xs : List Value} (h : w.ownsRow base e size v n xs) (k : Below B w w1) (hl : ∀ g, v.ownBlock = some g → g < B) : w1.ownsRow base e size v n xs := by
  refine ⟨h.1, ?_⟩
  rcases h.2 with h1 | ⟨g, cap, cur, rfl, h2, h3, h4⟩
  · exact .inl h1
  · exact .inr ⟨g, cap, cur, rfl, h2, (k.block g (hl g rfl)).trans h3, h4⟩
theorem lookup_bool {P : Program} {w : World} {k t e : TypeId} {b n : Nat} {D : DataW Unit} (h : w.ownsMap P k (plainElem P e) b n D) (K : Keyed P k) (ht : P.underlying t = some (.map k e)) (he : P.underlying e = some .bool) (hz : (zeroValue e).run P w = .ok (.bool false) w)
    {key : Value} {kl : Lit} (hkey : keyOf P k key = some kl) {x : Bool} (hat : D.atKey kl (.lit (.bool false)) = .lit (.bool x)) : (Instr.lookup t (.map (some b)) key false).run P w = .ok (.bool x) w := by
  obtain ⟨v, ps, hrun, hv⟩ := h.lookup K ht hz (zd := .lit (.bool false)) (zp := []) (by simp [plainElem, he]) hkey
  rw [hat] at hv
  unfold plainElem at hv
  rw [he] at hv
  cases v <;> simp at hv
  rw [hv.1] at hrun
  exact hrun
theorem wf_i64 {n : Int} (h : -9223372036854775808 ≤ n ∧ n ≤ 9223372036854775807) : (Lit.int .i64 n).wf = true := by
  show (decide (IntKind.i64.min ≤ n) && decide (n ≤ IntKind.i64.max)) = true
  rw [Bool.and_eq_true, decide_eq_true_eq, decide_eq_true_eq]
  exact h
theorem map_below {B : Nat} {w w' : World} {P : Program} {k : TypeId} {R : Value → Option (DataW Unit × List MemPlace)} {b n : Nat} {D : DataW Unit} (h : w.ownsMap P k R b n D) (hx : Below B w w') (hb : b < B) : w'.ownsMap P k R b n D := by
  obtain ⟨es, clock, h1, h2⟩ := h
  exact ⟨es, clock, (hx.block b hb).trans h1, h2⟩
theorem cell_chg {l : List Nat} {w w1 : World} {a : Addr} {v : Value} (h : Chg l w w1) (hn : a.block ∉ l) (hc : w.cell? a = some v) : w1.cell? a = some v := (World.cell?_of_block (w := w) (h.block a.block (lt_of_cell hc) hn)).trans hc
theorem map_chg {l : List Nat} {w w' : World} {P : Program} {k : TypeId} {R : Value → Option (DataW Unit × List MemPlace)} {b n : Nat} {D : DataW Unit} (h : w.ownsMap P k R b n D) (hx : Chg l w w') (hb : b ∉ l) : w'.ownsMap P k R b n D := by
  have hlt := h.lt
  obtain ⟨es, clock, h1, h2⟩ := h
  exact ⟨es, clock, (hx.block b hlt hb).trans h1, h2⟩
theorem keyLaw : Keyed Try.prog 3 := Maps.int_keyed Try.underlying3
set_option maxRecDepth 100000 in
theorem zeroBool (w : World) : (zeroValue 4).run Try.prog w = .ok (.bool false) w := by kernel_rfl
set_option maxRecDepth 100000 in
set_option maxHeartbeats 4000000 in
theorem CaretRounds_any (r c at_ : Int) (A : Option Addr) (d : Nat) (cs : List Cel) (hcs : ∀ x ∈ cs, 0 ≤ x.b ∧ x.b < 256) (hcl : cs.length ≤ maxLen) (w : World) (hr : Rd w 5 A cs.length (cs.flatMap Cel.enc)) :
    Calls Try.prog 3 #[.agg #[.int .i64 r, .int .i64 c], .slice A cs.length d, .int .i64 at_] w (Ret (.bool true) w) := by
  have hmm := @run_makeMap Try.prog
  have HCS := Lib.hid hcs
  have HCL := Lib.hid hcl
  have HR := Lib.hid (fun w' (h : Ext w w') => Rd_ext h hr)
  have HX := Lib.hid (Ext_refl w)
  clear hcs hcl hr
  go_enter Try.func3, Try.ntmps3
  go_wp2_with fail
  refine (alive_any _).mono ?_
  rintro e wn ⟨rfl, hb⟩
  have hz0 : w.heap.size < wn.heap.size := (by have := hb.size; (try simp only [World.size_alloc, World.size_setCell, World.size_drew, size_drewN] at this); omega); have hc0_0 : wn.cell? ⟨w.heap.size, 0, none⟩ = some (.int .i64 r) := (cell_ext hb (by unfold In; first | omega | (simp; done) | (simp; omega))).trans (by go_simp); have hf0_0 : wn.frozen? ⟨w.heap.size, 0, none⟩ = false := (frozen_ext hb (by unfold In; first | omega | (simp; done) | (simp; omega))).trans (by go_simp); have hc0_1 : wn.cell? ⟨w.heap.size, 1, none⟩ = some (.int .i64 c) := (cell_ext hb (by unfold In; first | omega | (simp; done) | (simp; omega))).trans (by go_simp); have hf0_1 : wn.frozen? ⟨w.heap.size, 1, none⟩ = false := (frozen_ext hb (by unfold In; first | omega | (simp; done) | (simp; omega))).trans (by go_simp); have HXn := Lib.hid (Ext_trans hb (by repeat' (first | (with_reducible first | exact HX.out | apply Ext_alloc | apply Ext_drewN | apply Ext_drew | (refine Ext_set ?_ ?_) | exact Ext_refl _) | (simp only [World.size_alloc, World.size_setCell, World.size_drew, size_drewN]; omega) | (simp; done) | (simp; omega)))); clear hb HX; have HX := HXn; clear HXn
  go_wp2_with fail
  refine (made_any r c at_ A d cs HCS.out HCL.out _ (HR.out _ HX.out)).mono ?_
  rintro e w3 (⟨a, b, v, k, rfl, ⟨A1, n1, d1, rfl⟩, hb⟩ | ⟨g, b, x, p, rfl, hP, hx, hb, hg, hbb, hxx, hne1, hne2, hp6⟩)
  · have HXn := Lib.hid (Ext_trans hb (by repeat' (first | (with_reducible first | exact HX.out | apply Ext_alloc | apply Ext_drewN | apply Ext_drew | (refine Ext_set ?_ ?_) | exact Ext_refl _) | (simp only [World.size_alloc, World.size_setCell, World.size_drew, size_drewN]; omega) | (simp; done) | (simp; omega)))); clear hb HX; have HX := HXn; clear HXn
    go_wp2_with fail
    go_ret
    exact ⟨rfl, (by repeat' (first | (with_reducible first | exact HX.out | apply Ext_alloc | apply Ext_drewN | apply Ext_drew | (refine Ext_set ?_ ?_) | exact Ext_refl _) | (simp only [World.size_alloc, World.size_setCell, World.size_drew, size_drewN]; omega) | (simp; done) | (simp; omega)))⟩
  go_wp2_with fail
  have hws : w.heap.size ≤ wn.heap.size := HX.out.size
  have hg' : w.heap.size ≤ g := by omega
  have hb' : w.heap.size ≤ b := by omega
  have hl3 : g < w3.heap.size ∧ b < w3.heap.size ∧ x < w3.heap.size := ⟨hP.obj.lt, hP.row.lt, hx.lt⟩
  have hE := Ext_alloc (o := .cells #[.int .i64 p.rows, .int .i64 p.cols, .slice (some ⟨x, 0, none⟩) p.cells.length p.cells.length, .int .i64 p.cur] 28) (Ext_refl w3)
  have HP := Lib.hid (hP.ext hE)
  have HXC := Lib.hid (Blk.below' hx hE)
  have HBX := Lib.hid (Blk.new w3 28 #[.int .i64 p.rows, .int .i64 p.cols, .slice (some ⟨x, 0, none⟩) p.cells.length p.cells.length, .int .i64 p.cur])
  have HE := Lib.hid (Ext_trans hE (Ext_trans hb HX.out))
  have HOK := Lib.hid hP.ok
  have HBY := Lib.hid hP.ok.by_
  have hn0 := hP.ok.sz.n0
  have hlx : w3.heap.size ∉ [g, b] := by simp; omega
  have hxl : x ∉ [g, b] := by simp; omega
  have hgl : ∀ i, i ∈ [g, b] → w.heap.size ≤ i := by intro i hi; simp at hi; omega
  have hgu : ∀ i, i ∈ [g, b] → i < w3.heap.size := by intro i hi; simp at hi; omega
  have hc4 : p.cells.length ≤ 4096 := by omega
  clear hP hx hE hb HX hg hbb hxx hne1 hne2 hl3 HCS HCL HR
  generalize w3.heap.size = bx at *
  generalize w3.alloc (.cells #[.int .i64 p.rows, .int .i64 p.cols, .slice (some ⟨x, 0, none⟩) p.cells.length p.cells.length, .int .i64 p.cur] 28) = W4 at *
  have hbw : w.heap.size ≤ W4.heap.size := HE.out.size
  refine (Opens_any x p hc4 HBY.out _ HXC.out).mono ?_
  rintro e w5 ⟨A5, c5, rfl, ho, hb⟩
  have hgb : g < W4.heap.size ∧ b < W4.heap.size := ⟨HP.out.obj.lt, HP.out.row.lt⟩
  have HO5 := Lib.hid ho
  have HP5 := Lib.hid (HP.out.ext hb)
  have HE5 := Lib.hid (Ext_trans hb HE.out)
  clear ho hb HP HXC HBX HE
  have hgo : ∀ i, i ∈ [g, b] → i < W4.heap.size := by intro i hi; simp at hi; omega
  generalize W4.heap.size = bo at *
  have hn6 : p.n ≤ 60 := by have : p.n = (p.cells.length : Int) := rfl; omega
  have hml : p.opensL.length ≤ 60 := by have h1 := opens_len p (p.starts p.cells.length).length; have h2 := starts_len p p.cells.length; unfold Pl.opensL; omega
  rcases Nat.eq_zero_or_pos p.opensL.length with hln | hln
  · go_wp2_with fail
    refine (Tab_any g b p _ HP5.out).mono ?_
    rintro e w6 ⟨rfl, hs, hch⟩
    rw [seekM_none HBY.out hln hn0] at hs ⊢
    have HP6 := Lib.hid hs
    have HE6 := Lib.hid (hch.ext HE5.out hgl)
    clear hs hch HP5 HE5
    go_wp2_with fail
    refine (Back_any g b _ _ HP6.out).mono ?_
    rintro e w7 ⟨rfl, hs, hch⟩
    rw [backM_none (p := p.point 0) HP6.out.ok.by_ (by rw [point_opensL]; exact hln) (by rw [point_n]; exact hn0)]
    have HE7 := Lib.hid (hch.ext HE6.out hgl)
    clear hs hch HP6 HE6
    go_wp2_with fail
    go_ret
    exact ⟨rfl, HE7.out⟩
  · obtain ⟨m, hm⟩ : ∃ m, p.opensL.length = m + 1 := ⟨p.opensL.length - 1, by omega⟩
    obtain ⟨i0, hi0, hfirst⟩ := first_tabd HBY.out hln
    have HM := Lib.hid hm
    have hm60 : m < 60 := by omega
    have hO := HO5.out
    rw [hm] at hO
    have HO := Lib.hid hO
    rw [hm]
    clear hm hO HO5
    go_wp2_with fail
    refine (Tab_any g b p _ HP5.out).mono ?_
    rintro e w6 ⟨rfl, hs, hch⟩
    rw [hfirst] at hs ⊢
    have HP6 := Lib.hid hs
    have HE6 := Lib.hid (hch.ext HE5.out hgl)
    have HO6 := Lib.hid (own_chg HO.out hch hgo)
    clear hs hch HP5 HE5 HO hfirst
    go_wp2_with fail
    have hbs := HE6.out.size
    have hob := own_base HO6.out
    have HA5 := Lib.hid (fun k hk => (hob k hk).2)
    have hgs : g < w6.heap.size ∧ b < w6.heap.size := ⟨HP6.out.obj.lt, HP6.out.row.lt⟩
    have hE := Ext_alloc (o := .cells #[.int .i64 (p.tabd i0 0)] 3) (Ext_refl w6)
    have HS7 := Lib.hid (show (w6.alloc (.cells #[.int .i64 (p.tabd i0 0)] 3)).ownsRow w6.heap.size 3 1 (.slice (some ⟨w6.heap.size, 0, none⟩) 1 1) 1 (i64s (p.seen i0 1)) from World.ownsRow_lit w6 _ 1 (Nat.le_refl _) (by decide) rfl)
    have HP7 := Lib.hid (HP6.out.ext hE)
    have HO7 := Lib.hid (own_ext HO6.out hE)
    have HE7 := Lib.hid (Ext_trans hE HE6.out)
    have hgz : ∀ i, i ∈ [g, b] → i < w6.heap.size := by intro i hi; simp at hi; omega
    have HZ7 := Lib.hid (hE.size)
    clear hE HP6 HO6 HE6 hob
    generalize w6.heap.size = bs at *
    generalize w6.alloc (.cells #[.int .i64 (p.tabd i0 0)] 3) = W7 at *
    go_loopw [12, 51] (fun v12 v51 wr => ∃ k : Nat, k ≤ m ∧ v51 = .int .i64 k ∧ Hid (wr.ownsRow bs 3 1 v12 (k + 1) (i64s (p.seen i0 (k + 1)))) ∧ Hid (PlAt wr g b (p.point (p.tabd i0 k))) ∧
        Hid (wr.ownsRow bo 3 1 (.slice A5 (m + 1) c5) (m + 1) (i64s p.opensL)) ∧ Hid (Ext w wr) ∧ Hid (bs ≤ wr.heap.size)) (fun _ v _ => m - (intOf v).toNat)
    case atStart => exact ⟨0, Nat.zero_le _, rfl, HS7.out, HP7.out, HO7.out, HE7.out, HZ7.out⟩
    case round =>
      clear HS7 HP7 HO7 HE7 HZ7
      obtain ⟨k, hk, rfl, HS, HP, HO, HE, HZ⟩ := hrel
      obtain ⟨A9, c9, rfl⟩ := own_slice HS.out
      by_cases hlt : k < m
      · go_wp2_with (first
          | (go_at_call 16; refine (Tab_any g b _ _ HP.out).mono ?_; rintro e w8 ⟨rfl, hs, hch⟩
             rw [point_cur _ _ (tabd_has hn0 _ _), point_seekM, tabd_tab HBY.out hi0 (by have := HM.out; omega), point_point _ _ _ (tabd_has hn0 _ _)] at hs
             rw [point_cur _ _ (tabd_has hn0 _ _), point_seekM, tabd_tab HBY.out hi0 (by have := HM.out; omega)]
             have HP8 := Lib.hid hs
             have HE8 := Lib.hid (hch.ext HE.out hgl)
             have HO8 := Lib.hid (own_chg HO.out hch hgo)
             have HS8 := Lib.hid (own_chg HS.out hch hgz)
             have hz8 : bs ≤ w8.heap.size := Nat.le_trans HZ.out hch.size
             clear hs hch HP HE HO HS)
          | (at_builtin; refine append_one bs rfl (.tmp 53) (.tmp 56) 31 3 (.int .i64 0) 1 8 rfl Try.underlying31 infoInt rfl (by decide) (.slice A9 _ c9) _ _ [.int .i64 (p.tabd i0 (k + 1))] HS8.out (by rfl) (by rfl) rfl rfl (by rfl) (by omega) (by unfold maxLen; omega) hz8 ?_; intro g9 c9' w9 hown hg hge; have HS9 := Lib.hid hown; have HG9 := Lib.hid hg; clear hown hg))
        have hB : Below bs _ w9 := Below.grown (Below.refl bs _) HG9.out hz8 (fun g hg => (own_base HS8.out g hg).1)
        have HB := Lib.hid hB
        clear hB
        go_roundw
        case rel => exact ⟨k + 1, by omega, by go_num, by rw [seen_succ, i64s_append]; exact HS9.out, HP8.out.below HB.out hgs.1 hgs.2, own_below HO8.out HB.out HA5.out, Below.trans HE8.out (Below.mono HB.out hbs), Nat.le_trans hz8 HB.out.size⟩
        case measure => simp [intOf]; omega
      · have : m = k := by omega
        subst this
        clear hlt hk
        have HF := Lib.hid (show p.tabd i0 (m + 1) = p.tabd i0 0 by rw [← HM.out]; exact tabd_full hi0)
        go_wp2_with fail
        refine (Tab_any g b _ _ HP.out).mono ?_
        rintro e w8 ⟨rfl, hs, hch⟩
        rw [point_cur _ _ (tabd_has hn0 _ _), point_seekM, tabd_tab HBY.out hi0 (by have := HM.out; omega), point_point _ _ _ (tabd_has hn0 _ _), HF.out] at hs
        rw [point_cur _ _ (tabd_has hn0 _ _), point_seekM, tabd_tab HBY.out hi0 (by have := HM.out; omega), HF.out]
        have HP8 := Lib.hid hs
        have HE8 := Lib.hid (hch.ext HE.out hgl)
        have HO8 := Lib.hid (own_chg HO.out hch hgo)
        have HS8 := Lib.hid (own_chg HS.out hch hgz)
        have hz8 : bs ≤ w8.heap.size := Nat.le_trans HZ.out hch.size
        have hsb := own_base HS8.out
        have hob := own_base HO8.out
        have hA9 : ∀ k, (Value.slice A9 (m + 1) c9).ownBlock = some k → k < w8.heap.size := fun k hk => (hsb k hk).2
        have hA5 : ∀ k, (Value.slice A5 (m + 1) c5).ownBlock = some k → k < w8.heap.size := fun k hk => (hob k hk).2
        have HA9 := Lib.hid hA9
        have HA5' := Lib.hid hA5
        clear hs hch HP HE HO HS HZ hsb hob hA9 hA5 HA5
        go_wp2_with fail
        have hE := Ext_alloc (o := .map #[] 0) (Ext_refl w8)
        have HMP := Lib.hid (World.ownsMap_made w8 Try.prog 3 (plainElem Try.prog 4 : Value → Option (DataW Unit × List MemPlace)))
        have HP9 := Lib.hid (HP8.out.ext hE)
        have HE9 := Lib.hid (Ext_trans hE HE8.out)
        have HO9 := Lib.hid (own_ext HO8.out hE)
        have HS9 := Lib.hid (own_ext HS8.out hE)
        have hgm : g < w8.heap.size ∧ b < w8.heap.size := ⟨HP8.out.obj.lt, HP8.out.row.lt⟩
        have hwm : w.heap.size ≤ w8.heap.size := HE8.out.size
        have hmz : w8.heap.size < (w8.alloc (.map #[] 0)).heap.size := by simp
        have HMZ := Lib.hid hmz
        clear hE HP8 HE8 HO8 HS8 hmz
        generalize w8.heap.size = bm at *
        generalize w8.alloc (.map #[] 0) = W9 at *
        go_loopw [15, 66] (fun _ v66 wr => ∃ k : Nat, k ≤ m + 1 ∧ v66 = .int .i64 k ∧ Hid (wr.ownsMap Try.prog 3 (plainElem Try.prog 4) bm k (setI (p.seen i0 k))) ∧ Hid (Below bm W9 wr)) (fun _ v _ => m + 1 - (intOf v).toNat)
        case atStart => exact ⟨0, Nat.zero_le _, rfl, HMP.out, Below.refl _ _⟩
        case round =>
          obtain ⟨k, hk, rfl, HM1, HB⟩ := hrel
          have HSr := Lib.hid (own_below HS9.out HB.out HA9.out)
          by_cases hlt : k < m + 1
          · obtain ⟨ga, oa, eA, hc⟩ := (Rd.own HSr.out).2 (by omega)
            have ak := hc k _ (get_i64s (by rw [seen_len]; omega))
            rw [seen_get hlt] at ak
            cases eA
            clear hc
            have htb := tabd_in (p := p) hn0 i0 k
            have hkey : keyOf Try.prog 3 (.int .i64 (p.tabd i0 k)) = some (.int .i64 (p.tabd i0 k)) := Maps.keyOf_int_mk Try.underlying3 (wf_i64 (by omega))
            have HKY := Lib.hid hkey
            clear hkey
            go_wp2_with (at_mapUpdate; refine wpList_mapUpdate_own _ rfl _ _ _ 34 rfl 3 4 keyLaw Try.underlying34 (plainElem Try.prog 4) bm k (setI (p.seen i0 k)) rfl HM1.out (by unfold maxLen; omega) _ _ _ rfl rfl HKY.out tru [] (by rfl) ?_; intro w1 hown1 hgrow1; have HN := Lib.hid hown1; have HG := Lib.hid hgrow1; clear hown1 hgrow1)
            have HB1 := Lib.hid (Below.grown HB.out HG.out (by have := HB.out.size; have := HMZ.out; omega) (fun k hk => by cases hk; omega))
            go_roundw
            case rel => exact ⟨k + 1, by omega, by go_num, by rw [seen_succ, setI_snoc]; exact HN.out, HB1.out⟩
            case measure => simp [intOf]; omega
          · have : m + 1 = k := by omega
            subst this
            clear hlt hk
            have HPr := Lib.hid (HP9.out.below HB.out hgm.1 hgm.2)
            have HOr := Lib.hid (own_below HO9.out HB.out HA5'.out)
            have HEr := Lib.hid (Below.trans HE9.out (Below.mono HB.out hwm))
            have hzr : bm < wr.heap.size := Nat.lt_of_lt_of_le HMZ.out HB.out.size
            clear HB
            go_wp2_with fail
            rw [show (((m + 1 : Nat)) : Int) = (m : Int) + 1 from rfl]
            go_loopw [17, 75] (fun _ v75 wr => ∃ k : Nat, k ≤ m + 1 ∧ v75 = .int .i64 k ∧ Hid (PlAt wr g b (p.point (p.tabd i0 0))) ∧ Hid (wr.ownsRow bo 3 1 (.slice A5 (m + 1) c5) (m + 1) (i64s p.opensL)) ∧
                Hid (wr.ownsRow bs 3 1 (.slice A9 (m + 1) c9) (m + 1) (i64s (p.seen i0 (m + 1)))) ∧ Hid (wr.ownsMap Try.prog 3 (plainElem Try.prog 4) bm (m + 1) (setI (p.seen i0 (m + 1)))) ∧ Hid (bm < wr.heap.size) ∧ Hid (Ext w wr)) (fun _ v _ => m + 1 - (intOf v).toNat)
            case atStart => exact ⟨0, Nat.zero_le _, rfl, HPr.out, HOr.out, HSr.out, HM1.out, hzr, HEr.out⟩
            case round =>
              clear HPr HOr HSr HM1 hzr HEr
              obtain ⟨k, hk, rfl, HPr, HOr, HSr, HM1, HZR, HEr⟩ := hrel
              by_cases hlt : k < m + 1
              · have HOq := HOr
                obtain ⟨ga, oa, eA, hc⟩ := (Rd.own HOq.out).2 (by omega)
                have hkl : k < p.opensL.length := by rw [HM.out]; exact hlt
                have ak := hc k _ (get_i64s hkl)
                cases eA
                clear hc HOq
                have hob := (opens_enum HBY.out).at_ hkl
                have hin : p.ofst k ∈ p.seen i0 (m + 1) := by rw [← HM.out]; exact seen_all hi0 hkl
                have hof : p.ofst k = (p.opensL.getD k 0 + 1) % p.n := rfl
                rw [hof] at hin
                have hat := at_seen i0 _ (.lit (.bool false)) (m + 1) hin
                have h0 := hob.1
                have h1 := hob.2.1
                generalize p.opensL.getD k 0 = o at *
                have hv1 : IntKind.i64.wrap (o + 1) = o + 1 := IntWalk.i64_in _ (by omega)
                have hv2 : Int.tmod (o + 1) p.n = (o + 1) % p.n := Int.tmod_eq_emod_of_nonneg (by omega)
                have hv3 : (p.n == 0) = false := by simp; omega
                have hv4 := Int.emod_nonneg (o + 1) (by omega : p.n ≠ 0)
                have hv5 := Int.emod_lt_of_pos (o + 1) (by omega : 0 < p.n)
                have HAT := Lib.hid hat
                clear hat hin hof hob hkl
                go_wp2_with fail
                refine (Len_any g b _ _ HPr.out).mono ?_
                rintro e wl ⟨rfl, hb⟩
                rw [point_n]
                have HPl := Lib.hid (HPr.out.ext hb)
                have HOl := Lib.hid (own_ext HOr.out hb)
                have HSl := Lib.hid (own_ext HSr.out hb)
                have HMl := Lib.hid (map_below HM1.out hb HZR.out)
                have HZl := Lib.hid (Nat.lt_of_lt_of_le HZR.out hb.size)
                have HEl := Lib.hid (Ext_trans hb HEr.out)
                clear hb HPr HOr HSr HM1 HEr HZR
                have hlook := lookup_bool HMl.out keyLaw Try.underlying34 Try.underlying4 (zeroBool wl) (Maps.keyOf_int_mk Try.underlying3 (wf_i64 (by omega) : (Lit.int .i64 ((o + 1) % p.n)).wf = true)) HAT.out
                go_wp2_with fail
                go_roundw
                case rel => exact ⟨k + 1, by omega, by go_num, HPl.out, HOl.out, HSl.out, HMl.out, HZl.out, HEl.out⟩
                case measure => simp [intOf]; omega
              · have : m + 1 = k := by omega
                subst this
                clear hlt hk
                go_wp2_with fail
                rw [show (((m + 1 : Nat)) : Int) = (m : Int) + 1 from rfl]
                go_loopw [18, 90] (fun _ v90 wr => ∃ k : Nat, k ≤ m + 1 ∧ v90 = .int .i64 k ∧ Hid (PlAt wr g b (p.point (p.tabd i0 (m + 1 - k)))) ∧ Hid (wr.ownsRow bs 3 1 (.slice A9 (m + 1) c9) (m + 1) (i64s (p.seen i0 (m + 1)))) ∧
                    Hid (wr.ownsMap Try.prog 3 (plainElem Try.prog 4) bm (m + 1) (setI (p.seen i0 (m + 1)))) ∧ Hid (Ext w wr)) (fun _ v _ => m + 1 - (intOf v).toNat)
                case atStart => exact ⟨0, Nat.zero_le _, rfl, by rw [Nat.sub_zero, HF.out]; exact HPr.out, HSr.out, HM1.out, HEr.out⟩
                case round =>
                  clear HPr HOr HSr HM1 HZR HEr
                  obtain ⟨k, hk, rfl, HPr, HSr, HM1, HEr⟩ := hrel
                  by_cases hlt : k < m + 1
                  · obtain ⟨j, hj⟩ : ∃ j, m + 1 - k = j + 1 := ⟨m - k, by omega⟩
                    have hjm : j + k = m := by omega
                    obtain ⟨ga, oa, eA, hc⟩ := (Rd.own HSr.out).2 (by omega)
                    have aj := hc j _ (get_i64s (by rw [seen_len]; omega))
                    rw [seen_get (by omega)] at aj
                    have HT := Lib.hid (show (p.point (p.tabd i0 (j + 1))).backM = p.tabd i0 j from tabd_back HBY.out hi0 (by have := HM.out; omega))
                    have hP := HPr.out
                    rw [hj] at hP
                    have HNX := Lib.hid (show m + 1 - (k + 1) = j by omega)
                    have hw2 : IntKind.i64.wrap ((m : Int) - k) = j := by rw [IntWalk.i64_in _ (by omega)]; omega
                    cases eA
                    clear hc hj HPr
                    go_wp2_with fail
                    have hgn : ga ∉ [g, b] := fun hx => by have h1 := (own_base HSr.out ga rfl).1; have h2 := hgz ga hx; omega
                    have hP' := Lib.hid hP.drew
                    clear hP
                    have hS' := Lib.hid (show wr.drew.ownsRow bs 3 1 _ (m + 1) (i64s (p.seen i0 (m + 1))) from HSr.out.drew)
                    have hM' := Lib.hid (show wr.drew.ownsMap Try.prog 3 _ bm (m + 1) (setI (p.seen i0 (m + 1))) from HM1.out.drew)
                    have hE' := Lib.hid (Ext_drew HEr.out)
                    generalize hM : m + 1 = M at *
                    have hj0 : (0 : Int) ≤ j := by omega
                    have hj1 : (j : Int) < (M : Int) := by omega
                    have hw3 : IntKind.i64.wrap ((M : Int) - 1) = m := by rw [IntWalk.i64_in _ (by omega)]; omega
                    have HMM := Lib.hid hM
                    have HJM := Lib.hid hjm
                    clear hM hjm hlt hk
                    go_region_held3 (fun w' => w'.cell? ⟨ga, oa + j, none⟩ = some (.int .i64 (p.tabd i0 j)))
                      (first | go_keep | exact m1)
                      ((go_at_call 17; refine (Back_any g b _ _ hP'.out).mono ?_; rintro e w2 ⟨rfl, hs, hch⟩
                        rw [HT.out] at hs
                        rw [HT.out]
                        have m1 := cell_chg (w := wr.drew) hch hgn aj))
                    have hM := HMM.out
                    subst hM
                    rw [point_point _ _ _ (tabd_has hn0 _ _)] at hs
                    have HP2 := Lib.hid hs
                    have HS2 := Lib.hid (own_chg hS'.out hch hgz)
                    have HM2 := Lib.hid (map_chg hM'.out hch (by simp; omega))
                    have HE2 := Lib.hid (hch.ext hE'.out hgl)
                    clear hs hch hP' hS' hM' hE'
                    go_wp2_with fail
                    go_roundw
                    case rel => exact ⟨k + 1, by have := HJM.out; omega, by go_num, by rw [HNX.out]; exact HP2.out, HS2.out, HM2.out, HE2.out⟩
                    case measure => have := HJM.out; simp [intOf]; omega
                  · have : m + 1 = k := by omega
                    subst this
                    clear hlt hk
                    have HSZ := Lib.hid (size_seen HBY.out hi0 (m + 1) (by rw [HM.out]; exact Nat.le_refl _))
                    have hlen := HM1.out.len Try.underlying34 3
                    rw [HSZ.out] at hlen
                    go_wp2_with fail
                    go_ret
                    exact ⟨by simp, HEr.out⟩
set_option maxRecDepth 100000 in
theorem CaretRounds_walk {H : Type} (w : World) {base : Nat} (v : Value) (t0 : Handed Try.prog H w 23 v) (k0 : Value.okWide Try.prog w .any base 23 v) (A : Option Addr) (n d : Nat) (t1 : Handed Try.prog H w 24 (.slice A n d))
    (a2 : Int) (w2 : (Lit.int .i64 a2).wf = true) :
    Calls Try.prog 3 #[v, .slice A n d, .int .i64 a2] w (Ret (.bool true) w) := by
  obtain ⟨r, c, rfl, _, _⟩ := size_arg t0 k0
  obtain ⟨cs, rfl, _, hl, hr, hcs⟩ := cel_rows t1
  exact CaretRounds_any r c a2 A d cs hcs hl w hr
end Go.Proofs.Ytmcfckdgolojlaa
