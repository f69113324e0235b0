/- Chapter 16: PaintKeeps. -/
import Derived.Test.YtmcfckdgolojlaaW16a
import Derived.Test.YtmcfckdgolojlaaGJ
import Derived.BigQuiet
namespace Go.Proofs.Ytmcfckdgolojlaa
set_option linter.unusedVariables false
set_option linter.unusedSimpArgs false
open Go.RowKit
open Go.Maps (Keyed)
theorem At_eq3 {g c : Nat} {p : Pl} {i : Int} {y : Cel} (w : World) (h : PlAt w g c p) (hy : p.at i = y) : Calls Try.prog 21 #[.pointer (some ⟨g, 0, none⟩), .int .i64 i] w (Ret (.agg #[.int .u8 y.b, .bool y.ge, .bool y.st, .int .u8 y.li, .int .u8 y.co]) w) := At_eqB hy w h
theorem PlAt.belowB {B : Nat} {w w' : World} {g c : Nat} {p : Pl} (h : PlAt w g c p) (k : Below B w w') (hg : g < B) (hc : c < B) : PlAt w' g c p := let ⟨a, t, h⟩ := h; ⟨a, t, (k.block g hg).trans h.obj, (k.block c hc).trans h.row, h.ok⟩
set_option maxRecDepth 100000 in
set_option maxHeartbeats 16000000 in
theorem PaintKeeps_any (r c from_ to_ bv : Int) (hbv : 0 ≤ bv ∧ bv < 256) (A : Option Addr) (d : Nat) (cs : List Cel) (hcs : ∀ x ∈ cs, 0 ≤ x.b ∧ x.b < 256) (hcl : cs.length ≤ maxLen) (w : World) (hr : Rd w 5 A cs.length (cs.flatMap Cel.enc)) :
    Calls Try.prog 10 #[.agg #[.int .i64 r, .int .i64 c], .slice A cs.length d, .int .i64 from_, .int .i64 to_, .int .u8 bv] w (Ret (.bool true) w) := by
  have hmm := @run_makeMap Try.prog
  have HCS := Lib.hid hcs
  have HCL := Lib.hid hcl
  have HR := Lib.hid (fun w' (h : Ext w w') => Rd_ext h hr)
  have HX := Lib.hid (Ext_refl w)
  clear hcs hcl hr
  go_enter Try.func10, Try.ntmps10
  go_wp2_with fail
  refine (alive16_any _).mono ?_
  rintro e wn ⟨rfl, hb⟩
  have hz0 : w.heap.size < wn.heap.size := (by have := hb.size; (try simp only [World.size_alloc, World.size_setCell, World.size_drew, size_drewN] at this); omega); have hc0_0 : wn.cell? ⟨w.heap.size, 0, none⟩ = some (.int .i64 r) := (cell_ext hb (by unfold In; first | omega | (simp; done) | (simp; omega))).trans (by go_simp); have hf0_0 : wn.frozen? ⟨w.heap.size, 0, none⟩ = false := (frozen_ext hb (by unfold In; first | omega | (simp; done) | (simp; omega))).trans (by go_simp); have hc0_1 : wn.cell? ⟨w.heap.size, 1, none⟩ = some (.int .i64 c) := (cell_ext hb (by unfold In; first | omega | (simp; done) | (simp; omega))).trans (by go_simp); have hf0_1 : wn.frozen? ⟨w.heap.size, 1, none⟩ = false := (frozen_ext hb (by unfold In; first | omega | (simp; done) | (simp; omega))).trans (by go_simp); have HXn := Lib.hid (Ext_trans hb (by repeat' (first | (with_reducible first | exact HX.out | apply Ext_alloc | apply Ext_drewN | apply Ext_drew | (refine Ext_set ?_ ?_) | exact Ext_refl _) | (simp only [World.size_alloc, World.size_setCell, World.size_drew, size_drewN]; omega) | (simp; done) | (simp; omega)))); clear hb HX; have HX := HXn; clear HXn
  go_wp2_with fail
  refine (made16_any r c A d cs HCS.out HCL.out _ (HR.out _ HX.out)).mono ?_
  rintro e w3 (⟨a, b, v, k, rfl, ⟨A1, n1, d1, rfl⟩, hb⟩ | ⟨g, b, x, p, rfl, hP, hx, hb, hg, hbb, hxx, hne1, hne2, hp6⟩)
  · have HXn := Lib.hid (Ext_trans hb (by repeat' (first | (with_reducible first | exact HX.out | apply Ext_alloc | apply Ext_drewN | apply Ext_drew | (refine Ext_set ?_ ?_) | exact Ext_refl _) | (simp only [World.size_alloc, World.size_setCell, World.size_drew, size_drewN]; omega) | (simp; done) | (simp; omega)))); clear hb HX; have HX := HXn; clear HXn
    go_wp2_with fail
    go_ret
    exact ⟨rfl, (by repeat' (first | (with_reducible first | exact HX.out | apply Ext_alloc | apply Ext_drewN | apply Ext_drew | (refine Ext_set ?_ ?_) | exact Ext_refl _) | (simp only [World.size_alloc, World.size_setCell, World.size_drew, size_drewN]; omega) | (simp; done) | (simp; omega)))⟩
  have hws : w.heap.size ≤ wn.heap.size := HX.out.size
  have hpn : p.n = (p.cells.length : Int) := rfl
  have hn1 : 1 ≤ p.n := hP.ok.sz.n0
  have hn2 : p.n ≤ 60 := by rw [hpn]; omega
  have HBY := Lib.hid hP.ok.by_
  have HP3 := Lib.hid hP
  have HE3 := Lib.hid (Ext_trans hb HX.out)
  have hgw : w.heap.size ≤ g := by omega
  have hbw : w.heap.size ≤ b := by omega
  clear hP hx hb HX hg hbb hxx hne1 hne2 HCS HCL HR hpn hp6 hws hc0_0 hf0_0 hc0_1 hf0_1 hz0
  go_wp2_with fail
  have hE4 := Ext_alloc (o := .cells #[.int .i64 p.rows, .int .i64 p.cols, .slice (some ⟨x, 0, none⟩) p.cells.length p.cells.length, .int .i64 p.cur] 28) (Ext_refl w3)
  have HP4 := Lib.hid (HP3.out.ext hE4)
  have HE4 := Lib.hid (Ext_trans hE4 HE3.out)
  clear hE4 HP3 HE3
  generalize w3.alloc (.cells #[.int .i64 p.rows, .int .i64 p.cols, .slice (some ⟨x, 0, none⟩) p.cells.length p.cells.length, .int .i64 p.cur] 28) = W4 at *
  obtain ⟨fr, hfr, fr0, fr1⟩ : ∃ fr : Int, Int.tmod (bits .and .i64 from_ 255) p.n = fr ∧ 0 ≤ fr ∧ fr < p.n := by
    rw [and255]
    have h0 : 0 ≤ from_ % 256 := Int.emod_nonneg _ (by omega)
    rw [Int.tmod_eq_emod_of_nonneg h0]
    exact ⟨_, rfl, Int.emod_nonneg _ (by omega), Int.emod_lt_of_pos _ (by omega)⟩
  obtain ⟨tt, htt, tt0, tt1⟩ : ∃ tt : Int, Int.tmod (bits .and .i64 to_ 255) p.n = tt ∧ 0 ≤ tt ∧ tt < p.n := by
    rw [and255]
    have h0 : 0 ≤ to_ % 256 := Int.emod_nonneg _ (by omega)
    rw [Int.tmod_eq_emod_of_nonneg h0]
    exact ⟨_, rfl, Int.emod_nonneg _ (by omega), Int.emod_lt_of_pos _ (by omega)⟩
  have hr0 : p.n ≠ 0 := by omega
  go_quiet ((go_at_call 18; exact Calls.quiet_of_same (LenQ_any g b p _ (HP4.out.ext (Ext_drewN (Ext_refl _))))))
  have hE5 := Ext_drewN (n := nq) (Ext_refl W4)
  have HP5 := Lib.hid (HP4.out.ext hE5)
  have HE5 := Lib.hid (Ext_trans hE5 HE4.out)
  clear hE5 HP4 HE4
  generalize W4.drewN nq = W5 at *
  go_wp2_with fail
  refine (PClone_any g b p _ HP5.out).mono ?_
  rintro e w7 ⟨g2, c2, rfl, hq, hx7, hg2, hc2⟩
  have HP7 := Lib.hid (HP5.out.ext hx7)
  have HE7 := Lib.hid (Ext_trans hx7 HE5.out)
  have HQ7 := Lib.hid hq
  have s0 := HE5.out.size
  have l1 := HP5.out.glt
  have l2 := HP5.out.clt
  have s1 := hx7.size
  clear hx7 hq HP5 HE5
  go_wp2_with fail
  refine (PClone_any g b p _ HP7.out).mono ?_
  rintro e w8 ⟨g3, c3, rfl, hr3, hx8, hg3, hc3⟩
  have HP8 := Lib.hid (HP7.out.ext hx8)
  have HE8 := Lib.hid (Ext_trans hx8 HE7.out)
  have HQ8 := Lib.hid (HQ7.out.ext hx8)
  have HR8 := Lib.hid hr3
  have l3 := HQ7.out.glt
  have l4 := HQ7.out.clt
  have l5 := HR8.out.glt
  have l6 := HR8.out.clt
  have s2 := hx8.size
  clear hx8 hr3 HP7 HE7 HQ7
  have HFR := Lib.hid hfr
  have HTT := Lib.hid htt
  clear hfr htt hr0
  go_wp2_with fail
  obtain ⟨Q, hQ⟩ : ∃ Q, p.wipes (btwN p.n fr (btwM p.n fr tt)) = Q := ⟨_, rfl⟩
  have hR := Blk.new w8 71 #[.int .u8 18, .int .i64 tt, .int .u8 0, .bool false, .slice none 0 0, .slice none 0 0]
  have hE : Ext w8 (w8.alloc (.cells #[.int .u8 18, .int .i64 tt, .int .u8 0, .bool false, .slice none 0 0, .slice none 0 0] 71)) := Ext_alloc (Ext_refl w8)
  obtain ⟨Wb, hW⟩ : ∃ Wb, w8.alloc (.cells #[.int .u8 18, .int .i64 tt, .int .u8 0, .bool false, .slice none 0 0, .slice none 0 0] 71) = Wb := ⟨_, rfl⟩
  rw [hW] at hR hE ⊢
  clear hW
  have hre := run_eua p fr tt ⟨tt0, tt1⟩
  rw [hQ] at hre
  refine (Paint_row g2 c2 p w8.heap.size 1 [ordN 18 tt 0] 0 [] fr ⟨fr0, fr1⟩ _ (HQ8.out.ext hE) hR (by simp; omega) ?hx (by show 1 ≤ maxLen; unfold maxLen; omega) hre).mono ?_
  case hx =>
    intro x hx
    simp only [List.mem_cons, List.not_mem_nil, or_false] at hx
    subst hx
    exact OrAt_nil _ _ _ _ _ (by decide) _
  rintro e w9 ⟨rfl, hs, hch⟩
  have HQ9 := Lib.hid hs
  have HP9 := Lib.hid ((HP8.out.ext hE).chg hch (by simp; omega) (by simp; omega))
  have HR9 := Lib.hid ((HR8.out.ext hE).chg hch (by simp; omega) (by simp; omega))
  have HE9 := Lib.hid (hch.ext (Ext_trans hE HE8.out) (by intro i hi; simp at hi; omega))
  have hs9 := hch.size
  have hs9' := hE.size
  have HQQ := Lib.hid hQ
  clear hs hch hE hR HQ8 HP8 HR8 HE8 hre hQ
  go_wp2_with fail
  obtain ⟨R, hRR⟩ : ∃ R, (p.set fr ⟨bv, false, false, 0, 0⟩).restK ((fr + 1) % p.n) (p.n - (fr + 1) % p.n).toNat = R := ⟨_, rfl⟩
  have hD := (Blk.new w9 5 #[.int .u8 bv]).alloc (.cells #[.int .u8 0, .int .i64 0, .int .u8 0, .bool false, .slice none 0 0, .slice (some ⟨w9.heap.size, 0, none⟩) 1 1, .int .u8 5, .int .i64 0, .int .u8 0, .bool false, .slice none 0 0, .slice none 0 0] 71)
  have hR := Blk.new (w9.alloc (.cells #[.int .u8 bv] 5)) 71 #[.int .u8 0, .int .i64 0, .int .u8 0, .bool false, .slice none 0 0, .slice (some ⟨w9.heap.size, 0, none⟩) 1 1, .int .u8 5, .int .i64 0, .int .u8 0, .bool false, .slice none 0 0, .slice none 0 0]
  rw [World.size_alloc] at hR
  have hE : Ext w9 ((w9.alloc (.cells #[.int .u8 bv] 5)).alloc (.cells #[.int .u8 0, .int .i64 0, .int .u8 0, .bool false, .slice none 0 0, .slice (some ⟨w9.heap.size, 0, none⟩) 1 1, .int .u8 5, .int .i64 0, .int .u8 0, .bool false, .slice none 0 0, .slice none 0 0] 71)) := Ext_alloc (Ext_alloc (Ext_refl w9))
  obtain ⟨Wb, hW⟩ : ∃ Wb, (w9.alloc (.cells #[.int .u8 bv] 5)).alloc (.cells #[.int .u8 0, .int .i64 0, .int .u8 0, .bool false, .slice none 0 0, .slice (some ⟨w9.heap.size, 0, none⟩) 1 1, .int .u8 5, .int .i64 0, .int .u8 0, .bool false, .slice none 0 0, .slice none 0 0] 71) = Wb := ⟨_, rfl⟩
  rw [hW] at hD hR hE ⊢
  clear hW
  obtain ⟨ra, hre⟩ := run_pt p fr bv
  rw [hRR] at hre
  refine (Paint_row g3 c3 p (w9.heap.size + 1) 2 [ordD [bv] w9.heap.size, ordN 5 0 0] 0 [] fr ⟨fr0, fr1⟩ _ (HR9.out.ext hE) hR (by simp; omega) ?hx2 (by show 2 ≤ maxLen; unfold maxLen; omega) hre).mono ?_
  case hx2 =>
    intro x hx
    simp only [List.mem_cons, List.not_mem_nil, or_false] at hx
    rcases hx with rfl | rfl
    · exact OrAt_data _ _ [bv] w9.heap.size hD (by simp; omega) (by show 1 ≤ maxLen; unfold maxLen; omega) (by simpa using hbv)
    · exact OrAt_nil _ _ _ _ _ (by decide) _
  rintro e wa ⟨rfl, hs, hch⟩
  have HRa := Lib.hid hs
  have HPa := Lib.hid ((HP9.out.ext hE).chg hch (by simp; omega) (by simp; omega))
  have HQa := Lib.hid ((HQ9.out.ext hE).chg hch (by simp; omega) (by simp; omega))
  have HEa := Lib.hid (hch.ext (Ext_trans hE HE9.out) (by intro i hi; simp at hi; omega))
  have HRR := Lib.hid hRR
  clear hs hch hE hR hD HQ9 HP9 HR9 HE9 hre hRR
  go_wp2_with fail
  have hE := Ext_alloc (o := .map #[] 0) (Ext_refl wa)
  have HM := Lib.hid (World.ownsMap_made wa Try.prog 3 (plainElem Try.prog 4 : Value → Option (DataW Unit × List MemPlace)))
  have HP := Lib.hid (HPa.out.ext hE)
  have HQ := Lib.hid (HQa.out.ext hE)
  have HR := Lib.hid (HRa.out.ext hE)
  have HE := Lib.hid (Ext_trans hE HEa.out)
  have m1 := HPa.out.glt
  have m2 := HPa.out.clt
  have m3 := HQa.out.glt
  have m4 := HQa.out.clt
  have m5 := HRa.out.glt
  have m6 := HRa.out.clt
  have m7 := HEa.out.size
  have hmz : wa.heap.size < (wa.alloc (.map #[] 0)).heap.size := by simp
  have HMZ := Lib.hid hmz
  clear hE HPa HQa HRa HEa hmz
  generalize wa.heap.size = bm at *
  generalize wa.alloc (.map #[] 0) = W9 at *
  obtain ⟨M, hM⟩ : ∃ M, btwM p.n fr tt = M := ⟨_, rfl⟩
  have hM1 : 1 ≤ M ∧ (M : Int) ≤ p.n := by
    rw [← hM]
    unfold btwM
    have h1 := Int.emod_nonneg (tt - fr - 1) (show p.n ≠ 0 by omega)
    have h2 := Int.emod_lt_of_pos (tt - fr - 1) (show 0 < p.n by omega)
    omega
  have hend : ∀ k : Nat, k < M → ((fr + ((k : Int) + 1)) % p.n == tt) = decide (k + 1 = M) := fun k hk => by
    have := btw_end (by omega) tt0 tt1 k (by rw [hM]; exact hk)
    rw [hM] at this
    exact this
  have HEND := Lib.hid hend
  have HMM := Lib.hid hM
  clear hend hM
  go_loopw [23] (fun v wr => ∃ k : Nat, k ≤ M ∧ v = .int .i64 k ∧ Hid (wr.ownsMap Try.prog 3 (plainElem Try.prog 4) bm k (setI (btwN p.n fr k))) ∧ Hid (Below bm W9 wr)) (fun v _ => M - (intOf v).toNat)
  case atStart => exact ⟨0, Nat.zero_le _, rfl, HM.out, Lib.hid (Below.refl _ _)⟩
  case round =>
    obtain ⟨k, hk, rfl, HM1, HB⟩ := hrel
    have hr0 : p.n ≠ 0 := by omega
    have hkey : keyOf Try.prog 3 (.int .i64 ((fr + (k : Int)) % p.n)) = some (.int .i64 ((fr + (k : Int)) % p.n)) := Maps.keyOf_int_mk Try.underlying3 (wf_i64 (by
      have h1 := Int.emod_nonneg (fr + (k : Int)) hr0
      have h2 := Int.emod_lt_of_pos (fr + (k : Int)) (show 0 < p.n by omega)
      omega))
    have HKY := Lib.hid hkey
    have HPr := Lib.hid (HP.out.belowB HB.out m1 m2)
    clear hkey
    by_cases hk0 : k = 0
    · have hki : ((k : Int) == 0) = true := by rw [beq_iff_eq]; omega
      have HK0 := Lib.hid hk0
      have hkM : k + 1 ≤ M := by omega
      clear hk0
      go_wp2_with fail
      refine (LenQ_any g b p _ HPr.out).mono ?_
      rintro e9 wc ⟨rfl, rfl⟩
      go_wp2_with (at_mapUpdate; refine wpList_mapUpdate_own _ rfl _ _ _ 34 rfl 3 4 keyLaw Try.underlying34 (plainElem Try.prog 4) bm k (setI (btwN p.n fr k)) rfl HM1.out (by unfold maxLen; omega) _ _ _ rfl rfl HKY.out tru [] (by rfl) ?_; intro w1 hown1 hgrow1; have HN := Lib.hid hown1; have HG := Lib.hid hgrow1; clear hown1 hgrow1)
      have HB1 := Lib.hid (Below.grown HB.out HG.out (by have := HB.out.size; have := HMZ.out; omega) (fun k hk => by cases hk; omega))
      go_roundw
      case rel => exact ⟨k + 1, by omega, by go_num, Lib.hid (by rw [btwN_succ, setI_snoc]; exact HN.out), HB1⟩
      case measure => simp [intOf]; omega
    · have he := HEND.out (k - 1) (by omega)
      rw [show (((k - 1 : Nat) : Int) + 1) = (k : Int) by omega, show k - 1 + 1 = k by omega] at he
      have hki : ((k : Int) == 0) = false := by rw [beq_eq_false_iff_ne]; omega
      by_cases hlt : k < M
      · have he2 : ((fr + (k : Int)) % p.n == tt) = false := by rw [he]; simp; omega
        have he3 : ((fr + (k : Int)) % p.n != tt) = true := by rw [bne, he2]; rfl
        clear he
        go_wp2_with fail
        refine (LenQ_any g b p _ HPr.out).mono ?_
        rintro e9 wb ⟨rfl, rfl⟩
        go_wp2_with fail
        refine (LenQ_any g b p _ HPr.out).mono ?_
        rintro e9 wc ⟨rfl, rfl⟩
        go_wp2_with (at_mapUpdate; refine wpList_mapUpdate_own _ rfl _ _ _ 34 rfl 3 4 keyLaw Try.underlying34 (plainElem Try.prog 4) bm k (setI (btwN p.n fr k)) rfl HM1.out (by unfold maxLen; omega) _ _ _ rfl rfl HKY.out tru [] (by rfl) ?_; intro w1 hown1 hgrow1; have HN := Lib.hid hown1; have HG := Lib.hid hgrow1; clear hown1 hgrow1)
        have HB1 := Lib.hid (Below.grown HB.out HG.out (by have := HB.out.size; have := HMZ.out; omega) (fun k hk => by cases hk; omega))
        go_roundw
        case rel => exact ⟨k + 1, by omega, by go_num, Lib.hid (by rw [btwN_succ, setI_snoc]; exact HN.out), HB1⟩
        case measure => simp [intOf]; omega
      · have hkM : k = M := by omega
        have he2 : ((fr + (k : Int)) % p.n == tt) = true := by rw [he, hkM]; simp
        have he3 : ((fr + (k : Int)) % p.n != tt) = false := by rw [bne, he2]; rfl
        have HKM := Lib.hid hkM
        clear he hkM
        go_wp2_with fail
        refine (LenQ_any g b p _ HPr.out).mono ?_
        rintro e9 wb ⟨rfl, rfl⟩
        go_wp2_with fail
        obtain ⟨L, hL⟩ : ∃ L, btwN p.n fr k = L := ⟨_, rfl⟩
        have hLQ : p.wipes L = Q := by rw [← hL, HKM.out, ← HMM.out]; exact HQQ.out
        have HLM := Lib.hid (show btwN p.n fr (btwM p.n fr tt) = L by rw [← hL, HKM.out, HMM.out])
        have HAK := Lib.hid (fun (x : Int) (z : DataW Unit) => at_btw p.n fr x z k)
        rw [hL] at HM1 HAK
        have HQA := Lib.hid (fun i : Int => (wipes_at L p HBY.out (by omega)).2 i)
        rw [hLQ] at HQA
        have HRF := Lib.hid (fun (i : Int) (hi : i ≠ fr) (h : p.st i = true ∨ (i < fr ∧ fr < p.n - 1)) => (show R.at i = p.at i by
          have e1 : (p.set fr ⟨bv, false, false, 0, 0⟩).at i = p.at i := by rw [set_atB, if_neg (fun e => hi e.1)]
          rw [← HRR.out, restK_at _ _ _ i (h.elim (fun h => .inr (by unfold Pl.st; rw [e1]; exact h)) (fun h => .inl (by rw [Int.emod_eq_of_lt (by omega) (by omega)]; omega))), e1]))
        have HQb := Lib.hid (HQ.out.belowB HB.out m3 m4)
        have HRb := Lib.hid (HR.out.belowB HB.out m5 m6)
        have HEb := Lib.hid (show Ext w wb from Below.trans HE.out (Below.mono HB.out m7))
        have HZb := Lib.hid (Nat.lt_of_lt_of_le HMZ.out HB.out.size)
        clear hki he2 he3 hL hLQ HP HQ HR HE HM HB HMZ HKY hk HKM HEND hk0 hlt
        refine (LenQ_any g b p _ HPr.out).mono ?_
        rintro e9 wc ⟨rfl, rfl⟩
        go_wp2_with fail
        go_loopw [24, 25, 112] (fun _ _ v wr => ∃ j : Nat, (j : Int) ≤ p.n ∧ v = .int .i64 j ∧ Hid (PlAt wr g b p) ∧ Hid (PlAt wr g2 c2 Q) ∧ Hid (PlAt wr g3 c3 R) ∧ Hid (wr.ownsMap Try.prog 3 (plainElem Try.prog 4) bm k (setI L)) ∧ Hid (bm < wr.heap.size) ∧ Hid (Ext w wr)) (fun _ _ v _ => (p.n - intOf v).toNat)
        case atStart => exact ⟨0, by omega, rfl, HPr, HQb, HRb, HM1, HZb, HEb⟩
        case round =>
          clear HPr HQb HRb HM1 HZb HEb
          obtain ⟨j, hj, rfl, HP, HQ, HR, HM, HZ, HE⟩ := hrel
          by_cases hlt : (j : Int) < p.n
          · have hj0 : (0 : Int) ≤ (j : Int) := by omega
            obtain ⟨y, hy⟩ : ∃ y, p.at (j : Int) = y := ⟨_, rfl⟩
            obtain ⟨op, hop⟩ : ∃ op, p.open_ (j : Int) = op := ⟨_, rfl⟩
            have hqj := HQA.out (j : Int)
            have hak := HAK.out (j : Int) (.lit (.bool false))
            rw [hy, hop] at hqj
            have HPK := Lib.hid hy
            have HOP := Lib.hid hop
            have hkl : keyOf Try.prog 3 (.int .i64 (j : Int)) = some (.int .i64 (j : Int)) := Maps.keyOf_int_mk Try.underlying3 (wf_i64 (by omega))
            have HKL := Lib.hid hkl
            clear hy hop hkl
            go_wp2_with fail
            refine (Open_eqB HOP.out _ HP.out).mono ?_
            rintro e9 w9 ⟨rfl, hb⟩
            replace HP := Lib.hid (HP.out.ext hb)
            replace HQ := Lib.hid (HQ.out.ext hb)
            replace HR := Lib.hid (HR.out.ext hb)
            replace HM := Lib.hid (map_below HM.out hb HZ.out)
            replace HZ := Lib.hid (Nat.lt_of_lt_of_le HZ.out hb.size)
            replace HE := Lib.hid (Ext_trans hb HE.out)
            clear hb
            by_cases hin : (j : Int) ∈ L
            · rw [if_pos hin] at hak
              have HLK := Lib.hid (fun (w' : World) (h : w'.ownsMap Try.prog 3 (plainElem Try.prog 4) bm k (setI L)) => lookup_bool h keyLaw Try.underlying34 Try.underlying4 (zeroBool w') HKL.out (x := true) hak)
              have hlook := HLK.out _ HM.out
              clear hak
              cases op
              · rw [if_neg (by simp)] at hqj
                have HQK := Lib.hid hqj
                clear hqj hin
                go_upto_region 23 with ((first | (go_at_call 21; refine (At_eq3 _ (by first | exact HQ.out | exact HP.out | exact HR.out) (by first | exact HQK.out | exact HPK.out | exact HRK.out)).mono ?_; rintro e9 w9 ⟨rfl, hb⟩; replace HP := Lib.hid (HP.out.ext hb); replace HQ := Lib.hid (HQ.out.ext hb); replace HR := Lib.hid (HR.out.ext hb); replace HM := Lib.hid (map_below HM.out hb HZ.out); replace HZ := Lib.hid (Nat.lt_of_lt_of_le HZ.out hb.size); replace HE := Lib.hid (Ext_trans hb HE.out); clear hb; dsimp only [Cel.zero]; have hlook := HLK.out _ HM.out) | (go_at_call 18; refine (LenQ_any g b p _ HP.out).mono ?_; rintro e9 w9 ⟨rfl, rfl⟩)))
                by_cases hjf : (j : Int) = fr
                · have h1 : ((j : Int) != fr) = false := by rw [hjf]; simp
                  have h2 : ¬ (j : Int) < fr := by omega
                  clear hjf
                  go_wp2_with ((first | (go_at_call 21; refine (At_eq3 _ (by first | exact HQ.out | exact HP.out | exact HR.out) (by first | exact HQK.out | exact HPK.out | exact HRK.out)).mono ?_; rintro e9 w9 ⟨rfl, hb⟩; replace HP := Lib.hid (HP.out.ext hb); replace HQ := Lib.hid (HQ.out.ext hb); replace HR := Lib.hid (HR.out.ext hb); replace HM := Lib.hid (map_below HM.out hb HZ.out); replace HZ := Lib.hid (Nat.lt_of_lt_of_le HZ.out hb.size); replace HE := Lib.hid (Ext_trans hb HE.out); clear hb; dsimp only [Cel.zero]; have hlook := HLK.out _ HM.out) | (go_at_call 18; refine (LenQ_any g b p _ HP.out).mono ?_; rintro e9 w9 ⟨rfl, rfl⟩)))
                  go_roundw
                  case rel => exact ⟨j + 1, by omega, by go_num, HP, HQ, HR, HM, HZ, HE⟩
                  case measure => simp [intOf]; omega
                · have h1 : ((j : Int) != fr) = true := by rw [bne_iff_ne]; exact hjf
                  have hrf := HRF.out (j : Int) hjf
                  have hys : p.st (j : Int) = y.st := by unfold Pl.st; rw [HPK.out]
                  rw [hys, HPK.out] at hrf
                  clear hjf hys
                  have hfs := field_st
                  cases hs : y.st
                  · by_cases hjl : (j : Int) < fr
                    · by_cases hfn : fr < p.n - 1
                      · have HRK := Lib.hid (hrf (.inr ⟨hjl, hfn⟩))
                        clear hrf
                        go_wp2_with ((first | (go_at_call 21; refine (At_eq3 _ (by first | exact HQ.out | exact HP.out | exact HR.out) (by first | exact HQK.out | exact HPK.out | exact HRK.out)).mono ?_; rintro e9 w9 ⟨rfl, hb⟩; replace HP := Lib.hid (HP.out.ext hb); replace HQ := Lib.hid (HQ.out.ext hb); replace HR := Lib.hid (HR.out.ext hb); replace HM := Lib.hid (map_below HM.out hb HZ.out); replace HZ := Lib.hid (Nat.lt_of_lt_of_le HZ.out hb.size); replace HE := Lib.hid (Ext_trans hb HE.out); clear hb; dsimp only [Cel.zero]; have hlook := HLK.out _ HM.out) | (go_at_call 18; refine (LenQ_any g b p _ HP.out).mono ?_; rintro e9 w9 ⟨rfl, rfl⟩)))
                        go_roundw
                        case rel => exact ⟨j + 1, by omega, by go_num, HP, HQ, HR, HM, HZ, HE⟩
                        case measure => simp [intOf]; omega
                      · clear hrf
                        go_wp2_with ((first | (go_at_call 21; refine (At_eq3 _ (by first | exact HQ.out | exact HP.out | exact HR.out) (by first | exact HQK.out | exact HPK.out | exact HRK.out)).mono ?_; rintro e9 w9 ⟨rfl, hb⟩; replace HP := Lib.hid (HP.out.ext hb); replace HQ := Lib.hid (HQ.out.ext hb); replace HR := Lib.hid (HR.out.ext hb); replace HM := Lib.hid (map_below HM.out hb HZ.out); replace HZ := Lib.hid (Nat.lt_of_lt_of_le HZ.out hb.size); replace HE := Lib.hid (Ext_trans hb HE.out); clear hb; dsimp only [Cel.zero]; have hlook := HLK.out _ HM.out) | (go_at_call 18; refine (LenQ_any g b p _ HP.out).mono ?_; rintro e9 w9 ⟨rfl, rfl⟩)))
                        go_roundw
                        case rel => exact ⟨j + 1, by omega, by go_num, HP, HQ, HR, HM, HZ, HE⟩
                        case measure => simp [intOf]; omega
                    · clear hrf
                      go_wp2_with ((first | (go_at_call 21; refine (At_eq3 _ (by first | exact HQ.out | exact HP.out | exact HR.out) (by first | exact HQK.out | exact HPK.out | exact HRK.out)).mono ?_; rintro e9 w9 ⟨rfl, hb⟩; replace HP := Lib.hid (HP.out.ext hb); replace HQ := Lib.hid (HQ.out.ext hb); replace HR := Lib.hid (HR.out.ext hb); replace HM := Lib.hid (map_below HM.out hb HZ.out); replace HZ := Lib.hid (Nat.lt_of_lt_of_le HZ.out hb.size); replace HE := Lib.hid (Ext_trans hb HE.out); clear hb; dsimp only [Cel.zero]; have hlook := HLK.out _ HM.out) | (go_at_call 18; refine (LenQ_any g b p _ HP.out).mono ?_; rintro e9 w9 ⟨rfl, rfl⟩)))
                      go_roundw
                      case rel => exact ⟨j + 1, by omega, by go_num, HP, HQ, HR, HM, HZ, HE⟩
                      case measure => simp [intOf]; omega
                  · have HRK := Lib.hid (hrf (.inl hs))
                    clear hrf
                    by_cases hjl : (j : Int) < fr
                    · by_cases hfn : fr < p.n - 1
                      · go_wp2_with ((first | (go_at_call 21; refine (At_eq3 _ (by first | exact HQ.out | exact HP.out | exact HR.out) (by first | exact HQK.out | exact HPK.out | exact HRK.out)).mono ?_; rintro e9 w9 ⟨rfl, hb⟩; replace HP := Lib.hid (HP.out.ext hb); replace HQ := Lib.hid (HQ.out.ext hb); replace HR := Lib.hid (HR.out.ext hb); replace HM := Lib.hid (map_below HM.out hb HZ.out); replace HZ := Lib.hid (Nat.lt_of_lt_of_le HZ.out hb.size); replace HE := Lib.hid (Ext_trans hb HE.out); clear hb; dsimp only [Cel.zero]; have hlook := HLK.out _ HM.out) | (go_at_call 18; refine (LenQ_any g b p _ HP.out).mono ?_; rintro e9 w9 ⟨rfl, rfl⟩)))
                        go_roundw
                        case rel => exact ⟨j + 1, by omega, by go_num, HP, HQ, HR, HM, HZ, HE⟩
                        case measure => simp [intOf]; omega
                      · go_wp2_with ((first | (go_at_call 21; refine (At_eq3 _ (by first | exact HQ.out | exact HP.out | exact HR.out) (by first | exact HQK.out | exact HPK.out | exact HRK.out)).mono ?_; rintro e9 w9 ⟨rfl, hb⟩; replace HP := Lib.hid (HP.out.ext hb); replace HQ := Lib.hid (HQ.out.ext hb); replace HR := Lib.hid (HR.out.ext hb); replace HM := Lib.hid (map_below HM.out hb HZ.out); replace HZ := Lib.hid (Nat.lt_of_lt_of_le HZ.out hb.size); replace HE := Lib.hid (Ext_trans hb HE.out); clear hb; dsimp only [Cel.zero]; have hlook := HLK.out _ HM.out) | (go_at_call 18; refine (LenQ_any g b p _ HP.out).mono ?_; rintro e9 w9 ⟨rfl, rfl⟩)))
                        go_roundw
                        case rel => exact ⟨j + 1, by omega, by go_num, HP, HQ, HR, HM, HZ, HE⟩
                        case measure => simp [intOf]; omega
                    · go_wp2_with ((first | (go_at_call 21; refine (At_eq3 _ (by first | exact HQ.out | exact HP.out | exact HR.out) (by first | exact HQK.out | exact HPK.out | exact HRK.out)).mono ?_; rintro e9 w9 ⟨rfl, hb⟩; replace HP := Lib.hid (HP.out.ext hb); replace HQ := Lib.hid (HQ.out.ext hb); replace HR := Lib.hid (HR.out.ext hb); replace HM := Lib.hid (map_below HM.out hb HZ.out); replace HZ := Lib.hid (Nat.lt_of_lt_of_le HZ.out hb.size); replace HE := Lib.hid (Ext_trans hb HE.out); clear hb; dsimp only [Cel.zero]; have hlook := HLK.out _ HM.out) | (go_at_call 18; refine (LenQ_any g b p _ HP.out).mono ?_; rintro e9 w9 ⟨rfl, rfl⟩)))
                      go_roundw
                      case rel => exact ⟨j + 1, by omega, by go_num, HP, HQ, HR, HM, HZ, HE⟩
                      case measure => simp [intOf]; omega
              · rw [if_pos ⟨hin, rfl⟩] at hqj
                have HQK := Lib.hid hqj
                clear hqj hin
                go_upto_region 23 with ((first | (go_at_call 21; refine (At_eq3 _ (by first | exact HQ.out | exact HP.out | exact HR.out) (by first | exact HQK.out | exact HPK.out | exact HRK.out)).mono ?_; rintro e9 w9 ⟨rfl, hb⟩; replace HP := Lib.hid (HP.out.ext hb); replace HQ := Lib.hid (HQ.out.ext hb); replace HR := Lib.hid (HR.out.ext hb); replace HM := Lib.hid (map_below HM.out hb HZ.out); replace HZ := Lib.hid (Nat.lt_of_lt_of_le HZ.out hb.size); replace HE := Lib.hid (Ext_trans hb HE.out); clear hb; dsimp only [Cel.zero]; have hlook := HLK.out _ HM.out) | (go_at_call 18; refine (LenQ_any g b p _ HP.out).mono ?_; rintro e9 w9 ⟨rfl, rfl⟩)))
                by_cases hjf : (j : Int) = fr
                · have h1 : ((j : Int) != fr) = false := by rw [hjf]; simp
                  have h2 : ¬ (j : Int) < fr := by omega
                  clear hjf
                  go_wp2_with ((first | (go_at_call 21; refine (At_eq3 _ (by first | exact HQ.out | exact HP.out | exact HR.out) (by first | exact HQK.out | exact HPK.out | exact HRK.out)).mono ?_; rintro e9 w9 ⟨rfl, hb⟩; replace HP := Lib.hid (HP.out.ext hb); replace HQ := Lib.hid (HQ.out.ext hb); replace HR := Lib.hid (HR.out.ext hb); replace HM := Lib.hid (map_below HM.out hb HZ.out); replace HZ := Lib.hid (Nat.lt_of_lt_of_le HZ.out hb.size); replace HE := Lib.hid (Ext_trans hb HE.out); clear hb; dsimp only [Cel.zero]; have hlook := HLK.out _ HM.out) | (go_at_call 18; refine (LenQ_any g b p _ HP.out).mono ?_; rintro e9 w9 ⟨rfl, rfl⟩)))
                  go_roundw
                  case rel => exact ⟨j + 1, by omega, by go_num, HP, HQ, HR, HM, HZ, HE⟩
                  case measure => simp [intOf]; omega
                · have h1 : ((j : Int) != fr) = true := by rw [bne_iff_ne]; exact hjf
                  have hrf := HRF.out (j : Int) hjf
                  have hys : p.st (j : Int) = y.st := by unfold Pl.st; rw [HPK.out]
                  rw [hys, HPK.out] at hrf
                  clear hjf hys
                  have hfs := field_st
                  cases hs : y.st
                  · by_cases hjl : (j : Int) < fr
                    · by_cases hfn : fr < p.n - 1
                      · have HRK := Lib.hid (hrf (.inr ⟨hjl, hfn⟩))
                        clear hrf
                        go_wp2_with ((first | (go_at_call 21; refine (At_eq3 _ (by first | exact HQ.out | exact HP.out | exact HR.out) (by first | exact HQK.out | exact HPK.out | exact HRK.out)).mono ?_; rintro e9 w9 ⟨rfl, hb⟩; replace HP := Lib.hid (HP.out.ext hb); replace HQ := Lib.hid (HQ.out.ext hb); replace HR := Lib.hid (HR.out.ext hb); replace HM := Lib.hid (map_below HM.out hb HZ.out); replace HZ := Lib.hid (Nat.lt_of_lt_of_le HZ.out hb.size); replace HE := Lib.hid (Ext_trans hb HE.out); clear hb; dsimp only [Cel.zero]; have hlook := HLK.out _ HM.out) | (go_at_call 18; refine (LenQ_any g b p _ HP.out).mono ?_; rintro e9 w9 ⟨rfl, rfl⟩)))
                        go_roundw
                        case rel => exact ⟨j + 1, by omega, by go_num, HP, HQ, HR, HM, HZ, HE⟩
                        case measure => simp [intOf]; omega
                      · clear hrf
                        go_wp2_with ((first | (go_at_call 21; refine (At_eq3 _ (by first | exact HQ.out | exact HP.out | exact HR.out) (by first | exact HQK.out | exact HPK.out | exact HRK.out)).mono ?_; rintro e9 w9 ⟨rfl, hb⟩; replace HP := Lib.hid (HP.out.ext hb); replace HQ := Lib.hid (HQ.out.ext hb); replace HR := Lib.hid (HR.out.ext hb); replace HM := Lib.hid (map_below HM.out hb HZ.out); replace HZ := Lib.hid (Nat.lt_of_lt_of_le HZ.out hb.size); replace HE := Lib.hid (Ext_trans hb HE.out); clear hb; dsimp only [Cel.zero]; have hlook := HLK.out _ HM.out) | (go_at_call 18; refine (LenQ_any g b p _ HP.out).mono ?_; rintro e9 w9 ⟨rfl, rfl⟩)))
                        go_roundw
                        case rel => exact ⟨j + 1, by omega, by go_num, HP, HQ, HR, HM, HZ, HE⟩
                        case measure => simp [intOf]; omega
                    · clear hrf
                      go_wp2_with ((first | (go_at_call 21; refine (At_eq3 _ (by first | exact HQ.out | exact HP.out | exact HR.out) (by first | exact HQK.out | exact HPK.out | exact HRK.out)).mono ?_; rintro e9 w9 ⟨rfl, hb⟩; replace HP := Lib.hid (HP.out.ext hb); replace HQ := Lib.hid (HQ.out.ext hb); replace HR := Lib.hid (HR.out.ext hb); replace HM := Lib.hid (map_below HM.out hb HZ.out); replace HZ := Lib.hid (Nat.lt_of_lt_of_le HZ.out hb.size); replace HE := Lib.hid (Ext_trans hb HE.out); clear hb; dsimp only [Cel.zero]; have hlook := HLK.out _ HM.out) | (go_at_call 18; refine (LenQ_any g b p _ HP.out).mono ?_; rintro e9 w9 ⟨rfl, rfl⟩)))
                      go_roundw
                      case rel => exact ⟨j + 1, by omega, by go_num, HP, HQ, HR, HM, HZ, HE⟩
                      case measure => simp [intOf]; omega
                  · have HRK := Lib.hid (hrf (.inl hs))
                    clear hrf
                    by_cases hjl : (j : Int) < fr
                    · by_cases hfn : fr < p.n - 1
                      · go_wp2_with ((first | (go_at_call 21; refine (At_eq3 _ (by first | exact HQ.out | exact HP.out | exact HR.out) (by first | exact HQK.out | exact HPK.out | exact HRK.out)).mono ?_; rintro e9 w9 ⟨rfl, hb⟩; replace HP := Lib.hid (HP.out.ext hb); replace HQ := Lib.hid (HQ.out.ext hb); replace HR := Lib.hid (HR.out.ext hb); replace HM := Lib.hid (map_below HM.out hb HZ.out); replace HZ := Lib.hid (Nat.lt_of_lt_of_le HZ.out hb.size); replace HE := Lib.hid (Ext_trans hb HE.out); clear hb; dsimp only [Cel.zero]; have hlook := HLK.out _ HM.out) | (go_at_call 18; refine (LenQ_any g b p _ HP.out).mono ?_; rintro e9 w9 ⟨rfl, rfl⟩)))
                        go_roundw
                        case rel => exact ⟨j + 1, by omega, by go_num, HP, HQ, HR, HM, HZ, HE⟩
                        case measure => simp [intOf]; omega
                      · go_wp2_with ((first | (go_at_call 21; refine (At_eq3 _ (by first | exact HQ.out | exact HP.out | exact HR.out) (by first | exact HQK.out | exact HPK.out | exact HRK.out)).mono ?_; rintro e9 w9 ⟨rfl, hb⟩; replace HP := Lib.hid (HP.out.ext hb); replace HQ := Lib.hid (HQ.out.ext hb); replace HR := Lib.hid (HR.out.ext hb); replace HM := Lib.hid (map_below HM.out hb HZ.out); replace HZ := Lib.hid (Nat.lt_of_lt_of_le HZ.out hb.size); replace HE := Lib.hid (Ext_trans hb HE.out); clear hb; dsimp only [Cel.zero]; have hlook := HLK.out _ HM.out) | (go_at_call 18; refine (LenQ_any g b p _ HP.out).mono ?_; rintro e9 w9 ⟨rfl, rfl⟩)))
                        go_roundw
                        case rel => exact ⟨j + 1, by omega, by go_num, HP, HQ, HR, HM, HZ, HE⟩
                        case measure => simp [intOf]; omega
                    · go_wp2_with ((first | (go_at_call 21; refine (At_eq3 _ (by first | exact HQ.out | exact HP.out | exact HR.out) (by first | exact HQK.out | exact HPK.out | exact HRK.out)).mono ?_; rintro e9 w9 ⟨rfl, hb⟩; replace HP := Lib.hid (HP.out.ext hb); replace HQ := Lib.hid (HQ.out.ext hb); replace HR := Lib.hid (HR.out.ext hb); replace HM := Lib.hid (map_below HM.out hb HZ.out); replace HZ := Lib.hid (Nat.lt_of_lt_of_le HZ.out hb.size); replace HE := Lib.hid (Ext_trans hb HE.out); clear hb; dsimp only [Cel.zero]; have hlook := HLK.out _ HM.out) | (go_at_call 18; refine (LenQ_any g b p _ HP.out).mono ?_; rintro e9 w9 ⟨rfl, rfl⟩)))
                      go_roundw
                      case rel => exact ⟨j + 1, by omega, by go_num, HP, HQ, HR, HM, HZ, HE⟩
                      case measure => simp [intOf]; omega
            · rw [if_neg hin] at hak
              have HLK := Lib.hid (fun (w' : World) (h : w'.ownsMap Try.prog 3 (plainElem Try.prog 4) bm k (setI L)) => lookup_bool h keyLaw Try.underlying34 Try.underlying4 (zeroBool w') HKL.out (x := false) hak)
              have hlook := HLK.out _ HM.out
              rw [if_neg (fun h => hin h.1)] at hqj
              have HQK := Lib.hid hqj
              clear hqj hin hak
              go_upto_region 23 with ((first | (go_at_call 21; refine (At_eq3 _ (by first | exact HQ.out | exact HP.out | exact HR.out) (by first | exact HQK.out | exact HPK.out | exact HRK.out)).mono ?_; rintro e9 w9 ⟨rfl, hb⟩; replace HP := Lib.hid (HP.out.ext hb); replace HQ := Lib.hid (HQ.out.ext hb); replace HR := Lib.hid (HR.out.ext hb); replace HM := Lib.hid (map_below HM.out hb HZ.out); replace HZ := Lib.hid (Nat.lt_of_lt_of_le HZ.out hb.size); replace HE := Lib.hid (Ext_trans hb HE.out); clear hb; dsimp only [Cel.zero]; have hlook := HLK.out _ HM.out) | (go_at_call 18; refine (LenQ_any g b p _ HP.out).mono ?_; rintro e9 w9 ⟨rfl, rfl⟩)))
              by_cases hjf : (j : Int) = fr
              · have h1 : ((j : Int) != fr) = false := by rw [hjf]; simp
                have h2 : ¬ (j : Int) < fr := by omega
                clear hjf
                go_wp2_with ((first | (go_at_call 21; refine (At_eq3 _ (by first | exact HQ.out | exact HP.out | exact HR.out) (by first | exact HQK.out | exact HPK.out | exact HRK.out)).mono ?_; rintro e9 w9 ⟨rfl, hb⟩; replace HP := Lib.hid (HP.out.ext hb); replace HQ := Lib.hid (HQ.out.ext hb); replace HR := Lib.hid (HR.out.ext hb); replace HM := Lib.hid (map_below HM.out hb HZ.out); replace HZ := Lib.hid (Nat.lt_of_lt_of_le HZ.out hb.size); replace HE := Lib.hid (Ext_trans hb HE.out); clear hb; dsimp only [Cel.zero]; have hlook := HLK.out _ HM.out) | (go_at_call 18; refine (LenQ_any g b p _ HP.out).mono ?_; rintro e9 w9 ⟨rfl, rfl⟩)))
                go_roundw
                case rel => exact ⟨j + 1, by omega, by go_num, HP, HQ, HR, HM, HZ, HE⟩
                case measure => simp [intOf]; omega
              · have h1 : ((j : Int) != fr) = true := by rw [bne_iff_ne]; exact hjf
                have hrf := HRF.out (j : Int) hjf
                have hys : p.st (j : Int) = y.st := by unfold Pl.st; rw [HPK.out]
                rw [hys, HPK.out] at hrf
                clear hjf hys
                have hfs := field_st
                cases hs : y.st
                · by_cases hjl : (j : Int) < fr
                  · by_cases hfn : fr < p.n - 1
                    · have HRK := Lib.hid (hrf (.inr ⟨hjl, hfn⟩))
                      clear hrf
                      go_wp2_with ((first | (go_at_call 21; refine (At_eq3 _ (by first | exact HQ.out | exact HP.out | exact HR.out) (by first | exact HQK.out | exact HPK.out | exact HRK.out)).mono ?_; rintro e9 w9 ⟨rfl, hb⟩; replace HP := Lib.hid (HP.out.ext hb); replace HQ := Lib.hid (HQ.out.ext hb); replace HR := Lib.hid (HR.out.ext hb); replace HM := Lib.hid (map_below HM.out hb HZ.out); replace HZ := Lib.hid (Nat.lt_of_lt_of_le HZ.out hb.size); replace HE := Lib.hid (Ext_trans hb HE.out); clear hb; dsimp only [Cel.zero]; have hlook := HLK.out _ HM.out) | (go_at_call 18; refine (LenQ_any g b p _ HP.out).mono ?_; rintro e9 w9 ⟨rfl, rfl⟩)))
                      go_roundw
                      case rel => exact ⟨j + 1, by omega, by go_num, HP, HQ, HR, HM, HZ, HE⟩
                      case measure => simp [intOf]; omega
                    · clear hrf
                      go_wp2_with ((first | (go_at_call 21; refine (At_eq3 _ (by first | exact HQ.out | exact HP.out | exact HR.out) (by first | exact HQK.out | exact HPK.out | exact HRK.out)).mono ?_; rintro e9 w9 ⟨rfl, hb⟩; replace HP := Lib.hid (HP.out.ext hb); replace HQ := Lib.hid (HQ.out.ext hb); replace HR := Lib.hid (HR.out.ext hb); replace HM := Lib.hid (map_below HM.out hb HZ.out); replace HZ := Lib.hid (Nat.lt_of_lt_of_le HZ.out hb.size); replace HE := Lib.hid (Ext_trans hb HE.out); clear hb; dsimp only [Cel.zero]; have hlook := HLK.out _ HM.out) | (go_at_call 18; refine (LenQ_any g b p _ HP.out).mono ?_; rintro e9 w9 ⟨rfl, rfl⟩)))
                      go_roundw
                      case rel => exact ⟨j + 1, by omega, by go_num, HP, HQ, HR, HM, HZ, HE⟩
                      case measure => simp [intOf]; omega
                  · clear hrf
                    go_wp2_with ((first | (go_at_call 21; refine (At_eq3 _ (by first | exact HQ.out | exact HP.out | exact HR.out) (by first | exact HQK.out | exact HPK.out | exact HRK.out)).mono ?_; rintro e9 w9 ⟨rfl, hb⟩; replace HP := Lib.hid (HP.out.ext hb); replace HQ := Lib.hid (HQ.out.ext hb); replace HR := Lib.hid (HR.out.ext hb); replace HM := Lib.hid (map_below HM.out hb HZ.out); replace HZ := Lib.hid (Nat.lt_of_lt_of_le HZ.out hb.size); replace HE := Lib.hid (Ext_trans hb HE.out); clear hb; dsimp only [Cel.zero]; have hlook := HLK.out _ HM.out) | (go_at_call 18; refine (LenQ_any g b p _ HP.out).mono ?_; rintro e9 w9 ⟨rfl, rfl⟩)))
                    go_roundw
                    case rel => exact ⟨j + 1, by omega, by go_num, HP, HQ, HR, HM, HZ, HE⟩
                    case measure => simp [intOf]; omega
                · have HRK := Lib.hid (hrf (.inl hs))
                  clear hrf
                  by_cases hjl : (j : Int) < fr
                  · by_cases hfn : fr < p.n - 1
                    · go_wp2_with ((first | (go_at_call 21; refine (At_eq3 _ (by first | exact HQ.out | exact HP.out | exact HR.out) (by first | exact HQK.out | exact HPK.out | exact HRK.out)).mono ?_; rintro e9 w9 ⟨rfl, hb⟩; replace HP := Lib.hid (HP.out.ext hb); replace HQ := Lib.hid (HQ.out.ext hb); replace HR := Lib.hid (HR.out.ext hb); replace HM := Lib.hid (map_below HM.out hb HZ.out); replace HZ := Lib.hid (Nat.lt_of_lt_of_le HZ.out hb.size); replace HE := Lib.hid (Ext_trans hb HE.out); clear hb; dsimp only [Cel.zero]; have hlook := HLK.out _ HM.out) | (go_at_call 18; refine (LenQ_any g b p _ HP.out).mono ?_; rintro e9 w9 ⟨rfl, rfl⟩)))
                      go_roundw
                      case rel => exact ⟨j + 1, by omega, by go_num, HP, HQ, HR, HM, HZ, HE⟩
                      case measure => simp [intOf]; omega
                    · go_wp2_with ((first | (go_at_call 21; refine (At_eq3 _ (by first | exact HQ.out | exact HP.out | exact HR.out) (by first | exact HQK.out | exact HPK.out | exact HRK.out)).mono ?_; rintro e9 w9 ⟨rfl, hb⟩; replace HP := Lib.hid (HP.out.ext hb); replace HQ := Lib.hid (HQ.out.ext hb); replace HR := Lib.hid (HR.out.ext hb); replace HM := Lib.hid (map_below HM.out hb HZ.out); replace HZ := Lib.hid (Nat.lt_of_lt_of_le HZ.out hb.size); replace HE := Lib.hid (Ext_trans hb HE.out); clear hb; dsimp only [Cel.zero]; have hlook := HLK.out _ HM.out) | (go_at_call 18; refine (LenQ_any g b p _ HP.out).mono ?_; rintro e9 w9 ⟨rfl, rfl⟩)))
                      go_roundw
                      case rel => exact ⟨j + 1, by omega, by go_num, HP, HQ, HR, HM, HZ, HE⟩
                      case measure => simp [intOf]; omega
                  · go_wp2_with ((first | (go_at_call 21; refine (At_eq3 _ (by first | exact HQ.out | exact HP.out | exact HR.out) (by first | exact HQK.out | exact HPK.out | exact HRK.out)).mono ?_; rintro e9 w9 ⟨rfl, hb⟩; replace HP := Lib.hid (HP.out.ext hb); replace HQ := Lib.hid (HQ.out.ext hb); replace HR := Lib.hid (HR.out.ext hb); replace HM := Lib.hid (map_below HM.out hb HZ.out); replace HZ := Lib.hid (Nat.lt_of_lt_of_le HZ.out hb.size); replace HE := Lib.hid (Ext_trans hb HE.out); clear hb; dsimp only [Cel.zero]; have hlook := HLK.out _ HM.out) | (go_at_call 18; refine (LenQ_any g b p _ HP.out).mono ?_; rintro e9 w9 ⟨rfl, rfl⟩)))
                    go_roundw
                    case rel => exact ⟨j + 1, by omega, by go_num, HP, HQ, HR, HM, HZ, HE⟩
                    case measure => simp [intOf]; omega
          · go_wp2_with fail
            obtain ⟨Z, hZ'⟩ : ∃ Z, p.puts L ⟨bv, false, false, 0, 0⟩ = Z := ⟨_, rfl⟩
            have hR := Blk.new wr 71 #[.int .u8 60, .int .i64 tt, .int .u8 bv, .bool false, .slice none 0 0, .slice none 0 0]
            have hE : Ext wr (wr.alloc (.cells #[.int .u8 60, .int .i64 tt, .int .u8 bv, .bool false, .slice none 0 0, .slice none 0 0] 71)) := Ext_alloc (Ext_refl wr)
            have q1 := HP.out.glt
            have q2 := HP.out.clt
            obtain ⟨Wb, hW⟩ : ∃ Wb, wr.alloc (.cells #[.int .u8 60, .int .i64 tt, .int .u8 bv, .bool false, .slice none 0 0, .slice none 0 0] 71) = Wb := ⟨_, rfl⟩
            rw [hW] at hR hE ⊢
            clear hW
            have hre := run_ra p fr tt bv ⟨tt0, tt1⟩
            rw [HLM.out, hZ'] at hre
            refine (Paint_row g b p wr.heap.size 1 [ordN 60 tt bv] 0 [] fr ⟨fr0, fr1⟩ _ (HP.out.ext hE) hR (by simp; omega) ?hx3 (by show 1 ≤ maxLen; unfold maxLen; omega) hre).mono ?_
            case hx3 =>
              intro x hx
              simp only [List.mem_cons, List.not_mem_nil, or_false] at hx
              subst hx
              exact OrAt_nil _ _ _ _ _ hbv _
            rintro e9 wd ⟨rfl, hs, hch⟩
            have HPd := Lib.hid hs
            have HMd := Lib.hid (map_chg (map_below HM.out hE HZ.out) hch (by simp; omega))
            have HZd := Lib.hid (Nat.lt_of_lt_of_le (Nat.lt_of_lt_of_le HZ.out hE.size) hch.size)
            have HEd := Lib.hid (hch.ext (Ext_trans hE HE.out) (by intro i hi; simp at hi; omega))
            have hzn : Z.n = p.n := by rw [← hZ']; exact puts_n _ _ _
            have HZP := Lib.hid (fun (i : Int) (h : i ∈ L) (h0 : 0 ≤ i ∧ i < p.n) => (show Z.at i = ⟨bv, false, false, 0, 0⟩ by rw [← hZ']; exact puts_at _ L p i h (by unfold Pl.has; exact decide_eq_true h0)))
            clear hs hch hE hR hre hZ' HP HQ HR HM HZ HE q1 q2
            go_wp2_with fail
            refine (LenQ_any g b Z _ HPd.out).mono ?_
            rintro e9 we ⟨rfl, rfl⟩
            rw [hzn]
            go_wp2_with fail
            clear hlt
            go_loopw [29, 203] (fun _ v wr => ∃ j : Nat, (j : Int) ≤ p.n ∧ v = .int .i64 j ∧ Hid (PlAt wr g b Z) ∧ Hid (wr.ownsMap Try.prog 3 (plainElem Try.prog 4) bm k (setI L)) ∧ Hid (bm < wr.heap.size) ∧ Hid (Ext w wr)) (fun _ v _ => (p.n - intOf v).toNat)
            case atStart => exact ⟨0, by omega, rfl, HPd, HMd, HZd, HEd⟩
            case round =>
              clear HPd HMd HZd HEd
              obtain ⟨i, hi, rfl, HP, HM, HZ, HE⟩ := hrel
              by_cases hlt : (i : Int) < p.n
              · have hak := HAK.out (i : Int) (.lit (.bool false))
                have hkl : keyOf Try.prog 3 (.int .i64 (i : Int)) = some (.int .i64 (i : Int)) := Maps.keyOf_int_mk Try.underlying3 (wf_i64 (by omega))
                by_cases hin : (i : Int) ∈ L
                · rw [if_pos hin] at hak
                  have hlook := lookup_bool HM.out keyLaw Try.underlying34 Try.underlying4 (zeroBool wr) hkl (x := true) hak
                  have HPK := Lib.hid (HZP.out (i : Int) hin ⟨by omega, hlt⟩)
                  clear hak hkl hin
                  go_wp2_with fail
                  refine (At_eq3 _ HP.out HPK.out).mono ?_
                  rintro e9 w9 ⟨rfl, hb⟩
                  have HP2 := Lib.hid (HP.out.ext hb)
                  have HM2 := Lib.hid (map_below HM.out hb HZ.out)
                  have HZ2 := Lib.hid (Nat.lt_of_lt_of_le HZ.out hb.size)
                  have HE2 := Lib.hid (Ext_trans hb HE.out)
                  clear hb HP HM HZ HE
                  dsimp only
                  go_wp2_with fail
                  go_roundw
                  case rel => exact ⟨i + 1, by omega, by go_num, HP2, HM2, HZ2, HE2⟩
                  case measure => simp [intOf]; omega
                · rw [if_neg hin] at hak
                  have hlook := lookup_bool HM.out keyLaw Try.underlying34 Try.underlying4 (zeroBool wr) hkl (x := false) hak
                  clear hak hkl hin
                  go_wp2_with fail
                  go_roundw
                  case rel => exact ⟨i + 1, by omega, by go_num, HP, HM, HZ, HE⟩
                  case measure => simp [intOf]; omega
              · go_wp2_with fail
                go_ret
                exact ⟨rfl, HE.out⟩
set_option maxRecDepth 100000 in
theorem PaintKeeps_walk {H : Type} (w : World) {base : Nat} (v : Value) (t0 : Handed Try.prog H w 23 v) (k0 : Value.okWide Try.prog w .any base 23 v) (A : Option Addr) (n d : Nat) (t1 : Handed Try.prog H w 24 (.slice A n d))
    (a2 : Int) (w2 : (Lit.int .i64 a2).wf = true) (a3 : Int) (w3 : (Lit.int .i64 a3).wf = true) (a4 : Int) (w4 : (Lit.int .u8 a4).wf = true) :
    Calls Try.prog 10 #[v, .slice A n d, .int .i64 a2, .int .i64 a3, .int .u8 a4] w (Ret (.bool true) w) := by
  obtain ⟨r, c, rfl, _, _⟩ := size_arg t0 k0
  obtain ⟨cs, rfl, _, hl, hr, hcs⟩ := cel_rows t1
  exact PaintKeeps_any r c a2 a3 a4 (u8_wf w4) A d cs hcs hl w hr
end Go.Proofs.Ytmcfckdgolojlaa
