/- Chapter 20: TypingKeeps. -/
import Derived.Test.YtmldhgebbgalbaaYC
import Derived.Test.YtmldhgebbgalbaaY9
namespace Go.Proofs.Ytmldhgebbgalbaa
set_option linter.unusedVariables false
set_option linter.unusedSimpArgs false
open Go.RowKit Go.WideShapes Go.Sort
structure OpV where
  o : OpY
  A : Option Addr
  cc : Nat
def OpV.enc (x : OpV) : List Value := [.int .i64 x.o.k, .int .i64 x.o.a, .int .u8 x.o.b, .slice x.A x.o.l.length x.cc, .bool x.o.ins]
theorem OpV.len (x : OpV) : x.enc.length = 5 := rfl
/-- a step, as it lies in memory -/
structure OpAt (w : World) (x : OpV) : Prop where
  bb : 0 ≤ x.o.b ∧ x.o.b < 256
  ll : x.o.l.length ≤ maxLen
  lb : ∀ y ∈ x.o.l, 0 ≤ y ∧ y < 256
  rd : Rd w 1 x.A x.o.l.length (u8s x.o.l)
theorem fld_bytes {H : Type} {enc : TypeId × Value → H} {W : World} {base : Nat} {sp : Nat → Bool} {held : Bool} {v : Value} {q : Nat} {z : DataW H × List MemPlace} (h : DataW.trod enc Try.prog W base sp held q 32 [v] = some z) :
    ∃ A n c, ∃ l : List Int, v = .slice A n c ∧ l.length = n ∧ n ≤ c ∧ n ≤ maxLen ∧ Rd W 1 A n (u8s l) ∧ ∀ x ∈ l, 0 ≤ x ∧ x < 256 := by
  have hv : ∃ A n c, v = .slice A n c := by
    rcases Go.Deep.open_slice Try.underlying32 h with ⟨hcs, _⟩ | ⟨a, len, cap, m, n, D, Pl, hcs, _⟩
    · exact ⟨none, 0, 0, by simpa using hcs⟩
    · exact ⟨some a, len, cap, by simpa using hcs⟩
  obtain ⟨A, n, c, rfl⟩ := hv
  obtain ⟨d, ps⟩ := z
  obtain ⟨l, h1, h2, h3, h4, h5⟩ := arg_bytes (A := A) (n := n) (c := c) (d := d) (ps := ps) Try.underlying32 Try.underlying5 (by kernel_rfl) ⟨q, h⟩
  exact ⟨A, n, c, l, rfl, h1, h2, h3, h4, h5⟩
set_option maxRecDepth 100000 in
theorem op_rows {H : Type} {w : World} {A : Option Addr} {n c : Nat} (h : Handed Try.prog H w 25 (.slice A n c)) :
    ∃ xs : List OpV, xs.length = n ∧ n ≤ c ∧ n ≤ maxLen ∧ Rd w 5 A n (xs.flatMap OpV.enc) ∧ ∀ x ∈ xs, OpAt w x := by
  obtain ⟨enc, d, ps, h⟩ := h
  refine arg_structs OpV.enc (fun x => OpAt w x) Try.underlying25 (e := 34) (k := 5) (by kernel_rfl) (by omega) h (fun r m y hl hy => ?_)
  obtain ⟨v0, v1, v2, v3, v4, rfl⟩ : ∃ v0 v1 v2 v3 v4, r = [v0, v1, v2, v3, v4] := by
    match r, hl with
    | [a, b, c, d, e], _ => exact ⟨a, b, c, d, e, rfl⟩
  have he := Try.underlying34
  obtain ⟨q0, z0, h0⟩ := row_field he (by kernel_rfl) hy 0 _ rfl v0 rfl
  obtain ⟨q1, z1, h1⟩ := row_field he (by kernel_rfl) hy 1 _ rfl v1 rfl
  obtain ⟨q2, z2, h2⟩ := row_field he (by kernel_rfl) hy 2 _ rfl v2 rfl
  obtain ⟨q3, z3, h3⟩ := row_field he (by kernel_rfl) hy 3 _ rfl v3 rfl
  obtain ⟨q4, z4, h4⟩ := row_field he (by kernel_rfl) hy 4 _ rfl v4 rfl
  obtain ⟨k, rfl, _⟩ := field_int Try.underlying3 h0
  obtain ⟨a, rfl, _⟩ := field_int Try.underlying3 h1
  obtain ⟨b, rfl, hb⟩ := field_int Try.underlying5 h2
  obtain ⟨A5, n5, c5, l5, rfl, rfl, b1, b2, b3, b4⟩ := fld_bytes h3
  obtain ⟨ge, rfl⟩ := field_bool Try.underlying4 h4
  exact ⟨⟨⟨k, a, b, l5, ge⟩, A5, c5⟩, rfl, ⟨u8_wf hb, b2, b4, b3⟩⟩
theorem Mod_eq {b v : Int} (h : modB b false = v) (w : World) : Calls Try.prog 23 #[.int .u8 b, .bool false] w (Ret (.int .u8 v) w) := h ▸ Modify_any b false w
theorem Open_eq {g c : Nat} {p : Pl} {i : Int} {v : Bool} (h : p.open_ i = v) (w : World) (hp : PlAt w g c p) : Calls Try.prog 24 #[.pointer (some ⟨g, 0, none⟩), .int .i64 i] w (Ret (.bool v) w) := h ▸ Open_any g c p i w hp
set_option maxRecDepth 100000 in
set_option maxHeartbeats 16000000 in
theorem TypingKeeps_any (w : World) (r c at_ : Int) (A A2 : Option Addr) (d d2 : Nat) (cs : List Cel) (xs : List OpV) (hlx : xs.length ≤ maxLen) (hxs : ∀ x ∈ xs, OpAt w x) (hcs : ∀ x ∈ cs, 0 ≤ x.b ∧ x.b < 256) (hcl : cs.length ≤ maxLen) (hr : Rd w 5 A cs.length (cs.flatMap Cel.enc)) (hr2 : Rd w 5 A2 xs.length (xs.flatMap OpV.enc)) :
    Calls Try.prog 5 #[.agg #[.int .i64 r, .int .i64 c], .slice A cs.length d, .int .i64 at_, .slice A2 xs.length d2] w (Ret (.bool true) w) := by
  have HR2 := Lib.hid hr2
  have HXS := Lib.hid hxs
  have HLM := Lib.hid hlx
  clear hr2 hxs hlx
  have HCS := Lib.hid hcs
  have HCL := Lib.hid hcl
  have HR := Lib.hid (fun w' (h : Ext w w') => Rd_ext h hr)
  have HX := Lib.hid (Ext_refl w)
  clear hcs hcl hr
  go_enter Try.func5, Try.ntmps5
  go_wp2_with fail
  refine (alive20_any _).mono ?_
  rintro e wn ⟨rfl, hb⟩
  have hz0 : w.heap.size < wn.heap.size := (by have := hb.size; (try simp only [World.size_alloc, World.size_setCell, World.size_drew, size_drewN] at this); omega); have hc0_0 : wn.cell? ⟨w.heap.size, 0, none⟩ = some (.int .i64 r) := (cell_ext hb (by unfold In; first | omega | (simp; done) | (simp; omega))).trans (by go_simp); have hf0_0 : wn.frozen? ⟨w.heap.size, 0, none⟩ = false := (frozen_ext hb (by unfold In; first | omega | (simp; done) | (simp; omega))).trans (by go_simp); have hc0_1 : wn.cell? ⟨w.heap.size, 1, none⟩ = some (.int .i64 c) := (cell_ext hb (by unfold In; first | omega | (simp; done) | (simp; omega))).trans (by go_simp); have hf0_1 : wn.frozen? ⟨w.heap.size, 1, none⟩ = false := (frozen_ext hb (by unfold In; first | omega | (simp; done) | (simp; omega))).trans (by go_simp); have HXn := Lib.hid (Ext_trans hb (by repeat' (first | (with_reducible first | exact HX.out | apply Ext_alloc | apply Ext_drewN | apply Ext_drew | (refine Ext_set ?_ ?_) | exact Ext_refl _) | (simp only [World.size_alloc, World.size_setCell, World.size_drew, size_drewN]; omega) | (simp; done) | (simp; omega)))); clear hb HX; have HX := HXn; clear HXn
  go_wp2_with fail
  refine (made20_any r c at_ A d cs HCS.out HCL.out _ (HR.out _ HX.out)).mono ?_
  rintro e w3 (⟨a, b, v, k, rfl, ⟨A1, n1, d1, rfl⟩, hb⟩ | ⟨g, b, x, p, rfl, hP, hx, hb, hg, hbb, hxx, hne1, hne2, hp6⟩)
  · have HXn := Lib.hid (Ext_trans hb (by repeat' (first | (with_reducible first | exact HX.out | apply Ext_alloc | apply Ext_drewN | apply Ext_drew | (refine Ext_set ?_ ?_) | exact Ext_refl _) | (simp only [World.size_alloc, World.size_setCell, World.size_drew, size_drewN]; omega) | (simp; done) | (simp; omega)))); clear hb HX; have HX := HXn; clear HXn
    go_wp2_with fail
    go_ret
    exact ⟨rfl, (by repeat' (first | (with_reducible first | exact HX.out | apply Ext_alloc | apply Ext_drewN | apply Ext_drew | (refine Ext_set ?_ ?_) | exact Ext_refl _) | (simp only [World.size_alloc, World.size_setCell, World.size_drew, size_drewN]; omega) | (simp; done) | (simp; omega)))⟩
  have hws : w.heap.size ≤ wn.heap.size := HX.out.size
  have HP3 := Lib.hid hP
  have HE3 := Lib.hid (Ext_trans hb HX.out)
  have hgw : w.heap.size ≤ g := by omega
  have hbw : w.heap.size ≤ b := by omega
  clear hP hx hb HX hg hbb hxx hws hc0_0 hf0_0 hc0_1 hf0_1 hz0 HCS HCL HR hne1 hne2 hp6
  go_upto_region 4 with (fail)
  have hE4 := Ext_alloc (o := .cells #[.int .i64 p.rows, .int .i64 p.cols, .slice (some ⟨x, 0, none⟩) p.cells.length p.cells.length, .int .i64 p.cur] 29) (Ext_refl w3)
  have HP4 := Lib.hid (HP3.out.ext hE4)
  have HE4 := Lib.hid (Ext_trans hE4 HE3.out)
  clear hE4 HP3 HE3
  generalize w3.alloc (.cells #[.int .i64 p.rows, .int .i64 p.cols, .slice (some ⟨x, 0, none⟩) p.cells.length p.cells.length, .int .i64 p.cur] 29) = W4 at *
  by_cases h20 : (20 : Int) < (xs.length : Int)
  · go_wp2_with fail
    go_ret
    exact ⟨rfl, HE4.out⟩
  go_wp2_with fail
  go_loopw [13, 14, 15, 16, 17, 18, 19, 39] (fun _ _ _ _ _ _ _ v39 wr => ∃ (k : Nat) (P : Pl), k ≤ xs.length ∧ v39 = .int .i64 k ∧ Hid (PlAt wr g b P) ∧ Hid (Ext w wr)) (fun _ _ _ _ _ _ _ v39 _ => xs.length - (intOf v39).toNat)
  case atStart => exact ⟨0, p, by omega, rfl, HP4, HE4⟩
  case round =>
    clear HP4 HE4
    obtain ⟨k, P, hk, rfl, HP, HE⟩ := hrel
    by_cases hlt : k < xs.length
    · obtain ⟨rb, ro, eA, hc0⟩ := (Rd_ext HE.out HR2.out).elem OpV.enc OpV.len hlt (List.getElem?_eq_getElem hlt)
      have d0 := hc0 0 _ rfl
      have d1 := hc0 1 _ rfl
      have d2 := hc0 2 _ rfl
      have d3 := hc0 3 _ rfl
      have d4 := hc0 4 _ rfl
      simp only [Nat.add_zero] at d0
      have HOX := Lib.hid (HXS.out _ (List.getElem_mem hlt))
      clear hc0
      generalize xs[k] = x at *
      subst eA
      go_upto_region 9 with (fail)
      have hB := Blk.new wr 34 #[.int .i64 x.o.k, .int .i64 x.o.a, .int .u8 x.o.b, .slice x.A x.o.l.length x.cc, .bool x.o.ins]
      have hE := Ext_alloc (o := .cells #[.int .i64 x.o.k, .int .i64 x.o.a, .int .u8 x.o.b, .slice x.A x.o.l.length x.cc, .bool x.o.ins] 34) (Ext_refl wr)
      have hon : wr.heap.size ∉ [g, b] := by have h1 := HP.out.glt; have h2 := HP.out.clt; simp; omega
      generalize wr.alloc (.cells #[.int .i64 x.o.k, .int .i64 x.o.a, .int .u8 x.o.b, .slice x.A x.o.l.length x.cc, .bool x.o.ins] 34) = W5 at *
      generalize wr.heap.size = ob at *
      have HP5 := Lib.hid (HP.out.ext hE)
      have HE5 := Lib.hid (Ext_trans hE HE.out)
      have HB5 := Lib.hid hB
      have z3 := hB.cell 3
      simp at z3
      clear hE hB HP HE d0 d1 d2 d3 d4
      by_cases h30 : (30 : Int) < (x.o.l.length : Int)
      · go_wp2_with fail
        go_ret
        exact ⟨rfl, HE5.out⟩
      go_wp2_with fail
      refine (PClone_any g b P _ HP5.out).mono ?_
      rintro e w6 ⟨g2, c2, rfl, hq, hxa, hg2, hc2⟩
      have HP6 := Lib.hid (HP5.out.ext hxa)
      have HQ6 := Lib.hid hq
      have HE6 := Lib.hid (Ext_trans hxa HE5.out)
      have HB6 := Lib.hid (Blk.below' HB5.out hxa)
      have l1 := HP5.out.glt
      have l2 := HP5.out.clt
      have y0 := HB6.out.cell 0
      have y1 := HB6.out.cell 1
      have y2 := HB6.out.cell 2
      have y3 := HB6.out.cell 3
      have y4 := HB6.out.cell 4
      simp at y0 y1 y2 y3 y4
      have hoff : ∀ i, i ∈ [g, b] → 0 < x.o.l.length → Off i x.A := fun i hi hn ad e h => by
        obtain ⟨b9, o9, e9, hc9⟩ := HOX.out.rd.2 hn
        rw [e] at e9
        cases e9
        have h0 : 0 < (u8s x.o.l).length := by simpa [u8s] using hn
        have h1 : b9 < w.heap.size := block_lt_of_cell (hc9 0 (u8s x.o.l)[0] (List.getElem?_eq_getElem h0))
        have h2 : b9 = i := h
        simp at hi
        omega
      have hdo := do_any20 g b P x.o x.A x.cc HOX.out.bb HOX.out.ll HOX.out.lb w6 HP6.out (Rd_ext HE6.out HOX.out.rd) hoff
      obtain ⟨kk, _, herr⟩ := keep_do HP6.out.ok x.o HOX.out.bb HOX.out.lb
      obtain ⟨P2, n2, e2, hd⟩ : ∃ P2 n2 e2, P.doM x.o = (P2, n2, e2) := ⟨_, _, _, rfl⟩
      rw [hd] at hdo kk herr
      simp only at kk herr hdo
      have HK := Lib.hid kk
      have HER := Lib.hid herr
      have HDO := Lib.hid hdo
      clear hoff kk herr hd hdo hxa hq HP5 HB5 HE5 z3
      go_wp2_with fail
      refine HDO.out.mono ?_
      rintro e w7 ⟨rfl, hs, hch⟩
      have HP8 := Lib.hid hs
      have HQ8 := Lib.hid (HQ6.out.chg hch (by simp; omega) (by simp; omega))
      have HE8 := Lib.hid (hch.ext HE6.out (by intro i hi; simp at hi; omega))
      have u0 := (HB6.out.chg hch hon).cell 0
      simp at u0
      clear hs hch HP6 HQ6 HE6 HB6 y0 y1 y2 y3 y4 HDO
      by_cases he : e2 = 0
      · subst he
        clear HER
        go_wp2_with fail
        refine (LenQ_any g b P2 _ HP8.out).mono ?_
        rintro e w9 ⟨rfl, rfl⟩
        obtain ⟨n, hn⟩ : ∃ n, P2.cells.length = n := ⟨_, rfl⟩
        have hPn : P2.n = (n : Int) := by rw [← hn]; rfl
        rw [hPn]
        have hn4 : n ≤ 4096 := by have := HP8.out.ok.sz.n1; rw [hPn] at this; omega
        have HPN := Lib.hid hPn
        clear hn hPn
        go_wp2_with fail
        go_loopw [17, 18, 19, 70] (fun _ _ _ v70 wr => ∃ i : Nat, i ≤ n ∧ v70 = .int .i64 i ∧ Hid (PlAt wr g b P2) ∧ Hid (PlAt wr g2 c2 P) ∧ Hid (Ext w wr)) (fun _ _ _ v70 _ => n - (intOf v70).toNat)
        case atStart => exact ⟨0, by omega, rfl, HP8, HQ8, HE8⟩
        case round =>
          clear HP8 HQ8 HE8
          obtain ⟨i, hi, rfl, HP, HQ, HE⟩ := hrel
          by_cases hin : i < n
          · obtain ⟨A1, hA1⟩ : ∃ A1, P2.at (i : Int) = A1 := ⟨_, rfl⟩
            obtain ⟨B1, hB1⟩ : ∃ B1, P.at (i : Int) = B1 := ⟨_, rfl⟩
            have hst : A1.st = B1.st := by rw [← hA1, ← hB1]; exact congrFun HK.out.kin.st (i : Int)
            have hat := fun h => HK.out.attr (i : Int) h
            have hsh := HK.out.shut (i : Int)
            have hPst : P.st (i : Int) = B1.st := by unfold Pl.st; rw [hB1]
            rw [hA1, hB1, hPst] at hat
            rw [hA1, hB1, hPst] at hsh
            have hopn : P.open_ (i : Int) = true → B1.st = false := fun h => by rw [← hPst]; exact open_st h
            obtain ⟨op, hop⟩ : ∃ op, P.open_ (i : Int) = op := ⟨_, rfl⟩
            rw [hop] at hsh hopn
            have HOP := Lib.hid hop
            have HA1 := Lib.hid hA1
            have HB1 := Lib.hid hB1
            clear hop hA1 hB1 hPst
            obtain ⟨ab, age, ast, ali, aco⟩ := A1
            obtain ⟨bb, bge, bst, bli, bco⟩ := B1
            simp only at hst hat hsh hopn
            subst hst
            have HAT := Lib.hid hat
            have HSH := Lib.hid hsh
            have HON := Lib.hid hopn
            clear hat hsh hopn
            go_wp2_with fail
            refine (At_eqY HA1.out _ HP.out).mono ?_
            rintro e we ⟨rfl, hb⟩
            have HPe := Lib.hid (HP.out.ext hb)
            have HQe := Lib.hid (HQ.out.ext hb)
            have HEe := Lib.hid (Ext_trans hb HE.out)
            clear hb HP HQ HE
            go_wp2_with fail
            refine (At_eqY HB1.out _ HQe.out).mono ?_
            rintro e wf ⟨rfl, hb⟩
            have HPf := Lib.hid (HPe.out.ext hb)
            have HQf := Lib.hid (HQe.out.ext hb)
            have HEf := Lib.hid (Ext_trans hb HEe.out)
            clear hb HPe HQe HEe
            cases ast
            · cases op
              · have heq := HSH.out rfl rfl
                injection heq with e1 e2 _ e4 e5
                subst e1
                subst e2
                subst e4
                subst e5
                clear HAT HSH HON HA1 HB1
                go_upto_region 19 with (fail)
                have hA := (Blk.new wf 46 #[.int .u8 ab, .bool age, .bool false, .int .u8 ali, .int .u8 aco]).alloc (.cells #[.int .u8 ab, .bool age, .bool false, .int .u8 ali, .int .u8 aco] 46)
                have hB := Blk.new (wf.alloc (.cells #[.int .u8 ab, .bool age, .bool false, .int .u8 ali, .int .u8 aco] 46)) 46 #[.int .u8 ab, .bool age, .bool false, .int .u8 ali, .int .u8 aco]
                rw [World.size_alloc] at hB
                have hE : Ext wf ((wf.alloc (.cells #[.int .u8 ab, .bool age, .bool false, .int .u8 ali, .int .u8 aco] 46)).alloc (.cells #[.int .u8 ab, .bool age, .bool false, .int .u8 ali, .int .u8 aco] 46)) := Ext_alloc (Ext_alloc (Ext_refl wf))
                obtain ⟨wg, hwg⟩ : ∃ wg, (wf.alloc (.cells #[.int .u8 ab, .bool age, .bool false, .int .u8 ali, .int .u8 aco] 46)).alloc (.cells #[.int .u8 ab, .bool age, .bool false, .int .u8 ali, .int .u8 aco] 46) = wg := ⟨_, rfl⟩
                rw [hwg] at hA hB hE ⊢
                clear hwg
                have HPg := Lib.hid (HPf.out.ext hE)
                have HQg := Lib.hid (HQf.out.ext hE)
                have HEg := Lib.hid (Ext_trans hE HEf.out)
                clear hE HPf HQf HEf
                generalize wf.heap.size + 1 = bbk at *
                generalize wf.heap.size = abk at *
                have a0 := hA.cell 0
                have b0 := hB.cell 0
                have a1 := hA.cell 1
                have b1 := hB.cell 1
                have a2 := hA.cell 2
                have b2 := hB.cell 2
                have a3 := hA.cell 3
                have b3 := hB.cell 3
                have a4 := hA.cell 4
                have b4 := hB.cell 4
                simp at a0 a1 a2 a3 a4 b0 b1 b2 b3 b4
                have qa0 := fun d os => cell_regrown a0 d os
                have qb0 := fun d os => cell_regrown b0 d os
                have qa1 := fun d os => cell_regrown a1 d os
                have qb1 := fun d os => cell_regrown b1 d os
                have qa2 := fun d os => cell_regrown a2 d os
                have qb2 := fun d os => cell_regrown b2 d os
                have qa3 := fun d os => cell_regrown a3 d os
                have qb3 := fun d os => cell_regrown b3 d os
                have qa4 := fun d os => cell_regrown a4 d os
                have qb4 := fun d os => cell_regrown b4 d os
                clear a0 a1 a2 a3 a4 b0 b1 b2 b3 b4 hA hB
                refine wp_region_quiet_below rfl (by kernel_rfl) ?_
                repeat (go_big_quiet_step ((go_at_call 24; exact Calls.regrown_of (Open_eq HOP.out _ (HQg.out.ext (below_regrown _ _ _))))))
                refine wpQuiet_nil ?_
                intro _ hw'
                obtain ⟨⟨dq, osq⟩, hw''⟩ := hw'
                subst hw''
                have hb : Ext wg (grow (redrawn wg dq) osq) := below_regrown wg dq osq
                generalize grow (redrawn wg dq) osq = wh at *
                have HPh := Lib.hid (HPg.out.ext hb)
                have HQh := Lib.hid (HQg.out.ext hb)
                have HEh := Lib.hid (Ext_trans hb HEg.out)
                clear hb HPg HQg HEg qa0 qa1 qa2 qa3 qa4 qb0 qb1 qb2 qb3 qb4
                go_wp2_with fail
                go_roundw
                case rel => exact ⟨i + 1, by omega, by go_num, HPh, HQh, HEh⟩
                case measure => simp [intOf]; omega
              · clear HAT HSH HON HA1 HB1
                go_upto_region 19 with (fail)
                have hA := (Blk.new wf 46 #[.int .u8 ab, .bool age, .bool false, .int .u8 ali, .int .u8 aco]).alloc (.cells #[.int .u8 bb, .bool bge, .bool false, .int .u8 bli, .int .u8 bco] 46)
                have hB := Blk.new (wf.alloc (.cells #[.int .u8 ab, .bool age, .bool false, .int .u8 ali, .int .u8 aco] 46)) 46 #[.int .u8 bb, .bool bge, .bool false, .int .u8 bli, .int .u8 bco]
                rw [World.size_alloc] at hB
                have hE : Ext wf ((wf.alloc (.cells #[.int .u8 ab, .bool age, .bool false, .int .u8 ali, .int .u8 aco] 46)).alloc (.cells #[.int .u8 bb, .bool bge, .bool false, .int .u8 bli, .int .u8 bco] 46)) := Ext_alloc (Ext_alloc (Ext_refl wf))
                obtain ⟨wg, hwg⟩ : ∃ wg, (wf.alloc (.cells #[.int .u8 ab, .bool age, .bool false, .int .u8 ali, .int .u8 aco] 46)).alloc (.cells #[.int .u8 bb, .bool bge, .bool false, .int .u8 bli, .int .u8 bco] 46) = wg := ⟨_, rfl⟩
                rw [hwg] at hA hB hE ⊢
                clear hwg
                have HPg := Lib.hid (HPf.out.ext hE)
                have HQg := Lib.hid (HQf.out.ext hE)
                have HEg := Lib.hid (Ext_trans hE HEf.out)
                clear hE HPf HQf HEf
                generalize wf.heap.size + 1 = bbk at *
                generalize wf.heap.size = abk at *
                have a0 := hA.cell 0
                have b0 := hB.cell 0
                have a1 := hA.cell 1
                have b1 := hB.cell 1
                have a2 := hA.cell 2
                have b2 := hB.cell 2
                have a3 := hA.cell 3
                have b3 := hB.cell 3
                have a4 := hA.cell 4
                have b4 := hB.cell 4
                simp at a0 a1 a2 a3 a4 b0 b1 b2 b3 b4
                have qa0 := fun d os => cell_regrown a0 d os
                have qb0 := fun d os => cell_regrown b0 d os
                have qa1 := fun d os => cell_regrown a1 d os
                have qb1 := fun d os => cell_regrown b1 d os
                have qa2 := fun d os => cell_regrown a2 d os
                have qb2 := fun d os => cell_regrown b2 d os
                have qa3 := fun d os => cell_regrown a3 d os
                have qb3 := fun d os => cell_regrown b3 d os
                have qa4 := fun d os => cell_regrown a4 d os
                have qb4 := fun d os => cell_regrown b4 d os
                clear a0 a1 a2 a3 a4 b0 b1 b2 b3 b4 hA hB
                refine wp_region_quiet_below rfl (by kernel_rfl) ?_
                repeat (go_big_quiet_step ((go_at_call 24; exact Calls.regrown_of (Open_eq HOP.out _ (HQg.out.ext (below_regrown _ _ _))))))
                refine wpQuiet_nil ?_
                intro _ hw'
                obtain ⟨⟨dq, osq⟩, hw''⟩ := hw'
                subst hw''
                have hb : Ext wg (grow (redrawn wg dq) osq) := below_regrown wg dq osq
                generalize grow (redrawn wg dq) osq = wh at *
                have HPh := Lib.hid (HPg.out.ext hb)
                have HQh := Lib.hid (HQg.out.ext hb)
                have HEh := Lib.hid (Ext_trans hb HEg.out)
                clear hb HPg HQg HEg qa0 qa1 qa2 qa3 qa4 qb0 qb1 qb2 qb3 qb4
                go_wp2_with fail
                go_roundw
                case rel => exact ⟨i + 1, by omega, by go_num, HPh, HQh, HEh⟩
                case measure => simp [intOf]; omega
            · have hm := HAT.out rfl
              obtain ⟨mv, hmv⟩ : ∃ mv, modB ab false = mv := ⟨_, rfl⟩
              rw [hmv] at hm
              have HMA := Lib.hid hmv
              have HMB := Lib.hid hm.symm
              have hop2 : op = false := by
                cases op
                · rfl
                · exact absurd (HON.out rfl) (by simp)
              subst hop2
              clear HAT HSH HON HA1 HB1 hm hmv
              go_upto_region 19 with (fail)
              have hA := (Blk.new wf 46 #[.int .u8 ab, .bool age, .bool true, .int .u8 ali, .int .u8 aco]).alloc (.cells #[.int .u8 bb, .bool bge, .bool true, .int .u8 bli, .int .u8 bco] 46)
              have hB := Blk.new (wf.alloc (.cells #[.int .u8 ab, .bool age, .bool true, .int .u8 ali, .int .u8 aco] 46)) 46 #[.int .u8 bb, .bool bge, .bool true, .int .u8 bli, .int .u8 bco]
              rw [World.size_alloc] at hB
              have hE : Ext wf ((wf.alloc (.cells #[.int .u8 ab, .bool age, .bool true, .int .u8 ali, .int .u8 aco] 46)).alloc (.cells #[.int .u8 bb, .bool bge, .bool true, .int .u8 bli, .int .u8 bco] 46)) := Ext_alloc (Ext_alloc (Ext_refl wf))
              obtain ⟨wg, hwg⟩ : ∃ wg, (wf.alloc (.cells #[.int .u8 ab, .bool age, .bool true, .int .u8 ali, .int .u8 aco] 46)).alloc (.cells #[.int .u8 bb, .bool bge, .bool true, .int .u8 bli, .int .u8 bco] 46) = wg := ⟨_, rfl⟩
              rw [hwg] at hA hB hE ⊢
              clear hwg
              have HPg := Lib.hid (HPf.out.ext hE)
              have HQg := Lib.hid (HQf.out.ext hE)
              have HEg := Lib.hid (Ext_trans hE HEf.out)
              clear hE HPf HQf HEf
              generalize wf.heap.size + 1 = bbk at *
              generalize wf.heap.size = abk at *
              have a0 := hA.cell 0
              have b0 := hB.cell 0
              have a1 := hA.cell 1
              have b1 := hB.cell 1
              have a2 := hA.cell 2
              have b2 := hB.cell 2
              have a3 := hA.cell 3
              have b3 := hB.cell 3
              have a4 := hA.cell 4
              have b4 := hB.cell 4
              simp at a0 a1 a2 a3 a4 b0 b1 b2 b3 b4
              have qa0 := fun d os => cell_regrown a0 d os
              have qb0 := fun d os => cell_regrown b0 d os
              have qa1 := fun d os => cell_regrown a1 d os
              have qb1 := fun d os => cell_regrown b1 d os
              have qa2 := fun d os => cell_regrown a2 d os
              have qb2 := fun d os => cell_regrown b2 d os
              have qa3 := fun d os => cell_regrown a3 d os
              have qb3 := fun d os => cell_regrown b3 d os
              have qa4 := fun d os => cell_regrown a4 d os
              have qb4 := fun d os => cell_regrown b4 d os
              clear a0 a1 a2 a3 a4 b0 b1 b2 b3 b4 hA hB
              refine wp_region_quiet_below rfl (by kernel_rfl) ?_
              repeat (go_big_quiet_step (first | (go_at_call 23; exact Calls.regrown_of (Mod_eq HMA.out _)) | (go_at_call 23; exact Calls.regrown_of (Mod_eq HMB.out _)) | (go_at_call 24; exact Calls.regrown_of (Open_eq HOP.out _ (HQg.out.ext (below_regrown _ _ _))))))
              refine wpQuiet_nil ?_
              intro _ hw'
              obtain ⟨⟨dq, osq⟩, hw''⟩ := hw'
              subst hw''
              have hb : Ext wg (grow (redrawn wg dq) osq) := below_regrown wg dq osq
              generalize grow (redrawn wg dq) osq = wh at *
              have HPh := Lib.hid (HPg.out.ext hb)
              have HQh := Lib.hid (HQg.out.ext hb)
              have HEh := Lib.hid (Ext_trans hb HEg.out)
              clear hb HPg HQg HEg qa0 qa1 qa2 qa3 qa4 qb0 qb1 qb2 qb3 qb4
              go_wp2_with fail
              go_roundw
              case rel => exact ⟨i + 1, by omega, by go_num, HPh, HQh, HEh⟩
              case measure => simp [intOf]; omega
          · have hin2 : i = n := by omega
            go_wp2_with fail
            go_roundw
            case rel => exact ⟨k + 1, P2, by omega, by go_num, HP, HE⟩
            case measure => simp [intOf]; omega
      · have he2 : (e2 != 0) = true := by rw [bne_iff_ne]; exact he
        by_cases hk4 : x.o.k = 4
        · have hk5 : (x.o.k != 4) = false := by simpa using hk4
          have HK4 := Lib.hid hk4
          clear hk4 HER
          go_wp2_with fail
          refine (LenQ_any g b P2 _ HP8.out).mono ?_
          rintro e w9 ⟨rfl, rfl⟩
          obtain ⟨n, hn⟩ : ∃ n, P2.cells.length = n := ⟨_, rfl⟩
          have hPn : P2.n = (n : Int) := by rw [← hn]; rfl
          rw [hPn]
          have hn4 : n ≤ 4096 := by have := HP8.out.ok.sz.n1; rw [hPn] at this; omega
          have HPN := Lib.hid hPn
          clear hn hPn
          go_wp2_with fail
          go_loopw [17, 18, 19, 70] (fun _ _ _ v70 wr => ∃ i : Nat, i ≤ n ∧ v70 = .int .i64 i ∧ Hid (PlAt wr g b P2) ∧ Hid (PlAt wr g2 c2 P) ∧ Hid (Ext w wr)) (fun _ _ _ v70 _ => n - (intOf v70).toNat)
          case atStart => exact ⟨0, by omega, rfl, HP8, HQ8, HE8⟩
          case round =>
            clear HP8 HQ8 HE8
            obtain ⟨i, hi, rfl, HP, HQ, HE⟩ := hrel
            by_cases hin : i < n
            · obtain ⟨A1, hA1⟩ : ∃ A1, P2.at (i : Int) = A1 := ⟨_, rfl⟩
              obtain ⟨B1, hB1⟩ : ∃ B1, P.at (i : Int) = B1 := ⟨_, rfl⟩
              have hst : A1.st = B1.st := by rw [← hA1, ← hB1]; exact congrFun HK.out.kin.st (i : Int)
              have hat := fun h => HK.out.attr (i : Int) h
              have hsh := HK.out.shut (i : Int)
              have hPst : P.st (i : Int) = B1.st := by unfold Pl.st; rw [hB1]
              rw [hA1, hB1, hPst] at hat
              rw [hA1, hB1, hPst] at hsh
              have hopn : P.open_ (i : Int) = true → B1.st = false := fun h => by rw [← hPst]; exact open_st h
              obtain ⟨op, hop⟩ : ∃ op, P.open_ (i : Int) = op := ⟨_, rfl⟩
              rw [hop] at hsh hopn
              have HOP := Lib.hid hop
              have HA1 := Lib.hid hA1
              have HB1 := Lib.hid hB1
              clear hop hA1 hB1 hPst
              obtain ⟨ab, age, ast, ali, aco⟩ := A1
              obtain ⟨bb, bge, bst, bli, bco⟩ := B1
              simp only at hst hat hsh hopn
              subst hst
              have HAT := Lib.hid hat
              have HSH := Lib.hid hsh
              have HON := Lib.hid hopn
              clear hat hsh hopn
              go_wp2_with fail
              refine (At_eqY HA1.out _ HP.out).mono ?_
              rintro e we ⟨rfl, hb⟩
              have HPe := Lib.hid (HP.out.ext hb)
              have HQe := Lib.hid (HQ.out.ext hb)
              have HEe := Lib.hid (Ext_trans hb HE.out)
              clear hb HP HQ HE
              go_wp2_with fail
              refine (At_eqY HB1.out _ HQe.out).mono ?_
              rintro e wf ⟨rfl, hb⟩
              have HPf := Lib.hid (HPe.out.ext hb)
              have HQf := Lib.hid (HQe.out.ext hb)
              have HEf := Lib.hid (Ext_trans hb HEe.out)
              clear hb HPe HQe HEe
              cases ast
              · cases op
                · have heq := HSH.out rfl rfl
                  injection heq with e1 e2 _ e4 e5
                  subst e1
                  subst e2
                  subst e4
                  subst e5
                  clear HAT HSH HON HA1 HB1
                  go_upto_region 19 with (fail)
                  have hA := (Blk.new wf 46 #[.int .u8 ab, .bool age, .bool false, .int .u8 ali, .int .u8 aco]).alloc (.cells #[.int .u8 ab, .bool age, .bool false, .int .u8 ali, .int .u8 aco] 46)
                  have hB := Blk.new (wf.alloc (.cells #[.int .u8 ab, .bool age, .bool false, .int .u8 ali, .int .u8 aco] 46)) 46 #[.int .u8 ab, .bool age, .bool false, .int .u8 ali, .int .u8 aco]
                  rw [World.size_alloc] at hB
                  have hE : Ext wf ((wf.alloc (.cells #[.int .u8 ab, .bool age, .bool false, .int .u8 ali, .int .u8 aco] 46)).alloc (.cells #[.int .u8 ab, .bool age, .bool false, .int .u8 ali, .int .u8 aco] 46)) := Ext_alloc (Ext_alloc (Ext_refl wf))
                  obtain ⟨wg, hwg⟩ : ∃ wg, (wf.alloc (.cells #[.int .u8 ab, .bool age, .bool false, .int .u8 ali, .int .u8 aco] 46)).alloc (.cells #[.int .u8 ab, .bool age, .bool false, .int .u8 ali, .int .u8 aco] 46) = wg := ⟨_, rfl⟩
                  rw [hwg] at hA hB hE ⊢
                  clear hwg
                  have HPg := Lib.hid (HPf.out.ext hE)
                  have HQg := Lib.hid (HQf.out.ext hE)
                  have HEg := Lib.hid (Ext_trans hE HEf.out)
                  clear hE HPf HQf HEf
                  generalize wf.heap.size + 1 = bbk at *
                  generalize wf.heap.size = abk at *
                  have a0 := hA.cell 0
                  have b0 := hB.cell 0
                  have a1 := hA.cell 1
                  have b1 := hB.cell 1
                  have a2 := hA.cell 2
                  have b2 := hB.cell 2
                  have a3 := hA.cell 3
                  have b3 := hB.cell 3
                  have a4 := hA.cell 4
                  have b4 := hB.cell 4
                  simp at a0 a1 a2 a3 a4 b0 b1 b2 b3 b4
                  have qa0 := fun d os => cell_regrown a0 d os
                  have qb0 := fun d os => cell_regrown b0 d os
                  have qa1 := fun d os => cell_regrown a1 d os
                  have qb1 := fun d os => cell_regrown b1 d os
                  have qa2 := fun d os => cell_regrown a2 d os
                  have qb2 := fun d os => cell_regrown b2 d os
                  have qa3 := fun d os => cell_regrown a3 d os
                  have qb3 := fun d os => cell_regrown b3 d os
                  have qa4 := fun d os => cell_regrown a4 d os
                  have qb4 := fun d os => cell_regrown b4 d os
                  clear a0 a1 a2 a3 a4 b0 b1 b2 b3 b4 hA hB
                  refine wp_region_quiet_below rfl (by kernel_rfl) ?_
                  repeat (go_big_quiet_step ((go_at_call 24; exact Calls.regrown_of (Open_eq HOP.out _ (HQg.out.ext (below_regrown _ _ _))))))
                  refine wpQuiet_nil ?_
                  intro _ hw'
                  obtain ⟨⟨dq, osq⟩, hw''⟩ := hw'
                  subst hw''
                  have hb : Ext wg (grow (redrawn wg dq) osq) := below_regrown wg dq osq
                  generalize grow (redrawn wg dq) osq = wh at *
                  have HPh := Lib.hid (HPg.out.ext hb)
                  have HQh := Lib.hid (HQg.out.ext hb)
                  have HEh := Lib.hid (Ext_trans hb HEg.out)
                  clear hb HPg HQg HEg qa0 qa1 qa2 qa3 qa4 qb0 qb1 qb2 qb3 qb4
                  go_wp2_with fail
                  go_roundw
                  case rel => exact ⟨i + 1, by omega, by go_num, HPh, HQh, HEh⟩
                  case measure => simp [intOf]; omega
                · clear HAT HSH HON HA1 HB1
                  go_upto_region 19 with (fail)
                  have hA := (Blk.new wf 46 #[.int .u8 ab, .bool age, .bool false, .int .u8 ali, .int .u8 aco]).alloc (.cells #[.int .u8 bb, .bool bge, .bool false, .int .u8 bli, .int .u8 bco] 46)
                  have hB := Blk.new (wf.alloc (.cells #[.int .u8 ab, .bool age, .bool false, .int .u8 ali, .int .u8 aco] 46)) 46 #[.int .u8 bb, .bool bge, .bool false, .int .u8 bli, .int .u8 bco]
                  rw [World.size_alloc] at hB
                  have hE : Ext wf ((wf.alloc (.cells #[.int .u8 ab, .bool age, .bool false, .int .u8 ali, .int .u8 aco] 46)).alloc (.cells #[.int .u8 bb, .bool bge, .bool false, .int .u8 bli, .int .u8 bco] 46)) := Ext_alloc (Ext_alloc (Ext_refl wf))
                  obtain ⟨wg, hwg⟩ : ∃ wg, (wf.alloc (.cells #[.int .u8 ab, .bool age, .bool false, .int .u8 ali, .int .u8 aco] 46)).alloc (.cells #[.int .u8 bb, .bool bge, .bool false, .int .u8 bli, .int .u8 bco] 46) = wg := ⟨_, rfl⟩
                  rw [hwg] at hA hB hE ⊢
                  clear hwg
                  have HPg := Lib.hid (HPf.out.ext hE)
                  have HQg := Lib.hid (HQf.out.ext hE)
                  have HEg := Lib.hid (Ext_trans hE HEf.out)
                  clear hE HPf HQf HEf
                  generalize wf.heap.size + 1 = bbk at *
                  generalize wf.heap.size = abk at *
                  have a0 := hA.cell 0
                  have b0 := hB.cell 0
                  have a1 := hA.cell 1
                  have b1 := hB.cell 1
                  have a2 := hA.cell 2
                  have b2 := hB.cell 2
                  have a3 := hA.cell 3
                  have b3 := hB.cell 3
                  have a4 := hA.cell 4
                  have b4 := hB.cell 4
                  simp at a0 a1 a2 a3 a4 b0 b1 b2 b3 b4
                  have qa0 := fun d os => cell_regrown a0 d os
                  have qb0 := fun d os => cell_regrown b0 d os
                  have qa1 := fun d os => cell_regrown a1 d os
                  have qb1 := fun d os => cell_regrown b1 d os
                  have qa2 := fun d os => cell_regrown a2 d os
                  have qb2 := fun d os => cell_regrown b2 d os
                  have qa3 := fun d os => cell_regrown a3 d os
                  have qb3 := fun d os => cell_regrown b3 d os
                  have qa4 := fun d os => cell_regrown a4 d os
                  have qb4 := fun d os => cell_regrown b4 d os
                  clear a0 a1 a2 a3 a4 b0 b1 b2 b3 b4 hA hB
                  refine wp_region_quiet_below rfl (by kernel_rfl) ?_
                  repeat (go_big_quiet_step ((go_at_call 24; exact Calls.regrown_of (Open_eq HOP.out _ (HQg.out.ext (below_regrown _ _ _))))))
                  refine wpQuiet_nil ?_
                  intro _ hw'
                  obtain ⟨⟨dq, osq⟩, hw''⟩ := hw'
                  subst hw''
                  have hb : Ext wg (grow (redrawn wg dq) osq) := below_regrown wg dq osq
                  generalize grow (redrawn wg dq) osq = wh at *
                  have HPh := Lib.hid (HPg.out.ext hb)
                  have HQh := Lib.hid (HQg.out.ext hb)
                  have HEh := Lib.hid (Ext_trans hb HEg.out)
                  clear hb HPg HQg HEg qa0 qa1 qa2 qa3 qa4 qb0 qb1 qb2 qb3 qb4
                  go_wp2_with fail
                  go_roundw
                  case rel => exact ⟨i + 1, by omega, by go_num, HPh, HQh, HEh⟩
                  case measure => simp [intOf]; omega
              · have hm := HAT.out rfl
                obtain ⟨mv, hmv⟩ : ∃ mv, modB ab false = mv := ⟨_, rfl⟩
                rw [hmv] at hm
                have HMA := Lib.hid hmv
                have HMB := Lib.hid hm.symm
                have hop2 : op = false := by
                  cases op
                  · rfl
                  · exact absurd (HON.out rfl) (by simp)
                subst hop2
                clear HAT HSH HON HA1 HB1 hm hmv
                go_upto_region 19 with (fail)
                have hA := (Blk.new wf 46 #[.int .u8 ab, .bool age, .bool true, .int .u8 ali, .int .u8 aco]).alloc (.cells #[.int .u8 bb, .bool bge, .bool true, .int .u8 bli, .int .u8 bco] 46)
                have hB := Blk.new (wf.alloc (.cells #[.int .u8 ab, .bool age, .bool true, .int .u8 ali, .int .u8 aco] 46)) 46 #[.int .u8 bb, .bool bge, .bool true, .int .u8 bli, .int .u8 bco]
                rw [World.size_alloc] at hB
                have hE : Ext wf ((wf.alloc (.cells #[.int .u8 ab, .bool age, .bool true, .int .u8 ali, .int .u8 aco] 46)).alloc (.cells #[.int .u8 bb, .bool bge, .bool true, .int .u8 bli, .int .u8 bco] 46)) := Ext_alloc (Ext_alloc (Ext_refl wf))
                obtain ⟨wg, hwg⟩ : ∃ wg, (wf.alloc (.cells #[.int .u8 ab, .bool age, .bool true, .int .u8 ali, .int .u8 aco] 46)).alloc (.cells #[.int .u8 bb, .bool bge, .bool true, .int .u8 bli, .int .u8 bco] 46) = wg := ⟨_, rfl⟩
                rw [hwg] at hA hB hE ⊢
                clear hwg
                have HPg := Lib.hid (HPf.out.ext hE)
                have HQg := Lib.hid (HQf.out.ext hE)
                have HEg := Lib.hid (Ext_trans hE HEf.out)
                clear hE HPf HQf HEf
                generalize wf.heap.size + 1 = bbk at *
                generalize wf.heap.size = abk at *
                have a0 := hA.cell 0
                have b0 := hB.cell 0
                have a1 := hA.cell 1
                have b1 := hB.cell 1
                have a2 := hA.cell 2
                have b2 := hB.cell 2
                have a3 := hA.cell 3
                have b3 := hB.cell 3
                have a4 := hA.cell 4
                have b4 := hB.cell 4
                simp at a0 a1 a2 a3 a4 b0 b1 b2 b3 b4
                have qa0 := fun d os => cell_regrown a0 d os
                have qb0 := fun d os => cell_regrown b0 d os
                have qa1 := fun d os => cell_regrown a1 d os
                have qb1 := fun d os => cell_regrown b1 d os
                have qa2 := fun d os => cell_regrown a2 d os
                have qb2 := fun d os => cell_regrown b2 d os
                have qa3 := fun d os => cell_regrown a3 d os
                have qb3 := fun d os => cell_regrown b3 d os
                have qa4 := fun d os => cell_regrown a4 d os
                have qb4 := fun d os => cell_regrown b4 d os
                clear a0 a1 a2 a3 a4 b0 b1 b2 b3 b4 hA hB
                refine wp_region_quiet_below rfl (by kernel_rfl) ?_
                repeat (go_big_quiet_step (first | (go_at_call 23; exact Calls.regrown_of (Mod_eq HMA.out _)) | (go_at_call 23; exact Calls.regrown_of (Mod_eq HMB.out _)) | (go_at_call 24; exact Calls.regrown_of (Open_eq HOP.out _ (HQg.out.ext (below_regrown _ _ _))))))
                refine wpQuiet_nil ?_
                intro _ hw'
                obtain ⟨⟨dq, osq⟩, hw''⟩ := hw'
                subst hw''
                have hb : Ext wg (grow (redrawn wg dq) osq) := below_regrown wg dq osq
                generalize grow (redrawn wg dq) osq = wh at *
                have HPh := Lib.hid (HPg.out.ext hb)
                have HQh := Lib.hid (HQg.out.ext hb)
                have HEh := Lib.hid (Ext_trans hb HEg.out)
                clear hb HPg HQg HEg qa0 qa1 qa2 qa3 qa4 qb0 qb1 qb2 qb3 qb4
                go_wp2_with fail
                go_roundw
                case rel => exact ⟨i + 1, by omega, by go_num, HPh, HQh, HEh⟩
                case measure => simp [intOf]; omega
            · have hin2 : i = n := by omega
              go_wp2_with fail
              go_roundw
              case rel => exact ⟨k + 1, P2, by omega, by go_num, HP, HE⟩
              case measure => simp [intOf]; omega
        · have hk5 : (x.o.k != 4) = true := by rw [bne_iff_ne]; exact hk4
          have HPE := Lib.hid (HER.out he hk4)
          clear HER
          go_wp2_with fail
          refine (PSame_r _ HP8.out (by rw [HPE.out]; exact HQ8.out)).mono ?_
          rintro e w8 ⟨rfl, hb⟩
          have HP9 := Lib.hid (HP8.out.ext hb)
          have HQ9 := Lib.hid (HQ8.out.ext hb)
          have HE9 := Lib.hid (Ext_trans hb HE8.out)
          clear hb HP8 HQ8 HE8 u0
          have HP8 := HP9
          have HQ8 := HQ9
          have HE8 := HE9
          clear HP9 HQ9 HE9
          go_wp2_with fail
          refine (LenQ_any g b P2 _ HP8.out).mono ?_
          rintro e w9 ⟨rfl, rfl⟩
          obtain ⟨n, hn⟩ : ∃ n, P2.cells.length = n := ⟨_, rfl⟩
          have hPn : P2.n = (n : Int) := by rw [← hn]; rfl
          rw [hPn]
          have hn4 : n ≤ 4096 := by have := HP8.out.ok.sz.n1; rw [hPn] at this; omega
          have HPN := Lib.hid hPn
          clear hn hPn
          go_wp2_with fail
          go_loopw [17, 18, 19, 70] (fun _ _ _ v70 wr => ∃ i : Nat, i ≤ n ∧ v70 = .int .i64 i ∧ Hid (PlAt wr g b P2) ∧ Hid (PlAt wr g2 c2 P) ∧ Hid (Ext w wr)) (fun _ _ _ v70 _ => n - (intOf v70).toNat)
          case atStart => exact ⟨0, by omega, rfl, HP8, HQ8, HE8⟩
          case round =>
            clear HP8 HQ8 HE8
            obtain ⟨i, hi, rfl, HP, HQ, HE⟩ := hrel
            by_cases hin : i < n
            · obtain ⟨A1, hA1⟩ : ∃ A1, P2.at (i : Int) = A1 := ⟨_, rfl⟩
              obtain ⟨B1, hB1⟩ : ∃ B1, P.at (i : Int) = B1 := ⟨_, rfl⟩
              have hst : A1.st = B1.st := by rw [← hA1, ← hB1]; exact congrFun HK.out.kin.st (i : Int)
              have hat := fun h => HK.out.attr (i : Int) h
              have hsh := HK.out.shut (i : Int)
              have hPst : P.st (i : Int) = B1.st := by unfold Pl.st; rw [hB1]
              rw [hA1, hB1, hPst] at hat
              rw [hA1, hB1, hPst] at hsh
              have hopn : P.open_ (i : Int) = true → B1.st = false := fun h => by rw [← hPst]; exact open_st h
              obtain ⟨op, hop⟩ : ∃ op, P.open_ (i : Int) = op := ⟨_, rfl⟩
              rw [hop] at hsh hopn
              have HOP := Lib.hid hop
              have HA1 := Lib.hid hA1
              have HB1 := Lib.hid hB1
              clear hop hA1 hB1 hPst
              obtain ⟨ab, age, ast, ali, aco⟩ := A1
              obtain ⟨bb, bge, bst, bli, bco⟩ := B1
              simp only at hst hat hsh hopn
              subst hst
              have HAT := Lib.hid hat
              have HSH := Lib.hid hsh
              have HON := Lib.hid hopn
              clear hat hsh hopn
              go_wp2_with fail
              refine (At_eqY HA1.out _ HP.out).mono ?_
              rintro e we ⟨rfl, hb⟩
              have HPe := Lib.hid (HP.out.ext hb)
              have HQe := Lib.hid (HQ.out.ext hb)
              have HEe := Lib.hid (Ext_trans hb HE.out)
              clear hb HP HQ HE
              go_wp2_with fail
              refine (At_eqY HB1.out _ HQe.out).mono ?_
              rintro e wf ⟨rfl, hb⟩
              have HPf := Lib.hid (HPe.out.ext hb)
              have HQf := Lib.hid (HQe.out.ext hb)
              have HEf := Lib.hid (Ext_trans hb HEe.out)
              clear hb HPe HQe HEe
              cases ast
              · cases op
                · have heq := HSH.out rfl rfl
                  injection heq with e1 e2 _ e4 e5
                  subst e1
                  subst e2
                  subst e4
                  subst e5
                  clear HAT HSH HON HA1 HB1
                  go_upto_region 19 with (fail)
                  have hA := (Blk.new wf 46 #[.int .u8 ab, .bool age, .bool false, .int .u8 ali, .int .u8 aco]).alloc (.cells #[.int .u8 ab, .bool age, .bool false, .int .u8 ali, .int .u8 aco] 46)
                  have hB := Blk.new (wf.alloc (.cells #[.int .u8 ab, .bool age, .bool false, .int .u8 ali, .int .u8 aco] 46)) 46 #[.int .u8 ab, .bool age, .bool false, .int .u8 ali, .int .u8 aco]
                  rw [World.size_alloc] at hB
                  have hE : Ext wf ((wf.alloc (.cells #[.int .u8 ab, .bool age, .bool false, .int .u8 ali, .int .u8 aco] 46)).alloc (.cells #[.int .u8 ab, .bool age, .bool false, .int .u8 ali, .int .u8 aco] 46)) := Ext_alloc (Ext_alloc (Ext_refl wf))
                  obtain ⟨wg, hwg⟩ : ∃ wg, (wf.alloc (.cells #[.int .u8 ab, .bool age, .bool false, .int .u8 ali, .int .u8 aco] 46)).alloc (.cells #[.int .u8 ab, .bool age, .bool false, .int .u8 ali, .int .u8 aco] 46) = wg := ⟨_, rfl⟩
                  rw [hwg] at hA hB hE ⊢
                  clear hwg
                  have HPg := Lib.hid (HPf.out.ext hE)
                  have HQg := Lib.hid (HQf.out.ext hE)
                  have HEg := Lib.hid (Ext_trans hE HEf.out)
                  clear hE HPf HQf HEf
                  generalize wf.heap.size + 1 = bbk at *
                  generalize wf.heap.size = abk at *
                  have a0 := hA.cell 0
                  have b0 := hB.cell 0
                  have a1 := hA.cell 1
                  have b1 := hB.cell 1
                  have a2 := hA.cell 2
                  have b2 := hB.cell 2
                  have a3 := hA.cell 3
                  have b3 := hB.cell 3
                  have a4 := hA.cell 4
                  have b4 := hB.cell 4
                  simp at a0 a1 a2 a3 a4 b0 b1 b2 b3 b4
                  have qa0 := fun d os => cell_regrown a0 d os
                  have qb0 := fun d os => cell_regrown b0 d os
                  have qa1 := fun d os => cell_regrown a1 d os
                  have qb1 := fun d os => cell_regrown b1 d os
                  have qa2 := fun d os => cell_regrown a2 d os
                  have qb2 := fun d os => cell_regrown b2 d os
                  have qa3 := fun d os => cell_regrown a3 d os
                  have qb3 := fun d os => cell_regrown b3 d os
                  have qa4 := fun d os => cell_regrown a4 d os
                  have qb4 := fun d os => cell_regrown b4 d os
                  clear a0 a1 a2 a3 a4 b0 b1 b2 b3 b4 hA hB
                  refine wp_region_quiet_below rfl (by kernel_rfl) ?_
                  repeat (go_big_quiet_step ((go_at_call 24; exact Calls.regrown_of (Open_eq HOP.out _ (HQg.out.ext (below_regrown _ _ _))))))
                  refine wpQuiet_nil ?_
                  intro _ hw'
                  obtain ⟨⟨dq, osq⟩, hw''⟩ := hw'
                  subst hw''
                  have hb : Ext wg (grow (redrawn wg dq) osq) := below_regrown wg dq osq
                  generalize grow (redrawn wg dq) osq = wh at *
                  have HPh := Lib.hid (HPg.out.ext hb)
                  have HQh := Lib.hid (HQg.out.ext hb)
                  have HEh := Lib.hid (Ext_trans hb HEg.out)
                  clear hb HPg HQg HEg qa0 qa1 qa2 qa3 qa4 qb0 qb1 qb2 qb3 qb4
                  go_wp2_with fail
                  go_roundw
                  case rel => exact ⟨i + 1, by omega, by go_num, HPh, HQh, HEh⟩
                  case measure => simp [intOf]; omega
                · clear HAT HSH HON HA1 HB1
                  go_upto_region 19 with (fail)
                  have hA := (Blk.new wf 46 #[.int .u8 ab, .bool age, .bool false, .int .u8 ali, .int .u8 aco]).alloc (.cells #[.int .u8 bb, .bool bge, .bool false, .int .u8 bli, .int .u8 bco] 46)
                  have hB := Blk.new (wf.alloc (.cells #[.int .u8 ab, .bool age, .bool false, .int .u8 ali, .int .u8 aco] 46)) 46 #[.int .u8 bb, .bool bge, .bool false, .int .u8 bli, .int .u8 bco]
                  rw [World.size_alloc] at hB
                  have hE : Ext wf ((wf.alloc (.cells #[.int .u8 ab, .bool age, .bool false, .int .u8 ali, .int .u8 aco] 46)).alloc (.cells #[.int .u8 bb, .bool bge, .bool false, .int .u8 bli, .int .u8 bco] 46)) := Ext_alloc (Ext_alloc (Ext_refl wf))
                  obtain ⟨wg, hwg⟩ : ∃ wg, (wf.alloc (.cells #[.int .u8 ab, .bool age, .bool false, .int .u8 ali, .int .u8 aco] 46)).alloc (.cells #[.int .u8 bb, .bool bge, .bool false, .int .u8 bli, .int .u8 bco] 46) = wg := ⟨_, rfl⟩
                  rw [hwg] at hA hB hE ⊢
                  clear hwg
                  have HPg := Lib.hid (HPf.out.ext hE)
                  have HQg := Lib.hid (HQf.out.ext hE)
                  have HEg := Lib.hid (Ext_trans hE HEf.out)
                  clear hE HPf HQf HEf
                  generalize wf.heap.size + 1 = bbk at *
                  generalize wf.heap.size = abk at *
                  have a0 := hA.cell 0
                  have b0 := hB.cell 0
                  have a1 := hA.cell 1
                  have b1 := hB.cell 1
                  have a2 := hA.cell 2
                  have b2 := hB.cell 2
                  have a3 := hA.cell 3
                  have b3 := hB.cell 3
                  have a4 := hA.cell 4
                  have b4 := hB.cell 4
                  simp at a0 a1 a2 a3 a4 b0 b1 b2 b3 b4
                  have qa0 := fun d os => cell_regrown a0 d os
                  have qb0 := fun d os => cell_regrown b0 d os
                  have qa1 := fun d os => cell_regrown a1 d os
                  have qb1 := fun d os => cell_regrown b1 d os
                  have qa2 := fun d os => cell_regrown a2 d os
                  have qb2 := fun d os => cell_regrown b2 d os
                  have qa3 := fun d os => cell_regrown a3 d os
                  have qb3 := fun d os => cell_regrown b3 d os
                  have qa4 := fun d os => cell_regrown a4 d os
                  have qb4 := fun d os => cell_regrown b4 d os
                  clear a0 a1 a2 a3 a4 b0 b1 b2 b3 b4 hA hB
                  refine wp_region_quiet_below rfl (by kernel_rfl) ?_
                  repeat (go_big_quiet_step ((go_at_call 24; exact Calls.regrown_of (Open_eq HOP.out _ (HQg.out.ext (below_regrown _ _ _))))))
                  refine wpQuiet_nil ?_
                  intro _ hw'
                  obtain ⟨⟨dq, osq⟩, hw''⟩ := hw'
                  subst hw''
                  have hb : Ext wg (grow (redrawn wg dq) osq) := below_regrown wg dq osq
                  generalize grow (redrawn wg dq) osq = wh at *
                  have HPh := Lib.hid (HPg.out.ext hb)
                  have HQh := Lib.hid (HQg.out.ext hb)
                  have HEh := Lib.hid (Ext_trans hb HEg.out)
                  clear hb HPg HQg HEg qa0 qa1 qa2 qa3 qa4 qb0 qb1 qb2 qb3 qb4
                  go_wp2_with fail
                  go_roundw
                  case rel => exact ⟨i + 1, by omega, by go_num, HPh, HQh, HEh⟩
                  case measure => simp [intOf]; omega
              · have hm := HAT.out rfl
                obtain ⟨mv, hmv⟩ : ∃ mv, modB ab false = mv := ⟨_, rfl⟩
                rw [hmv] at hm
                have HMA := Lib.hid hmv
                have HMB := Lib.hid hm.symm
                have hop2 : op = false := by
                  cases op
                  · rfl
                  · exact absurd (HON.out rfl) (by simp)
                subst hop2
                clear HAT HSH HON HA1 HB1 hm hmv
                go_upto_region 19 with (fail)
                have hA := (Blk.new wf 46 #[.int .u8 ab, .bool age, .bool true, .int .u8 ali, .int .u8 aco]).alloc (.cells #[.int .u8 bb, .bool bge, .bool true, .int .u8 bli, .int .u8 bco] 46)
                have hB := Blk.new (wf.alloc (.cells #[.int .u8 ab, .bool age, .bool true, .int .u8 ali, .int .u8 aco] 46)) 46 #[.int .u8 bb, .bool bge, .bool true, .int .u8 bli, .int .u8 bco]
                rw [World.size_alloc] at hB
                have hE : Ext wf ((wf.alloc (.cells #[.int .u8 ab, .bool age, .bool true, .int .u8 ali, .int .u8 aco] 46)).alloc (.cells #[.int .u8 bb, .bool bge, .bool true, .int .u8 bli, .int .u8 bco] 46)) := Ext_alloc (Ext_alloc (Ext_refl wf))
                obtain ⟨wg, hwg⟩ : ∃ wg, (wf.alloc (.cells #[.int .u8 ab, .bool age, .bool true, .int .u8 ali, .int .u8 aco] 46)).alloc (.cells #[.int .u8 bb, .bool bge, .bool true, .int .u8 bli, .int .u8 bco] 46) = wg := ⟨_, rfl⟩
                rw [hwg] at hA hB hE ⊢
                clear hwg
                have HPg := Lib.hid (HPf.out.ext hE)
                have HQg := Lib.hid (HQf.out.ext hE)
                have HEg := Lib.hid (Ext_trans hE HEf.out)
                clear hE HPf HQf HEf
                generalize wf.heap.size + 1 = bbk at *
                generalize wf.heap.size = abk at *
                have a0 := hA.cell 0
                have b0 := hB.cell 0
                have a1 := hA.cell 1
                have b1 := hB.cell 1
                have a2 := hA.cell 2
                have b2 := hB.cell 2
                have a3 := hA.cell 3
                have b3 := hB.cell 3
                have a4 := hA.cell 4
                have b4 := hB.cell 4
                simp at a0 a1 a2 a3 a4 b0 b1 b2 b3 b4
                have qa0 := fun d os => cell_regrown a0 d os
                have qb0 := fun d os => cell_regrown b0 d os
                have qa1 := fun d os => cell_regrown a1 d os
                have qb1 := fun d os => cell_regrown b1 d os
                have qa2 := fun d os => cell_regrown a2 d os
                have qb2 := fun d os => cell_regrown b2 d os
                have qa3 := fun d os => cell_regrown a3 d os
                have qb3 := fun d os => cell_regrown b3 d os
                have qa4 := fun d os => cell_regrown a4 d os
                have qb4 := fun d os => cell_regrown b4 d os
                clear a0 a1 a2 a3 a4 b0 b1 b2 b3 b4 hA hB
                refine wp_region_quiet_below rfl (by kernel_rfl) ?_
                repeat (go_big_quiet_step (first | (go_at_call 23; exact Calls.regrown_of (Mod_eq HMA.out _)) | (go_at_call 23; exact Calls.regrown_of (Mod_eq HMB.out _)) | (go_at_call 24; exact Calls.regrown_of (Open_eq HOP.out _ (HQg.out.ext (below_regrown _ _ _))))))
                refine wpQuiet_nil ?_
                intro _ hw'
                obtain ⟨⟨dq, osq⟩, hw''⟩ := hw'
                subst hw''
                have hb : Ext wg (grow (redrawn wg dq) osq) := below_regrown wg dq osq
                generalize grow (redrawn wg dq) osq = wh at *
                have HPh := Lib.hid (HPg.out.ext hb)
                have HQh := Lib.hid (HQg.out.ext hb)
                have HEh := Lib.hid (Ext_trans hb HEg.out)
                clear hb HPg HQg HEg qa0 qa1 qa2 qa3 qa4 qb0 qb1 qb2 qb3 qb4
                go_wp2_with fail
                go_roundw
                case rel => exact ⟨i + 1, by omega, by go_num, HPh, HQh, HEh⟩
                case measure => simp [intOf]; omega
            · have hin2 : i = n := by omega
              go_wp2_with fail
              go_roundw
              case rel => exact ⟨k + 1, P2, by omega, by go_num, HP, HE⟩
              case measure => simp [intOf]; omega
    · go_wp2_with fail
      go_ret
      exact ⟨rfl, HE.out⟩
set_option maxRecDepth 100000 in
theorem TypingKeeps_walk {H : Type} (w : World) {base : Nat} (v : Value) (t0 : Handed Try.prog H w 23 v) (k0 : Value.okWide Try.prog w .any base 23 v) (A : Option Addr) (n d : Nat) (t1 : Handed Try.prog H w 24 (.slice A n d)) (a2 : Int) (w2 : (Lit.int .i64 a2).wf = true)
    (A3 : Option Addr) (n3 d3 : Nat) (t3 : Handed Try.prog H w 25 (.slice A3 n3 d3)) :
    Calls Try.prog 5 #[v, .slice A n d, .int .i64 a2, .slice A3 n3 d3] w (Ret (.bool true) w) := by
  obtain ⟨r, c, rfl, _, _⟩ := size_arg t0 k0
  obtain ⟨cs, rfl, _, hl, hr, hcs⟩ := cel_rows t1
  obtain ⟨xs, rfl, _, hlx, hr2, hx⟩ := op_rows t3
  exact TypingKeeps_any w r c a2 A A3 d d3 cs xs hlx hx hcs hl hr hr2
end Go.Proofs.Ytmldhgebbgalbaa
