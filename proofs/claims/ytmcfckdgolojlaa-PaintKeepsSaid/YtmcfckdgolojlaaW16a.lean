/- Chapter 16: PaintCuts. -/
import Derived.Test.YtmcfckdgolojlaaGE
import Derived.Test.YtmcfckdgolojlaaGF
import Derived.Test.YtmcfckdgolojlaaUA
namespace Go.Proofs.Ytmcfckdgolojlaa
set_option linter.unusedVariables false
set_option linter.unusedSimpArgs false
open Go.RowKit
theorem Rd.takes {α : Type} (enc : α → List Value) {sz : Nat} (he : ∀ x, (enc x).length = sz) {w : World} {A : Option Addr} {xs : List α} (h : Rd w sz A xs.length (xs.flatMap enc)) (k : Nat) (hk : k ≤ xs.length) : Rd w sz A k ((xs.take k).flatMap enc) := by
  refine ⟨by rw [flat_length enc sz he, List.length_take, Nat.min_eq_left hk], fun hk0 => ?_⟩
  obtain ⟨b, o, e, hc⟩ := h.2 (by omega)
  refine ⟨b, o, e, fun j u hu => hc j u ?_⟩
  have hj : j < ((xs.take k).flatMap enc).length := (List.getElem?_eq_some_iff.1 hu).1
  have hx : xs.flatMap enc = (xs.take k).flatMap enc ++ (xs.drop k).flatMap enc := by rw [← List.flatMap_append, List.take_append_drop]
  rw [hx, List.getElem?_append_left hj]
  exact hu
theorem Rd.drops {α : Type} (enc : α → List Value) {sz : Nat} (he : ∀ x, (enc x).length = sz) {w : World} {b o : Nat} {xs : List α} (h : Rd w sz (some ⟨b, o, none⟩) xs.length (xs.flatMap enc)) (k : Nat) (hk : k ≤ xs.length) : Rd w sz (some ⟨b, o + k * sz, none⟩) (xs.length - k) ((xs.drop k).flatMap enc) := by
  refine ⟨by rw [flat_length enc sz he, List.length_drop], fun hk0 => ?_⟩
  obtain ⟨b', o', e, hc⟩ := h.2 (by omega)
  cases e
  refine ⟨b, o + k * sz, rfl, fun j u hu => ?_⟩
  have hl : ((xs.take k).flatMap enc).length = k * sz := by rw [flat_length enc sz he, List.length_take, Nat.min_eq_left hk]
  have := hc (k * sz + j) u (by
    rw [show xs.flatMap enc = (xs.take k).flatMap enc ++ (xs.drop k).flatMap enc by rw [← List.flatMap_append, List.take_append_drop], List.getElem?_append_right (by omega), hl, Nat.add_sub_cancel_left]
    exact hu)
  rw [← Nat.add_assoc] at this
  exact this
theorem OsAt.takes {l : List Nat} {w : World} {A : Option Addr} {xs : List OrdV} (h : OsAt l w A xs) (k : Nat) (hk : k ≤ xs.length) : OsAt l w A (xs.take k) :=
  ⟨by rw [List.length_take, Nat.min_eq_left hk]; exact h.row.takes OrdV.enc OrdV.len k hk, by rw [List.length_take]; have := h.ln; omega, fun i hi hn => h.off i hi (by rw [List.length_take] at hn; omega), fun x hx => h.each x (List.mem_of_mem_take hx)⟩
theorem OsAt.drops {l : List Nat} {w : World} {b o : Nat} {xs : List OrdV} (h : OsAt l w (some ⟨b, o, none⟩) xs) (k : Nat) (hk : k ≤ xs.length) : OsAt l w (some ⟨b, o + k * 6, none⟩) (xs.drop k) :=
  ⟨by rw [List.length_drop]; exact h.row.drops OrdV.enc OrdV.len k hk, by rw [List.length_drop]; have := h.ln; omega, fun i hi hn ad e => by cases e; exact h.off i hi (by rw [List.length_drop] at hn; omega) ⟨b, o, none⟩ rfl, fun x hx => h.each x (List.mem_of_mem_drop hx)⟩
theorem PSame_r {g c g2 c2 : Nat} {p : Pl} (w : World) (h : PlAt w g c p) (h2 : PlAt w g2 c2 p) : Calls Try.prog 35 #[.pointer (some ⟨g, 0, none⟩), .pointer (some ⟨g2, 0, none⟩)] w (Ret (.bool true) w) :=
  (PSame_any g c g2 c2 p w h h2).mono fun e w' ⟨h1, m, hm⟩ => ⟨h1, by rw [hm]; exact Ext_drewN (Ext_refl _)⟩
theorem OsAt_nil (l : List Nat) (w : World) (A : Option Addr) : OsAt l w A [] := ⟨Rd.nil _ _ _, by simp, fun _ _ h => absurd h (by simp), by simp⟩
theorem OsAt.dropsE {l : List Nat} {w : World} {A : Option Addr} {xs : List OrdV} (h : OsAt l w A xs) (k : Nat) (hk : k = xs.length) : OsAt l w A (xs.drop k) := by
  rw [List.drop_eq_nil_of_le (by omega)]
  exact OsAt_nil l w A
theorem OsAt.dropsM {l : List Nat} {w : World} {A : Option Addr} {xs : List OrdV} (h : OsAt l w A xs) (k : Nat) (hk : k ≤ xs.length) : OsAt l w (A.map fun x => x.add (k * 6)) (xs.drop k) := by
  by_cases hz : xs.length = 0
  · rw [List.drop_eq_nil_of_le (by omega)]
    exact OsAt_nil _ _ _
  · obtain ⟨b, o, e, _⟩ := h.row.2 (by omega)
    subst e
    have e2 : (some (⟨b, o, none⟩ : Addr)).map (fun x => x.add (k * 6)) = some ⟨b, o + k * 6, none⟩ := by simp [Addr.add]
    rw [e2]
    exact h.drops k hk
theorem Paint_eq {g c : Nat} {p : Pl} {A : Option Addr} {d n : Nat} {xs : List OrdV} {l : List Ord} {from_ : Int} {F : Br × Nat × Int} (hn : xs.length = n) (hl : xs.map OrdV.o = l) (hF : (Br.at0 p from_).run l = F) (hf : 0 ≤ from_ ∧ from_ < p.n) (w : World) (h : PlAt w g c p) (ho : OsAt [g, c] w A xs) :
    Calls Try.prog 46 #[.pointer (some ⟨g, 0, none⟩), .slice A n d, .int .i64 from_] w (Ret1 (.tuple #[.int .i64 F.1.at_, .int .i64 F.2.1, .int .i64 F.2.2]) (fun w' => PlAt w' g c F.1.p ∧ Chg [g, c] w w' ∧ 0 ≤ F.1.at_ ∧ F.1.at_ < F.1.p.n)) := by
  subst hn hl hF
  exact Paint_any g c p A d xs from_ hf w h ho
set_option maxRecDepth 100000 in
set_option maxHeartbeats 16000000 in
theorem PaintCuts_any (r c from_ cut : Int) (A A2 : Option Addr) (d d2 : Nat) (cs : List Cel) (xs : List OrdV) (hd2 : xs.length ≤ d2) (hcs : ∀ x ∈ cs, 0 ≤ x.b ∧ x.b < 256) (hcl : cs.length ≤ maxLen) (w : World) (hr : Rd w 5 A cs.length (cs.flatMap Cel.enc)) (ho : OsAt [] w A2 xs) :
    Calls Try.prog 11 #[.agg #[.int .i64 r, .int .i64 c], .slice A cs.length d, .slice A2 xs.length d2, .int .i64 from_, .int .i64 cut] w (Ret (.bool true) w) := by
  have HCS := Lib.hid hcs
  have HCL := Lib.hid hcl
  have HR := Lib.hid (fun w' (h : Ext w w') => Rd_ext h hr)
  have HO := Lib.hid (fun (l : List Nat) (hl : ∀ i, i ∈ l → w.heap.size ≤ i) w' (h : Ext w w') => (ho.more (m := l) (fun i hi => .inr (hl i hi))).ext h)
  have HOL := Lib.hid ho.ln
  have HX := Lib.hid (Ext_refl w)
  clear hcs hcl hr ho
  go_enter Try.func11, Try.ntmps11
  go_wp2_with fail
  refine (alive16_any _).mono ?_
  rintro e wn ⟨rfl, hb⟩
  have hz0 : w.heap.size < wn.heap.size := (by have := hb.size; (try simp only [World.size_alloc, World.size_setCell, World.size_drew, size_drewN] at this); omega); have hc0_0 : wn.cell? ⟨w.heap.size, 0, none⟩ = some (.int .i64 r) := (cell_ext hb (by unfold In; first | omega | (simp; done) | (simp; omega))).trans (by go_simp); have hf0_0 : wn.frozen? ⟨w.heap.size, 0, none⟩ = false := (frozen_ext hb (by unfold In; first | omega | (simp; done) | (simp; omega))).trans (by go_simp); have hc0_1 : wn.cell? ⟨w.heap.size, 1, none⟩ = some (.int .i64 c) := (cell_ext hb (by unfold In; first | omega | (simp; done) | (simp; omega))).trans (by go_simp); have hf0_1 : wn.frozen? ⟨w.heap.size, 1, none⟩ = false := (frozen_ext hb (by unfold In; first | omega | (simp; done) | (simp; omega))).trans (by go_simp); have HXn := Lib.hid (Ext_trans hb (by repeat' (first | (with_reducible first | exact HX.out | apply Ext_alloc | apply Ext_drewN | apply Ext_drew | (refine Ext_set ?_ ?_) | exact Ext_refl _) | (simp only [World.size_alloc, World.size_setCell, World.size_drew, size_drewN]; omega) | (simp; done) | (simp; omega)))); clear hb HX; have HX := HXn; clear HXn
  go_wp2_with fail
  refine (made16_any r c A d cs HCS.out HCL.out _ (HR.out _ HX.out)).mono ?_
  rintro e w3 (⟨a, b, v, k, rfl, ⟨A1, n1, d1, rfl⟩, hb⟩ | ⟨g, b, x, p, rfl, hP, hx, hb, hg, hbb, hxx, hne1, hne2, hp6⟩)
  · have HXn := Lib.hid (Ext_trans hb (by repeat' (first | (with_reducible first | exact HX.out | apply Ext_alloc | apply Ext_drewN | apply Ext_drew | (refine Ext_set ?_ ?_) | exact Ext_refl _) | (simp only [World.size_alloc, World.size_setCell, World.size_drew, size_drewN]; omega) | (simp; done) | (simp; omega)))); clear hb HX; have HX := HXn; clear HXn
    go_wp2_with fail
    go_ret
    exact ⟨rfl, (by repeat' (first | (with_reducible first | exact HX.out | apply Ext_alloc | apply Ext_drewN | apply Ext_drew | (refine Ext_set ?_ ?_) | exact Ext_refl _) | (simp only [World.size_alloc, World.size_setCell, World.size_drew, size_drewN]; omega) | (simp; done) | (simp; omega)))⟩
  have hws : w.heap.size ≤ wn.heap.size := HX.out.size
  have hpn : p.n = (p.cells.length : Int) := rfl
  have hn1 : 1 ≤ p.n := hP.ok.sz.n0
  have hn2 : p.n ≤ 60 := by rw [hpn]; omega
  have HP3 := Lib.hid hP
  have HE3 := Lib.hid (Ext_trans hb HX.out)
  have hgw : w.heap.size ≤ g := by omega
  have hbw : w.heap.size ≤ b := by omega
  clear hP hx hb HX hg hbb hxx hne1 hne2 HCS HCL HR hpn hp6 hws hc0_0 hf0_0 hc0_1 hf0_1 hz0
  go_wp2_with fail
  have hE4 := Ext_alloc (o := .cells #[.int .i64 p.rows, .int .i64 p.cols, .slice (some ⟨x, 0, none⟩) p.cells.length p.cells.length, .int .i64 p.cur] 28) (Ext_refl w3)
  have HP4 := Lib.hid (HP3.out.ext hE4)
  have HE4 := Lib.hid (Ext_trans hE4 HE3.out)
  clear hE4 HP3 HE3
  generalize w3.alloc (.cells #[.int .i64 p.rows, .int .i64 p.cols, .slice (some ⟨x, 0, none⟩) p.cells.length p.cells.length, .int .i64 p.cur] 28) = W4 at *
  refine (few16_any A2 d2 xs [] _ (HO.out [] (by simp) _ HE4.out)).mono ?_
  rintro e w5 ⟨rfl, hb⟩
  have HP5 := Lib.hid (HP4.out.ext hb)
  have HE5 := Lib.hid (Ext_trans hb HE4.out)
  clear hb HP4 HE4
  cases hf : few16 xs
  · go_wp2_with fail
    go_ret
    exact ⟨rfl, HE5.out⟩
  have hxl : xs.length ≤ 20 := by
    unfold few16 at hf
    rw [Bool.and_eq_true, decide_eq_true_eq] at hf
    exact hf.2
  clear hf
  by_cases hf0 : from_ < 0
  · go_wp2_with fail
    go_ret
    exact ⟨rfl, HE5.out⟩
  go_wp2_with fail
  refine (LenQ_any g b p _ HP5.out).mono ?_
  rintro e w6 ⟨rfl, rfl⟩
  by_cases hf1 : p.n ≤ from_
  · go_wp2_with fail
    go_ret
    exact ⟨rfl, HE5.out⟩
  obtain ⟨K, hK, hKl⟩ : ∃ K : Nat, Int.tmod (bits .and .i64 cut 255) ((xs.length : Int) + 1) = (K : Int) ∧ K ≤ xs.length := by
    rw [and255]
    have h0 : 0 ≤ cut % 256 := Int.emod_nonneg _ (by omega)
    have h1 : Int.tmod (cut % 256) ((xs.length : Int) + 1) = (cut % 256) % ((xs.length : Int) + 1) := Int.tmod_eq_emod_of_nonneg h0
    have h2 := Int.emod_nonneg (cut % 256) (show ((xs.length : Int) + 1) ≠ 0 by omega)
    have h3 := Int.emod_lt_of_pos (cut % 256) (show (0 : Int) < (xs.length : Int) + 1 by omega)
    exact ⟨((cut % 256) % ((xs.length : Int) + 1)).toNat, by rw [h1]; omega, by omega⟩
  have hr0 : ((xs.length : Int) + 1) ≠ 0 := by omega
  have hwl : IntKind.i64.wrap ((xs.length : Int) + 1) = (xs.length : Int) + 1 := IntWalk.i64_in _ (by omega)
  go_wp2_with fail
  have HKK := Lib.hid hK
  clear hK hr0 hwl
  go_loopw [14, 15, 64] (fun _ _ v wr => ∃ k : Nat, k ≤ xs.length ∧ v = .int .i64 k ∧ Hid (PlAt wr g b p) ∧ Hid (Ext w wr) ∧ Hid (∀ i (h : i < xs.length), i < k → (i < K → (xs[i]).o.k ≠ 40) ∧ (K ≤ i → (xs[i]).o.k ≠ 5))) (fun _ _ v _ => xs.length - (intOf v).toNat)
  case atStart => exact ⟨0, by omega, rfl, HP5, HE5, Lib.hid (fun i h h0 => absurd h0 (by omega))⟩
  case round =>
    clear HP5 HE5
    obtain ⟨k, hk, rfl, HP, HE, HQ⟩ := hrel
    by_cases hlt : k < xs.length
    · have HO1 := Lib.hid (HO.out [] (by simp) _ HE.out)
      obtain ⟨rb, ro, eA, hc⟩ := HO1.out.row.elem OrdV.enc OrdV.len hlt (List.getElem?_eq_getElem hlt)
      have d0 := hc 0 _ rfl
      have d1 := hc 1 _ rfl
      have d2' := hc 2 _ rfl
      have d3 := hc 3 _ rfl
      have d4 := hc 4 _ rfl
      have d5 := hc 5 _ rfl
      obtain ⟨y, hy⟩ : ∃ y, xs[k] = y := ⟨_, rfl⟩
      have HY := Lib.hid hy
      rw [hy] at d0 d1 d2' d3 d4 d5
      simp only [Nat.add_zero] at d0
      have HAA := Lib.hid eA
      clear hc HO1 hy
      subst eA
      have hki : (k : Int) < (K : Int) ↔ k < K := by omega
      by_cases hkK : k < K
      · have hd1 : (k : Int) < (K : Int) := by omega
        by_cases h40 : y.o.k = 40
        · rw [h40] at d0
          go_wp2_with fail
          go_ret
          exact ⟨rfl, Ext_alloc HE.out⟩
        · have h40' : (y.o.k == 40) = false := by rw [beq_eq_false_iff_ne]; exact h40
          have hge : ¬ (K : Int) ≤ (k : Int) := by omega
          have HN := Lib.hid h40
          clear h40
          go_wp2_with fail
          go_roundw
          case rel => exact ⟨k + 1, by omega, by go_num, Lib.hid (HP.out.ext (Ext_alloc (Ext_refl _))), Lib.hid (Ext_alloc HE.out), Lib.hid (fun i h h0 => by
            by_cases hi : i = k
            · subst hi; rw [HY.out]; exact ⟨fun _ => HN.out, fun h => absurd h (by omega)⟩
            · exact HQ.out i h (by omega))⟩
          case measure => simp [intOf]; omega
      · have hd1 : ¬ (k : Int) < (K : Int) := by omega
        have hge : (K : Int) ≤ (k : Int) := by omega
        by_cases h5 : y.o.k = 5
        · rw [h5] at d0
          go_wp2_with fail
          go_ret
          exact ⟨rfl, Ext_alloc HE.out⟩
        · have h5' : (y.o.k == 5) = false := by rw [beq_eq_false_iff_ne]; exact h5
          have HN := Lib.hid h5
          clear h5
          go_wp2_with fail
          go_roundw
          case rel => exact ⟨k + 1, by omega, by go_num, Lib.hid (HP.out.ext (Ext_alloc (Ext_refl _))), Lib.hid (Ext_alloc HE.out), Lib.hid (fun i h h0 => by
            by_cases hi : i = k
            · subst hi; rw [HY.out]; exact ⟨fun h => absurd h (by omega), fun _ => HN.out⟩
            · exact HQ.out i h (by omega))⟩
          case measure => simp [intOf]; omega
    · have hkk : k = xs.length := by omega
      subst hkk
      have HP5 := HP
      have HE5 := HE
      have H40 : Hid (∀ o ∈ (xs.map OrdV.o).take K, o.k ≠ 40) := Lib.hid (fun o ho => by
        obtain ⟨i, hi, rfl⟩ := List.getElem_of_mem ho
        simp only [List.length_take, List.length_map] at hi
        rw [List.getElem_take, List.getElem_map]
        exact (HQ.out i (by omega) (by omega)).1 (by omega))
      have H5 : Hid (∀ o ∈ (xs.map OrdV.o).drop K, o.k ≠ 5) := Lib.hid (fun o ho => by
        obtain ⟨i, hi, rfl⟩ := List.getElem_of_mem ho
        simp only [List.length_drop, List.length_map] at hi
        rw [List.getElem_drop, List.getElem_map]
        exact (HQ.out (K + i) (by omega) (by omega)).2 (by omega))
      clear HP HE HQ hk hlt
      go_wp2_with fail
      refine (PClone_any g b p _ HP5.out).mono ?_
      rintro e w7 ⟨g2, c2, rfl, hq, hx7, hg2, hc2⟩
      have HP7 := Lib.hid (HP5.out.ext hx7)
      have HE7 := Lib.hid (Ext_trans hx7 HE5.out)
      have HQ7 := Lib.hid hq
      have s0 := HE5.out.size
      have l1 := HP5.out.glt
      have l2 := HP5.out.clt
      have s1 := hx7.size
      clear hx7 hq HP5 HE5
      go_wp2_with fail
      refine (PClone_any g b p _ HP7.out).mono ?_
      rintro e w8 ⟨g3, c3, rfl, hr3, hx8, hg3, hc3⟩
      have HP8 := Lib.hid (HP7.out.ext hx8)
      have HE8 := Lib.hid (Ext_trans hx8 HE7.out)
      have HQ8 := Lib.hid (HQ7.out.ext hx8)
      have HR8 := Lib.hid hr3
      have l3 := HQ7.out.glt
      have l4 := HQ7.out.clt
      clear hx8 hr3 HP7 HE7 HQ7
      obtain ⟨F, hF⟩ : ∃ F, (Br.at0 p from_).run (xs.map OrdV.o) = F := ⟨_, rfl⟩
      have HF := Lib.hid hF
      go_wp2_with fail
      refine (Paint_any g b p A2 d2 xs from_ ⟨by omega, by omega⟩ _ HP8.out (HO.out [g, b] (by simp; omega) _ HE8.out)).mono ?_
      rintro e w9 ⟨rfl, hp9, hch, fa0, fa1⟩
      rw [hF] at hp9 fa0 fa1 ⊢
      unfold Paint3
      have HP9 := Lib.hid hp9
      have HQ9 := Lib.hid (HQ8.out.chg hch (by simp; omega) (by simp; omega))
      have HR9 := Lib.hid (HR8.out.chg hch (by simp; omega) (by simp; omega))
      have HE9 := Lib.hid (hch.ext HE8.out (by intro i hi; simp at hi; omega))
      clear hp9 hch HP8 HQ8 HR8 HE8 hF fa0 fa1
      go_wp2_with fail
      obtain ⟨G, hG⟩ : ∃ G, (Br.at0 p from_).run ((xs.map OrdV.o).take K) = G := ⟨_, rfl⟩
      have HG := Lib.hid hG
      refine (Paint_eq (n := K) (by rw [List.length_take, Nat.min_eq_left hKl]) (by rw [List.map_take]) hG ⟨by omega, by omega⟩ _ HQ9.out ((HO.out [g2, c2] (by simp; omega) _ HE9.out).takes K hKl)).mono ?_
      rintro e w10 ⟨rfl, hqa, hch, ga0, ga1⟩
      have HQ10 := Lib.hid hqa
      have HP10 := Lib.hid (HP9.out.chg hch (by simp; omega) (by simp; omega))
      have HR10 := Lib.hid (HR9.out.chg hch (by simp; omega) (by simp; omega))
      have HE10 := Lib.hid (hch.ext HE9.out (by intro i hi; simp at hi; omega))
      have hkn : G.2.1 ≤ xs.length := by rw [← hG]; have := run_len ((xs.map OrdV.o).take K) (Br.at0 p from_); rw [List.length_take, List.length_map] at this; omega
      have hfn : F.2.1 ≤ xs.length := by rw [← HF.out]; have := run_len (xs.map OrdV.o) (Br.at0 p from_); rw [List.length_map] at this; exact this
      have hsp : (xs.map OrdV.o).take K ++ (xs.map OrdV.o).drop K = xs.map OrdV.o := List.take_append_drop _ _
      clear hqa hch HP9 HQ9 HR9 HE9 hG
      by_cases hg0 : G.2.2 = 0
      · have hc := cut_ok p from_ _ _ H40.out H5.out (by rw [HG.out]; exact hg0)
        rw [hsp, HF.out, HG.out] at hc
        obtain ⟨H, hH⟩ : ∃ H, (Br.at0 G.1.p G.1.at_).run ((xs.map OrdV.o).drop K) = H := ⟨_, rfl⟩
        rw [hH] at hc
        have HH := Lib.hid hH
        have HCU := Lib.hid hc
        clear hc hH hsp
        rw [hg0]
        by_cases hdk : d2 = K
        · have hxk : K = xs.length := by omega
          go_wp2_with fail
          refine (Paint_eq (n := 0) (by rw [List.length_drop]; omega) (by rw [List.map_drop]) HH.out ⟨ga0, ga1⟩ _ HQ10.out (OsAt.dropsE (HO.out [g2, c2] (by simp; omega) _ HE10.out) K hxk)).mono ?_
          rintro e w11 ⟨rfl, hqa, hch, _, _⟩
          obtain ⟨c1, c2', c3', c4⟩ := HCU.out
          rw [c1] at hqa
          rw [c2', c4]
          have HQ11 := Lib.hid hqa
          have HP11 := Lib.hid (HP10.out.chg hch (by simp; omega) (by simp; omega))
          have HR11 := Lib.hid (HR10.out.chg hch (by simp; omega) (by simp; omega))
          have HE11 := Lib.hid (hch.ext HE10.out (by intro i hi; simp at hi; omega))
          have hjn : ((G.2.1 : Int)) + (H.2.1 : Int) = (F.2.1 : Int) := by omega
          clear hqa hch HP10 HQ10 HR10 HE10 c1 c2' c3' c4 HH HCU
          go_wp2_with fail
          obtain ⟨T, hT⟩ : ∃ T, (Br.at0 p from_).run ((xs.map OrdV.o).take F.2.1) = T := ⟨_, rfl⟩
          have ht := run_take (xs.map OrdV.o) (Br.at0 p from_)
          rw [HF.out, hT] at ht
          have HT := Lib.hid hT
          have HTT := Lib.hid ht
          clear hT ht
          refine (Paint_eq (n := F.2.1) (by rw [List.length_take]; omega) (by rw [List.map_take]) HT.out ⟨by omega, by omega⟩ _ HR11.out ((HO.out [g3, c3] (by simp; omega) _ HE11.out).takes F.2.1 hfn)).mono ?_
          rintro e w12 ⟨rfl, hra, hch, _, _⟩
          obtain ⟨t1, t2, t3, t4⟩ := HTT.out
          rw [t3] at hra
          rw [t1, t2, t4]
          have HR12 := Lib.hid hra
          have HP12 := Lib.hid (HP11.out.chg hch (by simp; omega) (by simp; omega))
          have HQ12 := Lib.hid (HQ11.out.chg hch (by simp; omega) (by simp; omega))
          have HE12 := Lib.hid (hch.ext HE11.out (by intro i hi; simp at hi; omega))
          clear hra hch HR11 HP11 HQ11 HE11 t1 t2 t3 t4
          go_wp2_with fail
          refine (PSame_r _ HP12.out HQ12.out).mono ?_
          rintro e w13 ⟨rfl, hb⟩
          have HR13 := Lib.hid (HR12.out.ext hb)
          have HP13 := Lib.hid (HP12.out.ext hb)
          have HE13 := Lib.hid (Ext_trans hb HE12.out)
          clear hb HR12 HP12 HQ12 HE12
          go_wp2_with fail
          refine (PSame_r _ HP13.out HR13.out).mono ?_
          rintro e w14 ⟨rfl, hb⟩
          go_wp2_with fail
          go_ret
          exact ⟨rfl, Ext_trans hb HE13.out⟩
        · go_wp2_with fail
          refine (Paint_eq (n := xs.length - K) (by rw [List.length_drop]) (by rw [List.map_drop]) HH.out ⟨ga0, ga1⟩ _ HQ10.out ((HO.out [g2, c2] (by simp; omega) _ HE10.out).dropsM K hKl)).mono ?_
          rintro e w11 ⟨rfl, hqa, hch, _, _⟩
          obtain ⟨c1, c2', c3', c4⟩ := HCU.out
          rw [c1] at hqa
          rw [c2', c4]
          have HQ11 := Lib.hid hqa
          have HP11 := Lib.hid (HP10.out.chg hch (by simp; omega) (by simp; omega))
          have HR11 := Lib.hid (HR10.out.chg hch (by simp; omega) (by simp; omega))
          have HE11 := Lib.hid (hch.ext HE10.out (by intro i hi; simp at hi; omega))
          have hjn : ((G.2.1 : Int)) + (H.2.1 : Int) = (F.2.1 : Int) := by omega
          clear hqa hch HP10 HQ10 HR10 HE10 c1 c2' c3' c4 HH HCU
          go_wp2_with fail
          obtain ⟨T, hT⟩ : ∃ T, (Br.at0 p from_).run ((xs.map OrdV.o).take F.2.1) = T := ⟨_, rfl⟩
          have ht := run_take (xs.map OrdV.o) (Br.at0 p from_)
          rw [HF.out, hT] at ht
          have HT := Lib.hid hT
          have HTT := Lib.hid ht
          clear hT ht
          refine (Paint_eq (n := F.2.1) (by rw [List.length_take]; omega) (by rw [List.map_take]) HT.out ⟨by omega, by omega⟩ _ HR11.out ((HO.out [g3, c3] (by simp; omega) _ HE11.out).takes F.2.1 hfn)).mono ?_
          rintro e w12 ⟨rfl, hra, hch, _, _⟩
          obtain ⟨t1, t2, t3, t4⟩ := HTT.out
          rw [t3] at hra
          rw [t1, t2, t4]
          have HR12 := Lib.hid hra
          have HP12 := Lib.hid (HP11.out.chg hch (by simp; omega) (by simp; omega))
          have HQ12 := Lib.hid (HQ11.out.chg hch (by simp; omega) (by simp; omega))
          have HE12 := Lib.hid (hch.ext HE11.out (by intro i hi; simp at hi; omega))
          clear hra hch HR11 HP11 HQ11 HE11 t1 t2 t3 t4
          go_wp2_with fail
          refine (PSame_r _ HP12.out HQ12.out).mono ?_
          rintro e w13 ⟨rfl, hb⟩
          have HR13 := Lib.hid (HR12.out.ext hb)
          have HP13 := Lib.hid (HP12.out.ext hb)
          have HE13 := Lib.hid (Ext_trans hb HE12.out)
          clear hb HR12 HP12 HQ12 HE12
          go_wp2_with fail
          refine (PSame_r _ HP13.out HR13.out).mono ?_
          rintro e w14 ⟨rfl, hb⟩
          go_wp2_with fail
          go_ret
          exact ⟨rfl, Ext_trans hb HE13.out⟩
      · have hc := cut_bad p from_ _ ((xs.map OrdV.o).drop K) (by rw [HG.out]; exact hg0)
        rw [hsp, HF.out, HG.out] at hc
        subst hc
        have hg1 : (F.2.2 == 0) = false := by rw [beq_eq_false_iff_ne]; exact hg0
        clear hsp
        go_wp2_with fail
        have HQ11 := HQ10
        have HP11 := HP10
        have HR11 := HR10
        have HE11 := HE10
        clear HQ10 HP10 HR10 HE10
        obtain ⟨T, hT⟩ : ∃ T, (Br.at0 p from_).run ((xs.map OrdV.o).take F.2.1) = T := ⟨_, rfl⟩
        have ht := run_take (xs.map OrdV.o) (Br.at0 p from_)
        rw [HF.out, hT] at ht
        have HT := Lib.hid hT
        have HTT := Lib.hid ht
        clear hT ht
        refine (Paint_eq (n := F.2.1) (by rw [List.length_take]; omega) (by rw [List.map_take]) HT.out ⟨by omega, by omega⟩ _ HR11.out ((HO.out [g3, c3] (by simp; omega) _ HE11.out).takes F.2.1 hfn)).mono ?_
        rintro e w12 ⟨rfl, hra, hch, _, _⟩
        obtain ⟨t1, t2, t3, t4⟩ := HTT.out
        rw [t3] at hra
        rw [t1, t2, t4]
        have HR12 := Lib.hid hra
        have HP12 := Lib.hid (HP11.out.chg hch (by simp; omega) (by simp; omega))
        have HQ12 := Lib.hid (HQ11.out.chg hch (by simp; omega) (by simp; omega))
        have HE12 := Lib.hid (hch.ext HE11.out (by intro i hi; simp at hi; omega))
        clear hra hch HR11 HP11 HQ11 HE11 t1 t2 t3 t4
        go_wp2_with fail
        refine (PSame_r _ HP12.out HQ12.out).mono ?_
        rintro e w13 ⟨rfl, hb⟩
        have HR13 := Lib.hid (HR12.out.ext hb)
        have HP13 := Lib.hid (HP12.out.ext hb)
        have HE13 := Lib.hid (Ext_trans hb HE12.out)
        clear hb HR12 HP12 HQ12 HE12
        go_wp2_with fail
        refine (PSame_r _ HP13.out HR13.out).mono ?_
        rintro e w14 ⟨rfl, hb⟩
        go_wp2_with fail
        go_ret
        exact ⟨rfl, Ext_trans hb HE13.out⟩
set_option maxRecDepth 100000 in
theorem PaintCuts_walk {H : Type} (w : World) {base : Nat} (v : Value) (t0 : Handed Try.prog H w 23 v) (k0 : Value.okWide Try.prog w .any base 23 v) (A : Option Addr) (n d : Nat) (t1 : Handed Try.prog H w 24 (.slice A n d))
    (A2 : Option Addr) (n2 d2 : Nat) (t2 : Handed Try.prog H w 59 (.slice A2 n2 d2)) (a3 : Int) (w3 : (Lit.int .i64 a3).wf = true) (a4 : Int) (w4 : (Lit.int .i64 a4).wf = true) :
    Calls Try.prog 11 #[v, .slice A n d, .slice A2 n2 d2, .int .i64 a3, .int .i64 a4] w (Ret (.bool true) w) := by
  obtain ⟨r, c, rfl, _, _⟩ := size_arg t0 k0
  obtain ⟨cs, rfl, _, hl, hr, hcs⟩ := cel_rows t1
  obtain ⟨xs, rfl, hd2, ho, _⟩ := ord_rows t2
  exact PaintCuts_any r c a3 a4 A A2 d d2 cs xs hd2 hcs hl w hr ho
end Go.Proofs.Ytmcfckdgolojlaa
