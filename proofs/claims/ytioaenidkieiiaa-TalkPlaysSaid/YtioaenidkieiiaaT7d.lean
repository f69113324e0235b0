/- The document's answer of chapter 7: On, Basic, Take. -/
import Derived.Test.YtioaenidkieiiaaT7c
import Derived.Test.YtioaenidkieiiaaR06g
namespace Go.Proofs.Ytioaenidkieiiaa
set_option linter.unusedVariables false
set_option linter.unusedSimpArgs false
open Go.RowKit Go.Shelf

def TdC (nm : ByteArray) (l : List One) (A : Option Addr) (c : Nat) (vA vB : Value) (nd : Bool) : Array Value := #[.string nm, .slice A l.length c, vA, vB, .bool nd]
set_option maxHeartbeats 1000000 in
theorem refOn_any (nm : ByteArray) (l : List One) (A A1 A2 : Option Addr) (c n1 c1 n2 c2 : Nat) (nd s : Bool) (x : Int) (hn : l.length ≤ 1000000) (w : World) (hr : Rd w 3 A l.length (l.flatMap One.enc)) :
    Calls Try.prog 38 #[.agg #[.string nm, .slice A l.length c, .slice A1 n1 c1, .slice A2 n2 c2, .bool nd], .bool s, .int .u8 x] w (Ret (.bool (stateR l s x == 1)) w) := by
  have hE := Ext_alloc (o := .cells #[.string nm, .slice A l.length c, .slice A1 n1 c1, .slice A2 n2 c2, .bool nd] 69) (Ext_refl w)
  have HR := Lib.hid (Rd_ext hE hr)
  have HE := Lib.hid hE
  clear hr hE
  go_enter Try.func38, Try.ntmps38
  go_wp2_with fail
  refine (ref_State A c _ _ l s x hn _ HR.out).mono ?_
  rintro e w1 ⟨rfl, hb⟩
  have HX := Lib.hid (Ext_trans hb HE.out)
  clear hb
  go_wp2_with fail
  go_ret
  exact ⟨rfl, HX.out⟩

def basicR (l : List One) (nd : Bool) : Bool := nd && (stateR l true 0 == 1) && (stateR l false 0 == 1) && (stateR l true 25 == 1) && (stateR l false 25 == 1)
set_option maxHeartbeats 2000000 in
theorem refBasic_any (nm : ByteArray) (l : List One) (A A1 A2 : Option Addr) (c n1 c1 n2 c2 : Nat) (nd r : Bool) (hr : basicR l nd = r) (hn : l.length ≤ 1000000) (w : World) (hR : Rd w 3 A l.length (l.flatMap One.enc)) :
    Calls Try.prog 36 #[.agg #[.string nm, .slice A l.length c, .slice A1 n1 c1, .slice A2 n2 c2, .bool nd]] w (Ret (.bool r) w) := by
  have hE := Ext_alloc (o := .cells #[.string nm, .slice A l.length c, .slice A1 n1 c1, .slice A2 n2 c2, .bool nd] 69) (Ext_refl w)
  have HR := Lib.hid (fun w' (h : Ext w w') => Rd_ext h hR)
  have hB := Blk.new w 69 #[.string nm, .slice A l.length c, .slice A1 n1 c1, .slice A2 n2 c2, .bool nd]
  have HE := Lib.hid hE
  have HB := Lib.hid hB
  clear hR hE hB
  unfold basicR at hr
  cases nd
  · obtain rfl : false = r := by simpa using hr
    clear hr
    go_enter Try.func36, Try.ntmps36
    go_wp2_with fail
    go_ret
    exact ⟨rfl, HE.out⟩
  cases h1 : (stateR l true 0 == 1)
  · obtain rfl : false = r := by rw [h1] at hr; simpa using hr
    clear hr
    have Hh1 := Lib.hid h1
    clear h1
    go_enter Try.func36, Try.ntmps36
    go_wp2_with fail
    refine (refOn_any nm l A A1 A2 c n1 c1 n2 c2 true true 0 hn _ (HR.out _ HE.out)).mono ?_
    rintro e w0 ⟨rfl, hb⟩
    rw [Hh1.out]
    have HX0 := Lib.hid (Ext_trans hb HE.out)
    have HQ0 := Lib.hid (Blk.below' HB.out hb)
    clear hb
    have qa0 := HQ0.out.cell 0
    have qb0 := HQ0.out.cell 1
    have qc0 := HQ0.out.cell 2
    have qd0 := HQ0.out.cell 3
    have qe0 := HQ0.out.cell 4
    simp at qa0 qb0 qc0 qd0 qe0
    have hl0 : w.heap.size < w0.heap.size := HQ0.out.lt
    go_wp2_with fail
    go_ret
    exact ⟨rfl, HX0.out⟩
  cases h2 : (stateR l false 0 == 1)
  · obtain rfl : false = r := by rw [h1, h2] at hr; simpa using hr
    clear hr
    have Hh1 := Lib.hid h1
    clear h1
    have Hh2 := Lib.hid h2
    clear h2
    go_enter Try.func36, Try.ntmps36
    go_wp2_with fail
    refine (refOn_any nm l A A1 A2 c n1 c1 n2 c2 true true 0 hn _ (HR.out _ HE.out)).mono ?_
    rintro e w0 ⟨rfl, hb⟩
    rw [Hh1.out]
    have HX0 := Lib.hid (Ext_trans hb HE.out)
    have HQ0 := Lib.hid (Blk.below' HB.out hb)
    clear hb
    have qa0 := HQ0.out.cell 0
    have qb0 := HQ0.out.cell 1
    have qc0 := HQ0.out.cell 2
    have qd0 := HQ0.out.cell 3
    have qe0 := HQ0.out.cell 4
    simp at qa0 qb0 qc0 qd0 qe0
    have hl0 : w.heap.size < w0.heap.size := HQ0.out.lt
    go_wp2_with fail
    refine (refOn_any nm l A A1 A2 c n1 c1 n2 c2 true false 0 hn _ (HR.out _ HX0.out)).mono ?_
    rintro e w1 ⟨rfl, hb⟩
    rw [Hh2.out]
    have HX1 := Lib.hid (Ext_trans hb HX0.out)
    have HQ1 := Lib.hid (Blk.below' HQ0.out hb)
    clear hb
    have qa1 := HQ1.out.cell 0
    have qb1 := HQ1.out.cell 1
    have qc1 := HQ1.out.cell 2
    have qd1 := HQ1.out.cell 3
    have qe1 := HQ1.out.cell 4
    simp at qa1 qb1 qc1 qd1 qe1
    have hl1 : w.heap.size < w1.heap.size := HQ1.out.lt
    go_wp2_with fail
    go_ret
    exact ⟨rfl, HX1.out⟩
  cases h3 : (stateR l true 25 == 1)
  · obtain rfl : false = r := by rw [h1, h2, h3] at hr; simpa using hr
    clear hr
    have Hh1 := Lib.hid h1
    clear h1
    have Hh2 := Lib.hid h2
    clear h2
    have Hh3 := Lib.hid h3
    clear h3
    go_enter Try.func36, Try.ntmps36
    go_wp2_with fail
    refine (refOn_any nm l A A1 A2 c n1 c1 n2 c2 true true 0 hn _ (HR.out _ HE.out)).mono ?_
    rintro e w0 ⟨rfl, hb⟩
    rw [Hh1.out]
    have HX0 := Lib.hid (Ext_trans hb HE.out)
    have HQ0 := Lib.hid (Blk.below' HB.out hb)
    clear hb
    have qa0 := HQ0.out.cell 0
    have qb0 := HQ0.out.cell 1
    have qc0 := HQ0.out.cell 2
    have qd0 := HQ0.out.cell 3
    have qe0 := HQ0.out.cell 4
    simp at qa0 qb0 qc0 qd0 qe0
    have hl0 : w.heap.size < w0.heap.size := HQ0.out.lt
    go_wp2_with fail
    refine (refOn_any nm l A A1 A2 c n1 c1 n2 c2 true false 0 hn _ (HR.out _ HX0.out)).mono ?_
    rintro e w1 ⟨rfl, hb⟩
    rw [Hh2.out]
    have HX1 := Lib.hid (Ext_trans hb HX0.out)
    have HQ1 := Lib.hid (Blk.below' HQ0.out hb)
    clear hb
    have qa1 := HQ1.out.cell 0
    have qb1 := HQ1.out.cell 1
    have qc1 := HQ1.out.cell 2
    have qd1 := HQ1.out.cell 3
    have qe1 := HQ1.out.cell 4
    simp at qa1 qb1 qc1 qd1 qe1
    have hl1 : w.heap.size < w1.heap.size := HQ1.out.lt
    go_wp2_with fail
    refine (refOn_any nm l A A1 A2 c n1 c1 n2 c2 true true 25 hn _ (HR.out _ HX1.out)).mono ?_
    rintro e w2 ⟨rfl, hb⟩
    rw [Hh3.out]
    have HX2 := Lib.hid (Ext_trans hb HX1.out)
    have HQ2 := Lib.hid (Blk.below' HQ1.out hb)
    clear hb
    have qa2 := HQ2.out.cell 0
    have qb2 := HQ2.out.cell 1
    have qc2 := HQ2.out.cell 2
    have qd2 := HQ2.out.cell 3
    have qe2 := HQ2.out.cell 4
    simp at qa2 qb2 qc2 qd2 qe2
    have hl2 : w.heap.size < w2.heap.size := HQ2.out.lt
    go_wp2_with fail
    go_ret
    exact ⟨rfl, HX2.out⟩
  obtain rfl : (stateR l false 25 == 1) = r := by rw [h1, h2, h3] at hr; simpa using hr
  have Hh1 := Lib.hid h1
  clear h1
  have Hh2 := Lib.hid h2
  clear h2
  have Hh3 := Lib.hid h3
  clear h3
  clear hr
  go_enter Try.func36, Try.ntmps36
  go_wp2_with fail
  refine (refOn_any nm l A A1 A2 c n1 c1 n2 c2 true true 0 hn _ (HR.out _ HE.out)).mono ?_
  rintro e w0 ⟨rfl, hb⟩
  rw [Hh1.out]
  have HX0 := Lib.hid (Ext_trans hb HE.out)
  have HQ0 := Lib.hid (Blk.below' HB.out hb)
  clear hb
  have qa0 := HQ0.out.cell 0
  have qb0 := HQ0.out.cell 1
  have qc0 := HQ0.out.cell 2
  have qd0 := HQ0.out.cell 3
  have qe0 := HQ0.out.cell 4
  simp at qa0 qb0 qc0 qd0 qe0
  have hl0 : w.heap.size < w0.heap.size := HQ0.out.lt
  go_wp2_with fail
  refine (refOn_any nm l A A1 A2 c n1 c1 n2 c2 true false 0 hn _ (HR.out _ HX0.out)).mono ?_
  rintro e w1 ⟨rfl, hb⟩
  rw [Hh2.out]
  have HX1 := Lib.hid (Ext_trans hb HX0.out)
  have HQ1 := Lib.hid (Blk.below' HQ0.out hb)
  clear hb
  have qa1 := HQ1.out.cell 0
  have qb1 := HQ1.out.cell 1
  have qc1 := HQ1.out.cell 2
  have qd1 := HQ1.out.cell 3
  have qe1 := HQ1.out.cell 4
  simp at qa1 qb1 qc1 qd1 qe1
  have hl1 : w.heap.size < w1.heap.size := HQ1.out.lt
  go_wp2_with fail
  refine (refOn_any nm l A A1 A2 c n1 c1 n2 c2 true true 25 hn _ (HR.out _ HX1.out)).mono ?_
  rintro e w2 ⟨rfl, hb⟩
  rw [Hh3.out]
  have HX2 := Lib.hid (Ext_trans hb HX1.out)
  have HQ2 := Lib.hid (Blk.below' HQ1.out hb)
  clear hb
  have qa2 := HQ2.out.cell 0
  have qb2 := HQ2.out.cell 1
  have qc2 := HQ2.out.cell 2
  have qd2 := HQ2.out.cell 3
  have qe2 := HQ2.out.cell 4
  simp at qa2 qb2 qc2 qd2 qe2
  have hl2 : w.heap.size < w2.heap.size := HQ2.out.lt
  go_wp2_with fail
  refine (refOn_any nm l A A1 A2 c n1 c1 n2 c2 true false 25 hn _ (HR.out _ HX2.out)).mono ?_
  rintro e w3 ⟨rfl, hb⟩
  skip
  have HX3 := Lib.hid (Ext_trans hb HX2.out)
  have HQ3 := Lib.hid (Blk.below' HQ2.out hb)
  clear hb
  have qa3 := HQ3.out.cell 0
  have qb3 := HQ3.out.cell 1
  have qc3 := HQ3.out.cell 2
  have qd3 := HQ3.out.cell 3
  have qe3 := HQ3.out.cell 4
  simp at qa3 qb3 qc3 qd3 qe3
  have hl3 : w.heap.size < w3.heap.size := HQ3.out.lt
  go_wp2_with fail
  go_ret
  exact ⟨rfl, HX3.out⟩
/-- Got, and where the options lie behind it -/
def RefG (w : World) (A : Option Addr) (vA vB : Value) (l0 l : List One) (said : List Int) (e : Ending) (w' : World) : Prop :=
  ∃ A' c' v3, e = .returned (.tuple #[.agg #[.slice A' l.length c', vA, vB], v3]) ∧ Rd w' 3 A' l.length (l.flatMap One.enc) ∧ ((A' = A ∧ l = l0) ∨ Fresh w.heap.size A') ∧ Bts w.heap.size w' v3 said ∧ Ext w w'
theorem GotP.refg {w : World} {A : Option Addr} {vA vB : Value} {l0 l : List One} {said : List Int} {e : Ending} {w' : World} (h : GotP w vA vB l said e w') : RefG w A vA vB l0 l said e w' := by
  obtain ⟨v, v3, rfl, ⟨A', c', rfl, _, hr, hf⟩, hb, hx⟩ := h
  exact ⟨A', c', v3, rfl, hr, .inr hf, hb, hx⟩
set_option maxRecDepth 100000 in
set_option maxHeartbeats 4000000 in
theorem ref_Got_fresh (A A1 A2 : Option Addr) (c0 c1 c2 : Nat) (l : List One) (lo lt : List Int) (c x : Int) (hc : 0 ≤ c ∧ c < 256) (hn : l.length ≤ 100000) (hn1 : lo.length ≤ 1000000) (hn2 : lt.length ≤ 1000000) (w : World)
    (hr : Rd w 3 A l.length (l.flatMap One.enc)) (hr1 : Rd w 1 A1 lo.length (u8s lo)) (hr2 : Rd w 1 A2 lt.length (u8s lt)) (hst : ∀ s, 0 ≤ stateR l s x ∧ stateR l s x ≤ 5) :
    Calls Try.prog 15 #[.agg #[.slice A l.length c0, .slice A1 lo.length c1, .slice A2 lt.length c2], .int .u8 c, .int .u8 x] w
      (RefG w A (.slice A1 lo.length c1) (.slice A2 lt.length c2) l (gotL l lo lt c x).1 (gotL l lo lt c x).2) := by
  unfold gotL
  by_cases h1 : c = 251
  · subst h1
    exact (ref_Got_251 A A1 A2 c0 c1 c2 l lo lt x _ _ hn hn1 hn2 w hr hr1 hr2 rfl rfl (hst _).1 (hst _).2).mono fun _ _ h => h.refg
  by_cases h2 : c = 252
  · subst h2
    exact (ref_Got_252 A A1 A2 c0 c1 c2 l lo lt x _ (mayL lo lt false x) hn hn1 hn2 w hr hr1 hr2 rfl rfl (hst _).1 (hst _).2).mono fun _ _ h => h.refg
  by_cases h3 : c = 253
  · subst h3
    exact (ref_Got_253 A A1 A2 c0 c1 c2 l lo lt x _ _ hn hn1 hn2 w hr hr1 hr2 rfl rfl (hst _).1 (hst _).2).mono fun _ _ h => h.refg
  by_cases h4 : c = 254
  · subst h4
    exact (ref_Got_254 A A1 A2 c0 c1 c2 l lo lt x _ (mayL lo lt true x) hn hn1 hn2 w hr hr1 hr2 rfl rfl (hst _).1 (hst _).2).mono fun _ _ h => h.refg
  rw [if_neg (by simpa using h1), if_neg (by simpa using h2), if_neg (by simpa using h3), if_neg (by simpa using h4)]
  have hE : ∀ W, Ext w W → RefG w A (.slice A1 lo.length c1) (.slice A2 lt.length c2) l l [] (.returned (.tuple #[.agg #[.slice A l.length c0, .slice A1 lo.length c1, .slice A2 lt.length c2], .slice none 0 0])) W := fun W h => ⟨A, c0, _, rfl, Rd_ext h hr, .inl ⟨rfl, rfl⟩, Bts.nil _ _, h⟩
  have HE := Lib.hid hE
  clear hE hr hr1 hr2 hst
  by_cases h5 : c < 251
  · go_enter Try.func15, Try.ntmps15
    go_wp2_with fail
    refine bodyPost_ret (v := .tuple #[.agg #[.slice A l.length c0, .slice A1 lo.length c1, .slice A2 lt.length c2], .slice none 0 0]) (by simp [results, Try.results15, go_sem, *]) rfl ?_
    exact HE.out _ (by repeat' (first | exact Ext_refl _ | (apply Ext_alloc) | (refine Ext_set ?_ ?_) | (simp; done) | (simp; omega)))
  · have h6 : c = 255 := by omega
    subst h6
    go_enter Try.func15, Try.ntmps15
    go_wp2_with fail
    refine bodyPost_ret (v := .tuple #[.agg #[.slice A l.length c0, .slice A1 lo.length c1, .slice A2 lt.length c2], .slice none 0 0]) (by simp [results, Try.results15, go_sem, *]) rfl ?_
    exact HE.out _ (by repeat' (first | exact Ext_refl _ | (apply Ext_alloc) | (refine Ext_set ?_ ?_) | (simp; done) | (simp; omega)))

/-- behind an event: the options, what is said, was the name told? -/
def TdP (w : World) (nm : ByteArray) (A : Option Addr) (vA vB : Value) (l0 l : List One) (nd : Bool) (said : List Int) (e : Ending) (w' : World) : Prop :=
  ∃ A' c' v, e = .returned (.tuple #[.agg #[.string nm, .slice A' l.length c', vA, vB, .bool nd], v]) ∧ Rd w' 3 A' l.length (l.flatMap One.enc) ∧ ((A' = A ∧ l = l0) ∨ Fresh w.heap.size A') ∧ Bts w.heap.size w' v said ∧ Ext w w'
set_option maxRecDepth 100000 in
set_option maxHeartbeats 4000000 in
theorem refTake_verb (nm : ByteArray) (l l' : List One) (A A1 A2 A3 : Option Addr) (c c1 c2 n3 c3 : Nat) (lo lt said : List Int) (nd nd' : Bool) (code x : Int) (hn : l.length ≤ 1000) (hn' : l'.length ≤ 1001) (hn1 : lo.length ≤ 1000000) (hn2 : lt.length ≤ 1000000)
    (hg : gotL l lo lt code x = (l', said)) (hnd : (nd && (stateR l' true 24 == 1)) = nd') (hc : 0 ≤ code ∧ code < 256) (hst : ∀ s, 0 ≤ stateR l s x ∧ stateR l s x ≤ 5) (w : World)
    (hr : Rd w 3 A l.length (l.flatMap One.enc)) (hr1 : Rd w 1 A1 lo.length (u8s lo)) (hr2 : Rd w 1 A2 lt.length (u8s lt)) :
    Calls Try.prog 32 #[.agg #[.string nm, .slice A l.length c, .slice A1 lo.length c1, .slice A2 lt.length c2, .bool nd], .agg #[.int .i64 4, .int .u8 code, .int .u8 x, .slice A3 n3 c3]] w
      (TdP w nm A (.slice A1 lo.length c1) (.slice A2 lt.length c2) l l' nd' said) := by
  have HR := Lib.hid (fun w' (h : Ext w w') => Rd_ext h hr)
  have HR1 := Lib.hid (fun w' (h : Ext w w') => Rd_ext h hr1)
  have HR2 := Lib.hid (fun w' (h : Ext w w') => Rd_ext h hr2)
  have HG := Lib.hid hg
  have HND := Lib.hid hnd
  have HST := Lib.hid hst
  clear hr hr1 hr2 hg hnd hst
  go_enter Try.func32, Try.ntmps32
  go_wp2_with fail
  have hE3 : Ext w (((w.alloc (.cells #[.string nm, .slice A l.length c, .slice A1 lo.length c1, .slice A2 lt.length c2, .bool nd] 69)).alloc (.cells #[.int .i64 4, .int .u8 code, .int .u8 x, .slice A3 n3 c3] 77)).alloc (.cells #[.string { data := #[] }, .slice none 0 0, .slice none 0 0, .slice none 0 0, .bool false] 69)) := Ext_alloc (Ext_alloc (Ext_alloc (Ext_refl w)))
  refine (ref_Got_fresh A A1 A2 c c1 c2 l lo lt code x hc (by omega) hn1 hn2 _ (HR.out _ hE3) (HR1.out _ hE3) (HR2.out _ hE3) HST.out).mono ?_
  rw [HG.out]
  rintro e wn ⟨A', c', v3, rfl, hr4, hoff, hd4, hb⟩
  have hz0 : w.heap.size < wn.heap.size := (by have := hb.size; (try simp only [World.size_alloc, World.size_setCell, World.size_drew, size_drewN] at this); omega); have hz1 : w.heap.size + 1 < wn.heap.size := (by have := hb.size; (try simp only [World.size_alloc, World.size_setCell, World.size_drew, size_drewN] at this); omega); have hz2 : w.heap.size + 2 < wn.heap.size := (by have := hb.size; (try simp only [World.size_alloc, World.size_setCell, World.size_drew, size_drewN] at this); omega); have hc0_0 : wn.cell? ⟨w.heap.size, 0, none⟩ = some (.string nm) := (cell_ext hb (by unfold In; first | omega | (simp; done) | (simp; omega))).trans (by go_simp); have hf0_0 : wn.frozen? ⟨w.heap.size, 0, none⟩ = false := (frozen_ext hb (by unfold In; first | omega | (simp; done) | (simp; omega))).trans (by go_simp); have hc0_1 : wn.cell? ⟨w.heap.size, 1, none⟩ = some (.slice A l.length c) := (cell_ext hb (by unfold In; first | omega | (simp; done) | (simp; omega))).trans (by go_simp); have hf0_1 : wn.frozen? ⟨w.heap.size, 1, none⟩ = false := (frozen_ext hb (by unfold In; first | omega | (simp; done) | (simp; omega))).trans (by go_simp); have hc0_2 : wn.cell? ⟨w.heap.size, 2, none⟩ = some (.slice A1 lo.length c1) := (cell_ext hb (by unfold In; first | omega | (simp; done) | (simp; omega))).trans (by go_simp); have hf0_2 : wn.frozen? ⟨w.heap.size, 2, none⟩ = false := (frozen_ext hb (by unfold In; first | omega | (simp; done) | (simp; omega))).trans (by go_simp); have hc0_3 : wn.cell? ⟨w.heap.size, 3, none⟩ = some (.slice A2 lt.length c2) := (cell_ext hb (by unfold In; first | omega | (simp; done) | (simp; omega))).trans (by go_simp); have hf0_3 : wn.frozen? ⟨w.heap.size, 3, none⟩ = false := (frozen_ext hb (by unfold In; first | omega | (simp; done) | (simp; omega))).trans (by go_simp); have hc0_4 : wn.cell? ⟨w.heap.size, 4, none⟩ = some (.bool nd) := (cell_ext hb (by unfold In; first | omega | (simp; done) | (simp; omega))).trans (by go_simp); have hf0_4 : wn.frozen? ⟨w.heap.size, 4, none⟩ = false := (frozen_ext hb (by unfold In; first | omega | (simp; done) | (simp; omega))).trans (by go_simp); have hc2_0 : wn.cell? ⟨w.heap.size + 2, 0, none⟩ = some (.string { data := #[] }) := (cell_ext hb (by unfold In; first | omega | (simp; done) | (simp; omega))).trans (by go_simp); have hf2_0 : wn.frozen? ⟨w.heap.size + 2, 0, none⟩ = false := (frozen_ext hb (by unfold In; first | omega | (simp; done) | (simp; omega))).trans (by go_simp); have hc2_1 : wn.cell? ⟨w.heap.size + 2, 1, none⟩ = some (.slice none 0 0) := (cell_ext hb (by unfold In; first | omega | (simp; done) | (simp; omega))).trans (by go_simp); have hf2_1 : wn.frozen? ⟨w.heap.size + 2, 1, none⟩ = false := (frozen_ext hb (by unfold In; first | omega | (simp; done) | (simp; omega))).trans (by go_simp); have hc2_2 : wn.cell? ⟨w.heap.size + 2, 2, none⟩ = some (.slice none 0 0) := (cell_ext hb (by unfold In; first | omega | (simp; done) | (simp; omega))).trans (by go_simp); have hf2_2 : wn.frozen? ⟨w.heap.size + 2, 2, none⟩ = false := (frozen_ext hb (by unfold In; first | omega | (simp; done) | (simp; omega))).trans (by go_simp); have hc2_3 : wn.cell? ⟨w.heap.size + 2, 3, none⟩ = some (.slice none 0 0) := (cell_ext hb (by unfold In; first | omega | (simp; done) | (simp; omega))).trans (by go_simp); have hf2_3 : wn.frozen? ⟨w.heap.size + 2, 3, none⟩ = false := (frozen_ext hb (by unfold In; first | omega | (simp; done) | (simp; omega))).trans (by go_simp); have hc2_4 : wn.cell? ⟨w.heap.size + 2, 4, none⟩ = some (.bool false) := (cell_ext hb (by unfold In; first | omega | (simp; done) | (simp; omega))).trans (by go_simp); have hf2_4 : wn.frozen? ⟨w.heap.size + 2, 4, none⟩ = false := (frozen_ext hb (by unfold In; first | omega | (simp; done) | (simp; omega))).trans (by go_simp); 
  have HX := Lib.hid (Ext_trans hb hE3)
  have HR4 := Lib.hid (fun w' (h : Ext wn w') => Rd_ext h hr4)
  have HD4 := Lib.hid hd4
  have HOF := Lib.hid hoff
  have BT0 := Blk.below' (((Blk.new w 69 #[.string nm, .slice A l.length c, .slice A1 lo.length c1, .slice A2 lt.length c2, .bool nd]).alloc (.cells #[.int .i64 4, .int .u8 code, .int .u8 x, .slice A3 n3 c3] 77)).alloc (.cells #[.string { data := #[] }, .slice none 0 0, .slice none 0 0, .slice none 0 0, .bool false] 69)) hb
  have BR0 := Blk.below' (Blk.new ((w.alloc (.cells #[.string nm, .slice A l.length c, .slice A1 lo.length c1, .slice A2 lt.length c2, .bool nd] 69)).alloc (.cells #[.int .i64 4, .int .u8 code, .int .u8 x, .slice A3 n3 c3] 77)) 69 #[.string { data := #[] }, .slice none 0 0, .slice none 0 0, .slice none 0 0, .bool false]) hb
  rw [World.size_alloc, World.size_alloc] at BR0
  have h2 : w.heap.size + 1 + 1 ≠ w.heap.size := by omega
  have BT := Lib.hid ((((BT0.store 1 (.slice A' l'.length c')).store 2 (.slice A1 lo.length c1)).store 3 (.slice A2 lt.length c2)).alloc (.cells #[.slice A' l'.length c', .slice A1 lo.length c1, .slice A2 lt.length c2] 29))
  have BR := Lib.hid ((((BR0.far (p := ⟨w.heap.size, 1, none⟩) h2 (.slice A' l'.length c')).far (p := ⟨w.heap.size, 2, none⟩) h2 (.slice A1 lo.length c1)).far (p := ⟨w.heap.size, 3, none⟩) h2 (.slice A2 lt.length c2)).alloc (.cells #[.slice A' l'.length c', .slice A1 lo.length c1, .slice A2 lt.length c2] 29))
  have hsz : w.heap.size + 3 ≤ wn.heap.size := by have := hb.size; simp at this; omega
  clear hb hr4 hd4 hoff hE3 BT0 BR0
  go_wp2_with fail
  have hEn : Mut w.heap.size wn ((((wn.setCell ⟨w.heap.size, 1, none⟩ (.slice A' l'.length c')).setCell ⟨w.heap.size, 2, none⟩ (.slice A1 lo.length c1)).setCell ⟨w.heap.size, 3, none⟩ (.slice A2 lt.length c2)).alloc (.cells #[.slice A' l'.length c', .slice A1 lo.length c1, .slice A2 lt.length c2] 29)) :=
    ((((Mut_set w.heap.size 1 _).trans (Mut_set w.heap.size 2 _)).trans (Mut_set w.heap.size 3 _))).trans ((Ext_alloc (Ext_refl _)).mut _)
  have HXs := Lib.hid (Mut_trans hEn HX.out (Nat.le_refl _))
  have HRs : Hid (∀ W', Ext ((((wn.setCell ⟨w.heap.size, 1, none⟩ (.slice A' l'.length c')).setCell ⟨w.heap.size, 2, none⟩ (.slice A1 lo.length c1)).setCell ⟨w.heap.size, 3, none⟩ (.slice A2 lt.length c2)).alloc (.cells #[.slice A' l'.length c', .slice A1 lo.length c1, .slice A2 lt.length c2] 29)) W' → Rd W' 3 A' l'.length (l'.flatMap One.enc)) := Lib.hid (by
    intro W' hW
    rcases HOF.out with ⟨e1, e2⟩ | hf
    · subst e1; subst e2
      exact HR.out _ (Ext_trans hW HXs.out)
    · refine Rd_ext hW ((HR4.out _ (Ext_refl _)).grown hEn (fun g e => ?_))
      cases e
      exact hf.off (by simp; omega))
  have HDs := Lib.hid (Bts.mono (Bts.grown HD4.out hEn (fun g e => by cases e; simp; omega)) (show w.heap.size + 3 ≤ _ by simp))
  have HFs : Hid ((A' = A ∧ l' = l) ∨ Fresh (w.heap.size + 3) A') := Lib.hid (HOF.out.imp (fun h => h) (fun h => h.mono (by simp)))
  clear hEn HX HR4 HD4 HOF
  generalize hWs : (((wn.setCell ⟨w.heap.size, 1, none⟩ (.slice A' l'.length c')).setCell ⟨w.heap.size, 2, none⟩ (.slice A1 lo.length c1)).setCell ⟨w.heap.size, 3, none⟩ (.slice A2 lt.length c2)).alloc (.cells #[.slice A' l'.length c', .slice A1 lo.length c1, .slice A2 lt.length c2] 29) = Ws at *
  have HszS : w.heap.size + 3 ≤ Ws.heap.size := by rw [← hWs]; simp; omega
  clear hWs
  refine (refOn_any nm l' A' A1 A2 c' _ c1 _ c2 nd true 24 (by omega) _ (HRs.out _ (Ext_refl _))).mono ?_
  rintro e w5 ⟨rfl, hb⟩
  have BT5 := Lib.hid (Blk.below' BT.out hb)
  have BR5 := Lib.hid (Blk.below' BR.out hb)
  have X5 := Lib.hid (Ext_trans hb HXs.out)
  have D5 := Lib.hid (Bts.below HDs.out hb)
  have R5 := Lib.hid (fun W' (h : Ext w5 W') => HRs.out W' (Ext_trans h hb))
  have hsz5 : w.heap.size + 3 ≤ w5.heap.size := by have := hb.size; omega
  clear hb BT BR HXs HDs HRs
  have t0 := BT5.out.cell 0
  have t1 := BT5.out.cell 1
  have t2 := BT5.out.cell 2
  have t3 := BT5.out.cell 3
  have t4 := BT5.out.cell 4
  have f4 := BT5.out.free 4
  have r0 := BR5.out.cell 0
  have r1 := BR5.out.cell 1
  have r2 := BR5.out.cell 2
  have r3 := BR5.out.cell 3
  have r4 := BR5.out.cell 4
  have g0 := BR5.out.free 0
  have g1 := BR5.out.free 1
  have g2 := BR5.out.free 2
  have g3 := BR5.out.free 3
  have g4 := BR5.out.free 4
  simp at t0 t1 t2 t3 t4 r0 r1 r2 r3 r4
  have HEND : Hid (∀ W', Mut2 w.heap.size (w.heap.size + 1 + 1) w5 W' → Ext w W' ∧ Rd W' 3 A' l'.length (l'.flatMap One.enc) ∧ ((A' = A ∧ l' = l) ∨ Fresh w.heap.size A') ∧ Bts w.heap.size W' v3 said) := Lib.hid (by
    intro W' hW
    have hX : Ext w W' := hW.ext X5.out (Nat.le_refl _) (by omega)
    refine ⟨hX, ?_, HFs.out.imp (fun h => h) (fun h => h.mono (by omega)), ?_⟩
    · rcases HFs.out with ⟨e1, e2⟩ | hf
      · subst e1; subst e2
        exact HR.out _ hX
      · exact (R5.out _ (Ext_refl _)).mut2 hW (hf.off (by omega)) (hf.off (by omega))
    · obtain ⟨B1, d1, h1, h2', h3, h4⟩ := D5.out
      exact ⟨B1, d1, h1, h2', h3.mut2 hW (h4.off (by omega)) (h4.off (by omega)), h4.mono (by omega)⟩)
  have HM : Hid (∀ (a0 a1 a2 a3 a4 : Value) (W' : World), Mut2 w.heap.size (w.heap.size + 1 + 1) w5 W' → Mut2 w.heap.size (w.heap.size + 1 + 1) w5 (((((W'.setCell ⟨w.heap.size + 1 + 1, 0, none⟩ a0).setCell ⟨w.heap.size + 1 + 1, 1, none⟩ a1).setCell ⟨w.heap.size + 1 + 1, 2, none⟩ a2).setCell ⟨w.heap.size + 1 + 1, 3, none⟩ a3).setCell ⟨w.heap.size + 1 + 1, 4, none⟩ a4)) := Lib.hid (by
    intro a0 a1 a2 a3 a4 W' h
    exact h.trans (Mut2.of_mut_b (((((Mut_set _ 0 _).trans (Mut_set _ 1 _)).trans (Mut_set _ 2 _)).trans (Mut_set _ 3 _)).trans (Mut_set _ 4 _))))
  clear R5 D5 X5 HFs HR HR1 HR2 HST HG BT5 BR5
  cases hon : (stateR l' true 24 == 1)
  · have hn' : false = nd' := by have := HND.out; rw [hon] at this; simpa using this
    subst hn'
    have HON := Lib.hid hon
    clear hon HND
    go_wp2_with fail
    obtain ⟨z1, z2, z3, z4⟩ := HEND.out _ (HM.out (.string nm) (.slice A' l'.length c') (.slice A1 lo.length c1) (.slice A2 lt.length c2) (.bool false) _ (Mut2.of_mut_a (Mut_set (w := w5) w.heap.size 4 (.bool false))))
    have HZ := Lib.hid (And.intro z1 (And.intro z2 (And.intro z3 z4)))
    clear z1 z2 z3 z4
    refine bodyPost_ret (v := .tuple #[.agg #[.string nm, .slice A' l'.length c', .slice A1 lo.length c1, .slice A2 lt.length c2, .bool false], v3]) (by simp [results, Try.results32, go_sem, *]) rfl ?_
    exact ⟨A', c', v3, rfl, HZ.out.2.1, HZ.out.2.2.1, HZ.out.2.2.2, HZ.out.1⟩
  · have hn' : nd = nd' := by have := HND.out; rw [hon] at this; simpa using this
    subst hn'
    have HON := Lib.hid hon
    clear hon HND
    go_wp2_with fail
    obtain ⟨z1, z2, z3, z4⟩ := HEND.out _ (HM.out (.string nm) (.slice A' l'.length c') (.slice A1 lo.length c1) (.slice A2 lt.length c2) (.bool nd) _ (Mut2.of_ext (Ext_refl w5)))
    have HZ := Lib.hid (And.intro z1 (And.intro z2 (And.intro z3 z4)))
    clear z1 z2 z3 z4
    refine bodyPost_ret (v := .tuple #[.agg #[.string nm, .slice A' l'.length c', .slice A1 lo.length c1, .slice A2 lt.length c2, .bool nd], v3]) (by simp [results, Try.results32, go_sem, *]) rfl ?_
    exact ⟨A', c', v3, rfl, HZ.out.2.1, HZ.out.2.2.1, HZ.out.2.2.2, HZ.out.1⟩
end Go.Proofs.Ytioaenidkieiiaa
