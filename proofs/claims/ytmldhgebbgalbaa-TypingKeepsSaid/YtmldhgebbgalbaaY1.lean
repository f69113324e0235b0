/- Chapter 20: row. -/
import Derived.Test.YtmldhgebbgalbaaY0
import Derived.RangeFuncBox
namespace Go.Proofs.Ytmldhgebbgalbaa
set_option linter.unusedVariables false
set_option linter.unusedSimpArgs false
open Go.RowKit Go.Shelf
attribute [local go_sem] Oper.semAt_some
theorem i64s_app (l m : List Int) : i64s (l ++ m) = i64s l ++ i64s m := List.map_append
theorem infoI64 : (Try.prog.info? 3).map (fun i => (i.zero, i.size, i.bytes)) = some (some (.int .i64 0), 1, 8) := by kernel_rfl
/-- a, a + 1 .., k of them -/
def upsL (a : Int) (k : Nat) : List Int := (List.range k).map fun j : Nat => a + (j : Int)
theorem upsL_succ (a : Int) (k : Nat) : upsL a (k + 1) = upsL a k ++ [a + (k : Int)] := by unfold upsL; rw [List.range_succ, List.map_append]; rfl
theorem upsL_len (a : Int) (k : Nat) : (upsL a k).length = k := by simp [upsL]
/-- the places from one on, up to its field's end -/
def Pl.rowL (p : Pl) (i : Int) : List Int := if p.before i < 0 then upsL i (p.n - i).toNat else p.restL i
/-- an element is appended to a box's row -/
theorem box_append {W0 W w1 : World} {B : Nat} {t e : TypeId} {v v' : Value} {k m : Nat} {xs ys : List Value} (hv : Blk W B t #[v]) (hte : t ≠ e) (hrow : W.ownsRow W0.heap.size e 1 v k xs) (hch : Chg [B] W0 W)
    (hown : w1.ownsRow W0.heap.size e 1 v' m ys) (hg : W.grownBy w1 v.ownBlock) :
    Blk w1 B t #[v] ∧ Blk (w1.setCell ⟨B, 0, none⟩ v') B t #[v'] ∧ (w1.setCell ⟨B, 0, none⟩ v').ownsRow W0.heap.size e 1 v' m ys ∧ Chg [B] W0 (w1.setCell ⟨B, 0, none⟩ v') := by
  have hv1 : Blk w1 B t #[v] := hv.grown hg (Blk.not_row hv hte hrow)
  refine ⟨hv1, hv1.store 0 v', World.ownsRow.kept hown (grownBy_setCell' w1 B v') (.inr (Blk.not_row hv1 hte hown).symm), ?_⟩
  have h1 : Chg [B] W0 w1 := ⟨hg.os.trans hch.os, hg.tape.trans hch.tape, hg.output.trans hch.output, Nat.le_trans hch.size hg.size, fun i hi hn => (hg.block i (Nat.lt_of_lt_of_le hi hch.size) (fun e' => by
    have := (own_base hrow i e'.symm).1
    omega)).trans (hch.block i hi hn)⟩
  exact h1.set B 0 v' (.inl (by simp))
theorem KpP.of_two {W0 X Y : World} {g c a b ob : Nat} (h : Chg [ob] W0 X) (k : Chg [ob] W0 Y) (hs : X.heap.size ≤ Y.heap.size) (hg : g < W0.heap.size ∧ g ≠ ob) (hc : c < W0.heap.size ∧ c ≠ ob) (ha : a < W0.heap.size ∧ a ≠ ob) (hb : b < W0.heap.size ∧ b ≠ ob) : KpP g c a b X Y := by
  have key : ∀ i, i < W0.heap.size ∧ i ≠ ob → Y.heap[i]? = X.heap[i]? := fun i hi => (k.block i hi.1 (by simpa using hi.2)).trans (h.block i hi.1 (by simpa using hi.2)).symm
  refine ⟨hs, fun i hi _ => ?_, fun q hq => ?_⟩
  · rcases hi with rfl | rfl
    · exact key _ ha
    · exact key _ hb
  · obtain ⟨k1, t1, h1⟩ := hq
    exact ⟨q, ⟨k1, t1, (key g hg).trans h1.obj, (key c hc).trans h1.row, h1.ok⟩, rfl, rfl, rfl⟩
theorem PrintT_typed {w : World} {base : Nat} {e : TypeId} {size n : Nat} {v : Value} {xs : List Value} (h : w.ownsRow base e size v n xs) (k : Nat) (hk : v.ownBlock = some k) : ∃ cells, w.heap[k]? = some (.cells cells e (0, 0)) := by
  rcases h.2 with ⟨rfl, _⟩ | ⟨g, cap, cur, rfl, hg, hh, r⟩
  · simp [Value.ownBlock] at hk
  · have : g = k := by simpa [Value.ownBlock] using hk
    subst this
    exact ⟨cur, hh⟩
set_option maxRecDepth 100000 in
set_option maxHeartbeats 4000000 in
theorem row_plain (g c : Nat) (p : Pl) (i : Int) (hb : p.before i < 0) (i0 : 0 ≤ i) (i1 : i < p.n) (w : World) (h : PlAt w g c p) : Calls Try.prog 48 #[.pointer (some ⟨g, 0, none⟩), .int .i64 i] w (RetI (p.rowL i) w) := by
  have HP := Lib.hid h
  have hg := h.glt
  have hc := h.clt
  have hn1 := h.ok.sz.n1
  have HL := Lib.hid (show p.rowL i = upsL i (p.n - i).toNat by unfold Pl.rowL; rw [if_pos hb])
  have HOF := Lib.hid (show p.ofV i = .tuple #[.agg #[.int .i64 0, .int .i64 0, .int .u8 0], .bool false] by unfold Pl.ofV; rw [if_pos hb])
  clear h hb
  go_enter Try.func48, Try.ntmps48
  go_upto_region 2 with (fail)
  have hB3 : Blk ((w.alloc (.cells #[.int .i64 i] 3)).alloc (.cells #[.slice none 0 0] 42)) w.heap.size 3 #[.int .i64 i] := (Blk.new w _ _).alloc _
  have hB5 := Blk.new (w.alloc (.cells #[.int .i64 i] 3)) 42 #[.slice none 0 0]
  rw [World.size_alloc] at hB5
  have hE : Ext w ((w.alloc (.cells #[.int .i64 i] 3)).alloc (.cells #[.slice none 0 0] 42)) := Ext_alloc (Ext_alloc (Ext_refl w))
  obtain ⟨W1, hW⟩ : ∃ W1, (w.alloc (.cells #[.int .i64 i] 3)).alloc (.cells #[.slice none 0 0] 42) = W1 := ⟨_, rfl⟩
  rw [hW] at hB3 hB5 hE ⊢
  clear hW
  obtain ⟨b3, hb3⟩ : ∃ b3, w.heap.size = b3 := ⟨_, rfl⟩
  obtain ⟨b5, hb5⟩ : ∃ b5, w.heap.size + 1 = b5 := ⟨_, rfl⟩
  have hw5 : w.heap.size ≤ b5 := by omega
  have h35 : b3 ≠ b5 := by omega
  rw [hb3] at hB3 ⊢
  rw [show b3 + 1 = b5 by omega]
  rw [hb5] at hB5
  clear hb3 hb5
  have p0 := hB3.cell 0
  simp at p0
  go_wp2_with fail
  refine (Of_any g c p i _ (HP.out.ext hE)).mono ?_
  rintro e w2 ⟨rfl, hb⟩
  rw [HOF.out]
  go_upto_region 4 with (fail)
  have hEF := Ext_alloc (o := .cells #[.int .i64 0, .int .i64 0, .int .u8 0] 50) (Ext_refl w2)
  generalize w2.alloc (.cells #[.int .i64 0, .int .i64 0, .int .u8 0] 50) = W3 at *
  have H3 := Lib.hid (Blk.below' (Blk.below' hB3 hb) hEF)
  have H5 := Lib.hid (Blk.below' (Blk.below' hB5 hb) hEF)
  have HE3 := Lib.hid (Ext_trans hEF (Ext_trans hb hE))
  have HP3 := Lib.hid (HP.out.ext HE3.out)
  clear hEF hb hE hB3 hB5 p0
  have q0 := H3.out.cell 0
  simp at q0
  go_wp2_with fail
  have HOW : Hid (∃ v, Blk W3 b5 42 #[v] ∧ W3.ownsRow W3.heap.size 3 1 v 0 (i64s (upsL i 0))) := Lib.hid ⟨_, H5.out, ⟨by simp [upsL, i64s], .inl ⟨rfl, rfl⟩⟩⟩
  have HC0 := Lib.hid (Chg.refl [b5] W3)
  clear q0
  go_loopw [8] (fun v8 wr => ∃ k : Nat, (k : Int) ≤ p.n - i ∧ v8 = .int .i64 (i + k) ∧ Hid (∃ v, Blk wr b5 42 #[v] ∧ wr.ownsRow W3.heap.size 3 1 v k (i64s (upsL i k))) ∧ Hid (Chg [b5] W3 wr)) (fun v8 _ => (p.n - intOf v8).toNat)
  case atStart => exact ⟨0, by omega, by simp, HOW, HC0⟩
  case round =>
    clear HOW HC0
    obtain ⟨k, hk, rfl, HV, HC⟩ := hrel
    obtain ⟨v, hv, hrow⟩ := HV.out
    obtain ⟨A, cc, rfl⟩ := own_slice hrow
    have HP4 := Lib.hid (HP3.out.chg HC.out (by simp; omega) (by simp; omega))
    have HV2 := Lib.hid hv
    have HR := Lib.hid hrow
    have c5 := hv.cell 0
    simp at c5
    clear hv hrow HV
    go_wp2_with fail
    refine (LenQ_any g c p _ HP4.out).mono ?_
    rintro e w9 ⟨rfl, rfl⟩
    by_cases hlt : i + (k : Int) < p.n
    · have hw1 : IntKind.i64.wrap (i + (k : Int) + 1) = i + ((k + 1 : Nat) : Int) := by rw [IntWalk.i64_in _ (by omega)]; push_cast; omega
      go_wp2_with (at_builtin; refine append_one W3.heap.size rfl (.tmp 25) (.tmp 27) 42 3 (.int .i64 0) 1 8 rfl Try.underlying42 infoInt rfl (by decide) (.slice A k cc) k _ [.int .i64 (i + (k : Int))] HR.out (by rfl) (by rfl) rfl rfl (by rfl) (by omega) (by unfold maxLen; omega) HC.out.size ?_; intro g9 c9 w1 hown hgr hge; obtain ⟨hb1, hb2, hb3, hb4⟩ := box_append HV2.out (by decide) HR.out HC.out hown hgr; have HB2 := Lib.hid hb2; have HB3 := Lib.hid hb3; have HB4 := Lib.hid hb4; have d5 := hb1.cell 0; have f5 := hb1.free 0; simp at d5; clear hown hgr hge hb1 hb2 hb3 hb4)
      go_roundw
      case rel => exact ⟨k + 1, by omega, by go_num, Lib.hid ⟨_, HB2.out, by rw [upsL_succ, i64s_append]; exact HB3.out⟩, HB4⟩
      case measure => simp [intOf]; omega
    · have hk2 : (p.n - i).toNat = k := by omega
      go_wp2_with fail
      go_ret
      rw [HL.out, hk2]
      have hx3 := HE3.out.size
      exact ⟨A, cc, by rw [upsL_len]; rfl, by rw [upsL_len]; exact own_weak HR.out (by omega), Chg.ext HC.out HE3.out (by simp; omega)⟩
set_option maxRecDepth 100000 in
set_option maxHeartbeats 4000000 in
theorem row_field_ (g c : Nat) (p : Pl) (i : Int) (hb0 : ¬ p.before i < 0) (w : World) (h : PlAt w g c p) : Calls Try.prog 48 #[.pointer (some ⟨g, 0, none⟩), .int .i64 i] w (RetI (p.rowL i) w) := by
  have HP := Lib.hid h
  have HX := Lib.hid (Ext_refl w)
  have s0 : 0 ≤ p.before i := by omega
  have s1 : p.before i < p.n := (lookM_bd p h.ok _ _).2
  have hn1 := h.ok.sz.n1
  have HOF := Lib.hid (show p.ofV i = .tuple #[.agg #[.int .i64 (p.before i), .int .i64 (p.lenAt (p.before i)), .int .u8 (p.attrAt (p.before i))], .bool true] by unfold Pl.ofV; rw [if_neg hb0])
  have hg := h.glt
  have hc := h.clt
  have hrl : p.rowL i = from_ i (plcN p.n (p.before i) (plcM p.n (p.lenAt (p.before i)))) := by unfold Pl.rowL; rw [if_neg hb0]; rfl
  have HRL := Lib.hid hrl
  clear h hb0 hrl
  generalize p.attrAt (p.before i) = a at *
  generalize p.lenAt (p.before i) = len at *
  generalize p.before i = s at *
  refine (callsIn_wide (n := 9)).1 ?_
  refine callsIn_of_wp_marks Try.func48 rfl trivial ?_ rfl
  simp only [Try.ntmps48, List.size_toArray, List.length_cons, List.length_nil, Nat.reduceAdd, Nat.reduceSub, Array.replicate_succ, Array.replicate_zero, List.push_toArray, List.append_toArray, List.nil_append, List.cons_append]
  gi_wp2_with (first | (refine ⟨trivial, ?_⟩; gi_at_call 16; refine (callsIn_wide.2 (Of_any g c p _ _ (HP.out.ext (by repeat' (first | (with_reducible first | exact HX.out | apply Ext_alloc | apply Ext_drewN | apply Ext_drew | (refine Ext_set ?_ ?_) | exact Ext_refl _) | (simp only [World.size_alloc, World.size_setCell, World.size_drew, size_drewN]; omega) | (simp; done) | (simp; omega)))))).mono ?_; rintro e wn ⟨rfl, hb⟩; rw [HOF.out]; have hbox5 : Blk wn (w.heap.size + 1) 42 #[.slice none 0 0] := (by have hq := Blk.new (w.alloc (.cells #[.int .i64 i] 3)) 42 #[.slice none 0 0]; rw [World.size_alloc] at hq; exact Blk.below' hq hb); have hz0 : w.heap.size < wn.heap.size := (by have := hb.size; (try simp only [World.size_alloc, World.size_setCell, World.size_drew, size_drewN] at this); omega); have hz1 : w.heap.size + 1 < wn.heap.size := (by have := hb.size; (try simp only [World.size_alloc, World.size_setCell, World.size_drew, size_drewN] at this); omega); have hc0_0 : wn.cell? ⟨w.heap.size, 0, none⟩ = some (.int .i64 i) := (cell_ext hb (by unfold In; first | omega | (simp; done) | (simp; omega))).trans (by go_simp); have hf0_0 : wn.frozen? ⟨w.heap.size, 0, none⟩ = false := (frozen_ext hb (by unfold In; first | omega | (simp; done) | (simp; omega))).trans (by go_simp); have hc1_0 : wn.cell? ⟨w.heap.size + 1, 0, none⟩ = some (.slice none 0 0) := (cell_ext hb (by unfold In; first | omega | (simp; done) | (simp; omega))).trans (by go_simp); have hf1_0 : wn.frozen? ⟨w.heap.size + 1, 0, none⟩ = false := (frozen_ext hb (by unfold In; first | omega | (simp; done) | (simp; omega))).trans (by go_simp); have HXn := Lib.hid (Ext_trans hb (by repeat' (first | (with_reducible first | exact HX.out | apply Ext_alloc | apply Ext_drewN | apply Ext_drew | (refine Ext_set ?_ ?_) | exact Ext_refl _) | (simp only [World.size_alloc, World.size_setCell, World.size_drew, size_drewN]; omega) | (simp; done) | (simp; omega)))); clear hb HX; have HX := HXn; clear HXn) | (refine ⟨trivial, ?_⟩; gi_at_call 76; refine (callsIn_wide.2 (FPlaces_any _ _ _ _ _)).mono ?_; rintro e w' ⟨rfl, rfl⟩))
  have hw9 : w.heap.size + 1 < wn.heap.size := by have := hz1; omega
  obtain ⟨nb, hnb⟩ : ∃ nb, wn.heap.size = nb := ⟨_, rfl⟩
  obtain ⟨W0, hW0⟩ : ∃ W0, (((wn.alloc (.cells #[.int .i64 s, .int .i64 len, .int .u8 a] 50)).alloc (.cells #[.pointer (some ⟨g, 0, none⟩)] 27)).alloc (.cells #[.int .i64 s, .int .i64 len, .int .u8 a] 50)) = W0 := ⟨_, rfl⟩
  have hsz : W0.heap.size = wn.heap.size + 3 := by rw [← hW0]; simp
  have hs1 : W0.heap.size ≤ nb + 3 := by omega
  have hs2 : nb + 3 ≤ W0.heap.size := by omega
  clear hsz
  have hB0 : Ext wn W0 := by rw [← hW0]; exact Ext_alloc (Ext_alloc (Ext_alloc (Ext_refl _)))
  have b3 : Blk W0 (wn.heap.size + 1) 27 #[.pointer (some ⟨g, 0, none⟩)] := by
    have := Blk.new (wn.alloc (.cells #[.int .i64 s, .int .i64 len, .int .u8 a] 50)) 27 #[.pointer (some ⟨g, 0, none⟩)]
    rw [World.size_alloc] at this
    rw [← hW0]; exact this.alloc _
  have b4 : Blk W0 (wn.heap.size + 1 + 1) 50 #[.int .i64 s, .int .i64 len, .int .u8 a] := by
    have := Blk.new ((wn.alloc (.cells #[.int .i64 s, .int .i64 len, .int .u8 a] 50)).alloc (.cells #[.pointer (some ⟨g, 0, none⟩)] 27)) 50 #[.int .i64 s, .int .i64 len, .int .u8 a]
    rw [World.size_alloc, World.size_alloc] at this
    rw [← hW0]; exact this
  rw [hW0]
  clear hW0
  have p0 := (cell_ext hB0 hz0).trans hc0_0
  have hl0 : w.heap.size < W0.heap.size := by omega
  have hl5 : w.heap.size + 1 < W0.heap.size := by omega
  have hBB : Blk W0 (w.heap.size + 1) 42 #[.slice none 0 0] := Blk.below' hbox5 hB0
  have hHX : Ext w W0 := Ext_trans hB0 HX.out
  have HP0 := Lib.hid (HP.out.ext hHX)
  obtain ⟨ob, hob⟩ : ∃ ob, w.heap.size + 1 = ob := ⟨_, rfl⟩
  rw [hnb] at b3 b4 ⊢
  rw [hob] at hBB hl5 ⊢
  have hgo : g < W0.heap.size ∧ g ≠ ob := by omega
  have hco : c < W0.heap.size ∧ c ≠ ob := by omega
  have hbf : nb + 1 + 1 < W0.heap.size ∧ nb + 1 + 1 ≠ ob := by omega
  have hbp : nb + 1 < W0.heap.size ∧ nb + 1 ≠ ob := by omega
  have ho3 : w.heap.size ≠ ob := by omega
  have hwo : w.heap.size ≤ ob := by omega
  have hw0 : w.heap.size ≤ W0.heap.size := by omega
  clear hc0_0 hf0_0 hc1_0 hf1_0 hbox5
  refine wpIn_rangeFunc_ownG rfl (by omega) (gf := 85) (lb := #[.pointer (some ⟨nb + 1 + 1, 0, none⟩), .pointer (some ⟨nb + 1, 0, none⟩)]) rfl trivial (enters_of Try.func85 (by kernel_rfl) rfl)
    (Places_stops 8 (by omega) (nb + 1 + 1) (nb + 1) g c p s len a s0 s1 W0 b4 b3 HP0.out) KpP.trans (KpP.put (by omega) (by omega)) (Below.refl _ _) (fun _ => rfl)
    (fun pre W => (∃ v, Boxed W ob 42 v ∧ W.ownsRow W0.heap.size 3 1 v (from_ i pre).length (i64s (from_ i pre)) ∧ True) ∧ Chg [ob] W0 W)
    (fun _ _ _ => False)
    (OwnFrom.and ((holdsRow_own W0.heap.size ob 42 3 1 (fun pre : List Int => (from_ i pre).length) (fun pre => i64s (from_ i pre)) (fun _ _ => True)).from _) (chg_ownFrom _ _ _ (Nat.le_refl _)))
    (fun cd s X Y row hs hg' hr => hs)
    ⟨⟨_, hBB, ⟨by simp [from_, i64s], .inl ⟨rfl, rfl⟩⟩, trivial⟩, Chg.refl _ _⟩
    (fun x => { tmps := #[.pointer (some ⟨g, 0, none⟩), .int .i64 i, undef, .pointer (some ⟨w.heap.size, 0, none⟩), .slice none 0 0, .pointer (some ⟨ob, 0, none⟩), .pointer (some ⟨nb, 0, none⟩), .bool true, undef, .int .i64 x, .tuple #[.agg #[.int .i64 s, .int .i64 len, .int .u8 a], .bool true], .pointer (some ⟨g, 0, none⟩), .int .i64 i, .tuple #[.agg #[.int .i64 s, .int .i64 len, .int .u8 a], .bool true], .agg #[.int .i64 s, .int .i64 len, .int .u8 a], .bool true, .bool true, .bool false, undef, undef, undef, undef, undef, undef, undef, undef, undef, undef, undef, undef, .pointer (some ⟨g, 0, none⟩), .agg #[.int .i64 s, .int .i64 len, .int .u8 a], .func (.func 85) #[] #[.pointer (some ⟨nb + 1 + 1, 0, none⟩), .pointer (some ⟨nb + 1, 0, none⟩)], .int .i64 x, undef, undef, undef, undef, undef, undef, undef, undef, undef, undef, undef, undef, undef], defers := [] })
    ?assign ?body ?done ?stop
  case assign =>
    intro l x W K hK
    gi_wp2
    exact hK
  case body =>
    rintro l pre x W ⟨⟨v, hv, hrow, -⟩, hch⟩ hlt
    have hfl := from_len i pre
    have cB := (hch.cell (i := 0) (by simp; omega) hl0).trans p0
    have hv2 : Blk W ob 42 #[v] := hv
    obtain ⟨L, hL⟩ : ∃ L, from_ i pre = L := ⟨_, rfl⟩
    rw [hL] at hrow hfl
    obtain ⟨A, cc, rfl⟩ := own_slice hrow
    have c5 := hv2.cell 0
    simp at c5
    have hl1' : (L.length : Int) < 5000 := by omega
    have HL := Lib.hid hL
    have HV := Lib.hid hv2
    have HR := Lib.hid hrow
    have HCH := Lib.hid hch
    clear hv hv2 hrow hch hL hfl
    dsimp only
    by_cases hxi : x = i
    · rw [hxi]
      have hfs : from_ i (pre ++ [i]) = L ++ [i] := by rw [from_snoc, HL.out, if_pos (.inl rfl)]
      clear hxi
      gi_wp2_with (gi_at_builtin; refine append_one_in W0.heap.size rfl (.tmp 42) (.tmp 44) 42 3 (.int .i64 0) 1 8 rfl Try.underlying42 infoInt rfl (by decide) (.slice A L.length cc) L.length _ [.int .i64 i] HR.out (by rfl) (by rfl) rfl rfl (by rfl) (by omega) (by unfold maxLen; omega) HCH.out.size ?_; intro g9 c9 w1 hown hgr hge; obtain ⟨hb1, hb2, hb3, hb4⟩ := box_append HV.out (by decide) HR.out HCH.out hown hgr; have HB2 := Lib.hid hb2; have HB3 := Lib.hid hb3; have HB4 := Lib.hid hb4; have HGR := Lib.hid hgr; have d5 := hb1.cell 0; have f5 := hb1.free 0; simp at d5; clear hown hgr hge hb1 hb2 hb3 hb4)
      refine ⟨?_, KpP.of_two HCH.out HB4.out (by have := HGR.out.size; simpa using this) hgo hco hbf hbp, ⟨_, HB2.out, by rw [hfs, i64s_append, List.length_append]; exact HB3.out, trivial⟩, HB4.out⟩
      refine ((KeepsOthers.of_grownBy HGR.out fun j o ej hj => ?_).trans (KeepsOthers.setCell _ _ _)).from _
      obtain ⟨cur, hcur⟩ := PrintT_typed HR.out j ej
      rw [hcur] at hj
      cases hj
      rfl
    · have hx2 : decide (x = i) = false := decide_eq_false hxi
      have hx3 : (x == i) = false := by simpa using hxi
      by_cases hln : 0 < L.length
      · have hln2 : (0 : Int) < (L.length : Int) := by omega
        have hfs : from_ i (pre ++ [x]) = L ++ [x] := by rw [from_snoc, HL.out, if_pos (.inr hln)]
        gi_wp2_with (gi_at_builtin; refine append_one_in W0.heap.size rfl (.tmp 42) (.tmp 44) 42 3 (.int .i64 0) 1 8 rfl Try.underlying42 infoInt rfl (by decide) (.slice A L.length cc) L.length _ [.int .i64 x] HR.out (by rfl) (by rfl) rfl rfl (by rfl) (by omega) (by unfold maxLen; omega) HCH.out.size ?_; intro g9 c9 w1 hown hgr hge; obtain ⟨hb1, hb2, hb3, hb4⟩ := box_append HV.out (by decide) HR.out HCH.out hown hgr; have HB2 := Lib.hid hb2; have HB3 := Lib.hid hb3; have HB4 := Lib.hid hb4; have HGR := Lib.hid hgr; have d5 := hb1.cell 0; have f5 := hb1.free 0; simp at d5; clear hown hgr hge hb1 hb2 hb3 hb4)
        refine ⟨?_, KpP.of_two HCH.out HB4.out (by have := HGR.out.size; simpa using this) hgo hco hbf hbp, ⟨_, HB2.out, by rw [hfs, i64s_append, List.length_append]; exact HB3.out, trivial⟩, HB4.out⟩
        refine ((KeepsOthers.of_grownBy HGR.out fun j o ej hj => ?_).trans (KeepsOthers.setCell _ _ _)).from _
        obtain ⟨cur, hcur⟩ := PrintT_typed HR.out j ej
        rw [hcur] at hj
        cases hj
        rfl
      · have hln2 : ¬ (0 : Int) < (L.length : Int) := by omega
        have hln3 : decide ((0 : Int) < (L.length : Int)) = false := decide_eq_false hln2
        have hfs : from_ i (pre ++ [x]) = L := by
          rw [from_snoc, HL.out, if_neg (by rintro (h | h); exact hxi h; exact hln h)]
          cases L with
          | nil => rfl
          | cons _ _ => simp at hln
        gi_wp2_with fail
        exact ⟨KeepsFrom.refl _ _, KpP.refl _ _ _ _ _, ⟨_, HV.out, (by rw [hfs]; exact HR.out : W.ownsRow W0.heap.size 3 1 (.slice A L.length cc) (from_ i (pre ++ [x])).length (i64s (from_ i (pre ++ [x]))))⟩, HCH.out⟩
  case done =>
    rintro D xs W hD rfl ⟨⟨v, hv, hrow, -⟩, hch⟩ hK
    obtain ⟨A, cc, rfl⟩ := own_slice hrow
    have c5 := (show Blk W ob 42 #[_] from hv).cell 0
    simp at c5
    gi_wp2
    refine ⟨by simp, .inl ⟨_, _, rfl, run_takeDeferred hK, ?_⟩⟩
    rw [HRL.out]
    refine ⟨_, results_tmp rfl _ _ _, A, cc, rfl, own_weak (ownsRow_putObj hrow _ hK rfl) hw0, Chg.ext ((hch.drop (m := []) hHX (by intro i hi; simp at hi ⊢; omega)).put D _ (by omega)) (Ext_refl w) (by simp)⟩
  case stop =>
    rintro D cd pre W hD hpre hf hK
    exact hf.elim
end Go.Proofs.Ytmldhgebbgalbaa
