/- OptionPlays, its walk. -/
import Derived.Test.YtioaenidkieiiaaL6m
import Derived.Test.YtioaenidkieiiaaR06g
namespace Go.Proofs.Ytioaenidkieiiaa
set_option linter.unusedVariables false
set_option linter.unusedSimpArgs false
open Go.RowKit Go.Shelf

/-- what stands in memory: the object at b, the document's options in the box xb -/
structure St (w : World) (b xb : Nat) (vA vB : Value) (W : World) (o : Opt) (l : List One) (A : Option Addr) (c : Nat) : Prop where
  obj : OptAt W b o
  ext : Ext w W
  box : Blk W xb 29 #[.slice A l.length c, vA, vB]
  row : Rd W 3 A l.length (l.flatMap One.enc)
  offb : Off b A
  offx : Off xb A
  hb : w.heap.size ≤ b
  hx : w.heap.size ≤ xb
  ne : b ≠ xb
theorem St.step {w : World} {b xb : Nat} {vA vB : Value} {W W' : World} {o : Opt} {l : List One} {A : Option Addr} {c : Nat} (h : St w b xb vA vB W o l A c) (hx : Ext W W') : St w b xb vA vB W' o l A c :=
  ⟨Blk.below' h.obj hx, Ext_trans hx h.ext, Blk.below' h.box hx, Rd_ext hx h.row, h.offb, h.offx, h.hb, h.hx, h.ne⟩
theorem St.draw {w : World} {b xb : Nat} {vA vB : Value} {W : World} {o : Opt} {l : List One} {A : Option Addr} {c n : Nat} (h : St w b xb vA vB W o l A c) : St w b xb vA vB (W.drewN n) o l A c :=
  ⟨h.obj, Ext_drewN h.ext, h.box, h.row, h.offb, h.offx, h.hb, h.hx, h.ne⟩
theorem St.mut {w : World} {b xb : Nat} {vA vB : Value} {W W' : World} {o o' : Opt} {l : List One} {A : Option Addr} {c : Nat} (h : St w b xb vA vB W o l A c) (hm : Mut b W W') (ho : OptAt W' b o') : St w b xb vA vB W' o' l A c :=
  ⟨ho, Mut_trans hm h.ext h.hb, Blk.grown h.box hm (by have := h.ne; simp; exact fun e => this e.symm), h.row.grown hm (fun g e => by cases e; exact h.offb), h.offb, h.offx, h.hb, h.hx, h.ne⟩
theorem St.put {w : World} {b xb : Nat} {vA vB : Value} {W : World} {o : Opt} {l l' : List One} {A A' : Option Addr} {c c' : Nat} (h : St w b xb vA vB W o l A c) (hr : Rd W 3 A' l'.length (l'.flatMap One.enc)) (hb : Off b A') (hx : Off xb A') :
    St w b xb vA vB (((W.setCell ⟨xb, 0, none⟩ (.slice A' l'.length c')).setCell ⟨xb, 1, none⟩ vA).setCell ⟨xb, 2, none⟩ vB) o l' A' c' :=
  ⟨((h.obj.far h.ne _).far h.ne _).far h.ne _, Ext_set (Ext_set (Ext_set h.ext h.hx) h.hx) h.hx, ((h.box.store 0 _).store 1 _).store 2 _, Rd_set (Rd_set (Rd_set hr hx) hx) hx, hb, hx, h.hb, h.hx, h.ne⟩

theorem i64_mask (x : Int) (i : Nat) (hi : i ≤ 62) : bits .and .i64 x (((2 ^ i - 1 : Nat)) : Int) = x % ((2 ^ i : Nat) : Int) := by
  have hp : (2:Nat) ^ i ≤ 2 ^ 62 := Nat.pow_le_pow_right (by decide) hi
  have hpos : 0 < 2 ^ i := Nat.two_pow_pos i
  have h1 : ((2 ^ i - 1 : Nat) : Nat) % 2 ^ 64 = 2 ^ i - 1 := Nat.mod_eq_of_lt (by omega)
  simp only [bits, BitVec.ofInt_natCast, BitVec.toNat_and, BitVec.toNat_ofNat, BitVec.toNat_ofInt]
  rw [show IntKind.i64.bits = 64 from rfl]
  rw [h1, Nat.and_two_pow_sub_one_eq_mod]
  have h2 : ((x % ((2 ^ 64 : Nat) : Int)).toNat : Int) = x % ((2 ^ 64 : Nat) : Int) := Int.toNat_of_nonneg (Int.emod_nonneg _ (by decide))
  have h3 : (((x % ((2 ^ 64 : Nat) : Int)).toNat % 2 ^ i : Nat) : Int) = x % ((2 ^ i : Nat) : Int) := by
    rw [Int.natCast_emod, h2]
    apply Int.emod_emod_of_dvd
    exact_mod_cast Nat.pow_dvd_pow 2 (show i ≤ 64 by omega)
  rw [h3, IntKind.wrap_i64]
  have h4 : 0 ≤ x % ((2 ^ i : Nat) : Int) := Int.emod_nonneg _ (by omega)
  have h5 : x % ((2 ^ i : Nat) : Int) < ((2 ^ i : Nat) : Int) := Int.emod_lt_of_pos _ (by omega)
  omega
theorem and255 (x : Int) : bits .and .i64 x 255 = x % 256 := i64_mask x 8 (by decide)
theorem wordL_len (s : Bool) (x say : Int) : (wordL s x say).length ≤ 3 := by unfold wordL; split <;> simp
theorem gotL_said (l : List One) (lo lt : List Int) (c x : Int) : (gotL l lo lt c x).2.length ≤ 3 := by
  unfold gotL gotS
  repeat' split
  all_goals first | exact wordL_len _ _ _ | simp
theorem wantL_said (l : List One) (c x : Int) : (wantL l c x).2.1.length ≤ 3 := by
  unfold wantL wantS
  repeat' split
  all_goals first | exact wordL_len _ _ _ | simp
theorem st_obj {w : World} {b xb : Nat} {vA vB : Value} {o : Opt} {l : List One} {A : Option Addr} {c : Nat} {W : World} {X : Prop} (h : Hid (St w b xb vA vB W o l A c) ∧ X) : OptAt W b o := h.1.out.obj
theorem st_row {w : World} {b xb : Nat} {vA vB : Value} {o : Opt} {l : List One} {A : Option Addr} {c : Nat} {W : World} {X : Prop} (h : Hid (St w b xb vA vB W o l A c) ∧ X) : Rd W 3 A l.length (l.flatMap One.enc) := h.1.out.row
theorem st_ext {w : World} {b xb : Nat} {vA vB : Value} {o : Opt} {l : List One} {A : Option Addr} {c : Nat} {W W' : World} {X : Prop} (h : Hid (St w b xb vA vB W o l A c) ∧ X) (hx : Ext W W') : Hid (St w b xb vA vB W' o l A c) := h.1.out.step hx
structure Tl (w : World) (b xb : Nat) (vA vB : Value) (ob : Nat) (opv : Array Value) (o : Opt) (l : List One) (L : List Int) (A : Option Addr) (c : Nat) (A6 A8 : Option Addr) (W : World) : Prop where
  st : St w b xb vA vB W o l A c
  g : Rd W 1 A6 L.length (u8s L)
  t : Rd W 1 A8 L.length (u8s L)
  op : Blk W ob 31 opv
section
variable {w : World} {b xb : Nat} {vA vB : Value} {ob : Nat} {opv : Array Value} {o : Opt} {l : List One} {L : List Int} {A : Option Addr} {c : Nat} {A6 A8 : Option Addr} {W W' : World} {X : Prop}
theorem tl_g (h : Hid (Tl w b xb vA vB ob opv o l L A c A6 A8 W) ∧ X) : Rd W 1 A6 L.length (u8s L) := h.1.out.g
theorem tl_t (h : Hid (Tl w b xb vA vB ob opv o l L A c A6 A8 W) ∧ X) : Rd W 1 A8 L.length (u8s L) := h.1.out.t
theorem tl_obj (h : Hid (Tl w b xb vA vB ob opv o l L A c A6 A8 W) ∧ X) : OptAt W b o := h.1.out.st.obj
theorem tl_row (h : Hid (Tl w b xb vA vB ob opv o l L A c A6 A8 W) ∧ X) : Rd W 3 A l.length (l.flatMap One.enc) := h.1.out.st.row
theorem tl_ext (h : Hid (Tl w b xb vA vB ob opv o l L A c A6 A8 W) ∧ X) (hx : Ext W W') : Hid (Tl w b xb vA vB ob opv o l L A c A6 A8 W') := ⟨h.1.out.st.step hx, Rd_ext hx h.1.out.g, Rd_ext hx h.1.out.t, Blk.below' h.1.out.op hx⟩
end

set_option maxRecDepth 100000 in
set_option maxHeartbeats 4000000 in
theorem OptionPlays_any (A1 A2 A3 : Option Addr) (c1' c2' c3' : Nat) (lo lt : List Int) (ops : List OpV) (most : Int) (w : World) (ho : ∀ x ∈ lo, 0 ≤ x ∧ x < 256) (ht : ∀ x ∈ lt, 0 ≤ x ∧ x < 256) (hp : ∀ p ∈ ops, p.opt < 256 ∧ 0 ≤ p.code ∧ p.code < 256) (hm0 : -9223372036854775808 ≤ most) (hm1 : most ≤ 9223372036854775807)
    (n1 : lo.length ≤ maxLen) (n2 : lt.length ≤ maxLen) (n3 : ops.length ≤ maxLen)
    (h1 : Rd w 1 A1 lo.length (u8s lo)) (h2 : Rd w 1 A2 lt.length (u8s lt)) (h3 : Rd w 3 A3 ops.length (ops.flatMap OpV.enc)) :
    Calls Try.prog 3 #[.slice A1 lo.length c1', .slice A2 lt.length c2', .slice A3 ops.length c3', .int .i64 most] w (Ret (.bool true) w) := by
  unfold maxLen at n1 n2 n3
  have R1 := Lib.hid (fun w' (h : Ext w w') => Rd_ext h h1)
  have R2 := Lib.hid (fun w' (h : Ext w w') => Rd_ext h h2)
  have R3 := Lib.hid (fun w' (h : Ext w w') => Rd_ext h h3)
  have HO := Lib.hid ho
  have HT := Lib.hid ht
  have HP := Lib.hid hp
  clear h1 h2 h3 ho ht hp
  have arm := alive_any w
  have AL := Lib.hid arm
  clear arm
  by_cases l3 : 60 < ops.length
  · go_enter Try.func3, Try.ntmps3
    go_wp2_with (go_at_call 10; refine AL.out.mono ?_; rintro e wa ⟨rfl, hx⟩; have HX := Lib.hid hx; clear hx)
    go_ret
    exact ⟨rfl, HX.out⟩
  by_cases l1 : 30 < lo.length
  · have l3' : ops.length ≤ 60 := by omega
    clear l3
    go_enter Try.func3, Try.ntmps3
    go_wp2_with (go_at_call 10; refine AL.out.mono ?_; rintro e wa ⟨rfl, hx⟩; have HX := Lib.hid hx; clear hx)
    go_ret
    exact ⟨rfl, HX.out⟩
  by_cases l2 : 30 < lt.length
  · have l3' : ops.length ≤ 60 := by omega
    have l1' : lo.length ≤ 30 := by omega
    clear l3 l1
    go_enter Try.func3, Try.ntmps3
    go_wp2_with (go_at_call 10; refine AL.out.mono ?_; rintro e wa ⟨rfl, hx⟩; have HX := Lib.hid hx; clear hx)
    go_ret
    exact ⟨rfl, HX.out⟩
  have l3' : ops.length ≤ 60 := by omega
  have l1' : lo.length ≤ 30 := by omega
  have l2' : lt.length ≤ 30 := by omega
  clear l3 l1 l2
  go_enter Try.func3, Try.ntmps3
  go_wp2_with (go_at_call 10; refine AL.out.mono ?_; rintro e wa ⟨rfl, hx⟩; have HX := Lib.hid hx; clear hx)
  refine (New_obj A1 A2 lo lt _ _ HO.out HT.out (by omega) (by omega) _ (R1.out _ HX.out) (R2.out _ HX.out)).mono ?_
  rintro e w0 ⟨b, rfl, hO, hxx, hle, hlt0⟩
  have O0 := Lib.hid hO
  have X0 := Lib.hid (Ext_trans hxx HX.out)
  have hbw : w.heap.size ≤ b := Nat.le_trans HX.out.size hle
  clear hO hxx hle
  have S0 := Lib.hid (show St w b w0.heap.size (.slice A1 lo.length c1') (.slice A2 lt.length c2') (w0.alloc (.cells #[.slice none 0 0, .slice A1 lo.length c1', .slice A2 lt.length c2'] 29)) _ [] none 0 from
    ⟨Blk.below' O0.out (Ext_alloc (Ext_refl _)), Ext_alloc X0.out, Blk.new w0 _ _, Rd.nil _ _ _, (fun _ e => by cases e), (fun _ e => by cases e), hbw, X0.out.size, Nat.ne_of_lt hlt0⟩)
  go_wp2_with fail
  generalize w0.heap.size = xb at *
  go_loopw [46] (fun v wr => ∃ (k : Nat) (o : Opt) (l : List One) (A : Option Addr) (c : Nat), k ≤ ops.length ∧ v = .int .i64 k ∧ Hid (Rel o l lo lt) ∧ l.length ≤ k ∧ Hid (St w b xb (.slice A1 lo.length c1') (.slice A2 lt.length c2') wr o l A c)) (fun v _ => ops.length - (intOf v).toNat)
  case atStart => exact ⟨0, _, [], none, 0, Nat.zero_le _, rfl, Rel.new lo lt, Nat.le_refl _, S0.out⟩
  case round =>
    obtain ⟨k, o, l, A, c, hk, rfl, HI, hlk, H1⟩ := hrel
    by_cases hlt : k < ops.length
    · obtain ⟨g, q, rfl, hc⟩ := (R3.out _ H1.out.ext).elem OpV.enc (fun _ => rfl) hlt (List.getElem?_eq_getElem hlt)
      have hx := HP.out ops[k] (List.getElem_mem hlt)
      generalize ops[k] = p at hc hx
      obtain ⟨wi, co, x⟩ := p
      have c0 := hc 0 _ rfl
      have c1 := hc 1 _ rfl
      have c2 := hc 2 _ rfl
      simp only [Nat.add_zero] at c0
      clear hc
      cases wi
      · go_wp2_with fail
        have hxb : xb < wr.heap.size := H1.out.box.lt
        have hbl : b < wr.heap.size := H1.out.obj.lt
        have hE5 : Ext wr (((wr.alloc (.cells #[.bool false, .int .u8 co, .int .u8 (x : Int)] 31)).alloc (.cells #[] 5)).alloc (.cells #[] 5)) := Ext_alloc (Ext_alloc (Ext_alloc (Ext_refl _)))
        have S5 := Lib.hid (H1.out.step hE5)
        have B5 := Lib.hid (((Blk.new wr 31 #[.bool false, .int .u8 co, .int .u8 (x : Int)]).alloc (.cells #[] 5)).alloc (.cells #[] 5))
        have hwr : w.heap.size ≤ wr.heap.size := H1.out.ext.size
        have hob1 : wr.heap.size ≠ b := by omega
        have hob2 : wr.heap.size ≠ xb := by omega
        generalize wr.heap.size = ob at *
        generalize ((wr.alloc (.cells #[.bool false, .int .u8 co, .int .u8 (x : Int)] 31)).alloc (.cells #[] 5)).alloc (.cells #[] 5) = W5 at *
        have hx256 : x < 256 := hx.1
        have HCO := Lib.hid hx.2
        have hll : l.length ≤ 60 := by omega
        clear H1 hE5 hxb hbl c0 c1 c2 hx
        have hgot := HI.out.got hx256 co
        have HG := Lib.hid hgot
        have HGL := Lib.hid (gotL_length l lo lt co (x : Int))
        have HLOW := Lib.hid (fun s => HI.out.low' hx256 s)
        clear hgot
        refine (Got_any b x co o hx256 _ S5.out.obj).mono ?_
        rintro e w6 ⟨v6, rfl, hO, hm, A6, c6, rfl, -, hr6, hf6⟩
        have S6 := Lib.hid (S5.out.mut hm hO)
        have B6 := Lib.hid (B5.out.grown hm (by simp; exact hob1))
        have G6 := Lib.hid hr6
        have hz6 : W5.heap.size ≤ w6.heap.size := hm.size
        have HF6 := Lib.hid hf6
        have h5b : b < W5.heap.size ∧ xb < W5.heap.size := ⟨S5.out.obj.lt, S5.out.box.lt⟩
        clear hO hm hr6 S5 B5 hf6
        have e1 := B6.out.cell 1
        have e2 := B6.out.cell 2
        have x0 := S6.out.box.cell 0
        have x1 := S6.out.box.cell 1
        have x2 := S6.out.box.cell 2
        simp at e1 e2 x0 x1 x2
        go_wp2_with fail
        refine (ref_Got_any A A1 A2 c c1' c2' l lo lt co (x : Int) HCO.out (by omega) (by omega) (by omega) _ S6.out.row (R1.out _ S6.out.ext) (R2.out _ S6.out.ext) HLOW.out).mono ?_
        rintro e w7 ⟨A7, c7, v7, rfl, hr7, hoff, ⟨A8, c8, rfl, -, hr8, hf8⟩, hb⟩
        have S7 := Lib.hid (S6.out.step hb)
        have hE7 := S7.out.ext
        have B7 := Lib.hid (Blk.below' B6.out hb)
        have hxw : xb < w6.heap.size := Nat.lt_of_lt_of_le h5b.2 hz6
        have hbw6 : b < w6.heap.size := Nat.lt_of_lt_of_le h5b.1 hz6
        have OB := Lib.hid (hoff b hbw6 S6.out.offb)
        have OX := Lib.hid (hoff xb hxw S6.out.offx)
        have S8 := Lib.hid (S7.out.put (c' := c7) hr7 OB.out OX.out)
        have G7 := Lib.hid (Rd_ext hb G6.out)
        have offG := HF6.out.off h5b.2
        have offT := hf8.off hxw
        have G8 := Lib.hid (Rd_set (b := xb) (i := 2) (u := .slice A2 lt.length c2') (Rd_set (b := xb) (i := 1) (u := .slice A1 lo.length c1') (Rd_set (b := xb) (i := 0) (u := .slice A7 (gotL l lo lt co (x : Int)).1.length c7) G7.out offG) offG) offG)
        have T8 := Lib.hid (Rd_set (b := xb) (i := 2) (u := .slice A2 lt.length c2') (Rd_set (b := xb) (i := 1) (u := .slice A1 lo.length c1') (Rd_set (b := xb) (i := 0) (u := .slice A7 (gotL l lo lt co (x : Int)).1.length c7) hr8 offT) offT) offT)
        have B8 := Lib.hid (((B7.out.far (p := ⟨xb, 0, none⟩) hob2 (.slice A7 (gotL l lo lt co (x : Int)).1.length c7)).far (p := ⟨xb, 1, none⟩) hob2 (.slice A1 lo.length c1')).far (p := ⟨xb, 2, none⟩) hob2 (.slice A2 lt.length c2'))
        have HR2 := Lib.hid HG.out.1
        have heq := HG.out.2
        rw [heq] at G8
        rw [heq]
        clear heq
        have y0 := S7.out.box.cell 0
        have y1 := S7.out.box.cell 1
        have y2 := S7.out.box.cell 2
        have z0 := S7.out.box.free 0
        have z1 := S7.out.box.free 1
        have z2 := S7.out.box.free 2
        simp at y0 y1 y2
        clear hr7 hr8 hf8 hoff hb S6 B6 G6 HF6 S7 B7 G7 offG offT OB OX HG e1 e2 x0 x1 x2
        go_wp2_with fail
        generalize ((w7.setCell ⟨xb, 0, none⟩ (.slice A7 (gotL l lo lt co (x : Int)).1.length c7)).setCell ⟨xb, 1, none⟩ (.slice A1 lo.length c1')).setCell ⟨xb, 2, none⟩ (.slice A2 lt.length c2') = W8 at *
        have hsd := gotL_said l lo lt co (x : Int)
        generalize (o.got co x).1 = o2 at *
        generalize (gotL l lo lt co (x : Int)).1 = l2 at *
        generalize (gotL l lo lt co (x : Int)).2 = L at *
        have hLL : L.length ≤ 1000000 := by omega
        have hl2 : l2.length ≤ k + 1 := by have := HGL.out; omega
        have HTL := Lib.hid (show Tl w b xb (.slice A1 lo.length c1') (.slice A2 lt.length c2') ob #[.bool false, .int .u8 co, .int .u8 (x : Int)] o2 l2 L A7 c7 A6 A8 W8.drew from ⟨S8.out.draw (n := 1), G8.out, T8.out, B8.out⟩)
        have q0 := S8.out.box.cell 0
        have q1 := S8.out.box.cell 1
        have q2 := S8.out.box.cell 2
        simp at q0 q1 q2
        have HBU := Lib.hid (HR2.out.busy)
        clear S8 G8 T8 B8
        go_region_held3 (fun W' => Hid (Tl w b xb (.slice A1 lo.length c1') (.slice A2 lt.length c2') ob #[.bool false, .int .u8 co, .int .u8 (x : Int)] o2 l2 L A7 c7 A6 A8 W') ∧ W'.cell? ⟨xb, 0, none⟩ = some (.slice A7 l2.length c7) ∧ W'.cell? ⟨xb, 1, none⟩ = some (.slice A1 lo.length c1') ∧ W'.cell? ⟨xb, 2, none⟩ = some (.slice A2 lt.length c2'))
          (first | go_keep | exact ⟨m0, m1, m2, m3⟩ | exact ⟨HTL, q0, q1, q2⟩)
          ((first
            | (go_at_call 16; refine (Same_any A6 A8 c6 c8 L L (by omega) _ (tl_g (by assumption)) (tl_t (by assumption))).mono ?_; rintro e wq ⟨rfl, hb⟩; rw [decide_eq_true rfl]; have m0 := tl_ext (by assumption) hb; have m1 := m0.out.st.box.cell 0; have m2 := m0.out.st.box.cell 1; have m3 := m0.out.st.box.cell 2; simp at m1 m2 m3)
            | (go_at_call 17; refine (Busy_b b o2 _ rfl _ (tl_obj (by assumption))).mono ?_; rintro e wq ⟨rfl, rfl⟩)
            | (go_at_call 18; refine (ref_Busy A7 c7 _ _ l2 (by omega) _ (tl_row (by assumption))).mono ?_; rintro e wq ⟨rfl, hb⟩; rw [← HBU.out]; have m0 := tl_ext (by assumption) hb; have m1 := m0.out.st.box.cell 0; have m2 := m0.out.st.box.cell 1; have m3 := m0.out.st.box.cell 2; simp at m1 m2 m3)))
        have HS9 := Lib.hid m0.out.st
        have HB9 := Lib.hid m0.out.op
        clear HTL q0 q1 q2 HBU m0 m1 m2 m3
        go_wp2_with fail
        have hE10 := Ext_alloc (o := .cells #[.bool true, .bool false] 4) (Ext_refl wq)
        have HS10 := Lib.hid (HS9.out.step hE10)
        have HB10 := Lib.hid (Blk.below' HB9.out hE10)
        have HL10 := Lib.hid (Blk.new wq 4 #[.bool true, .bool false])
        clear hE10 HS9 HB9
        generalize wq.heap.size = sb at *
        generalize wq.alloc (.cells #[.bool true, .bool false] 4) = W10 at *
        go_loopw [21, 22, 107] (fun _ _ v wr => ∃ k2 : Nat, k2 ≤ 2 ∧ v = .int .i64 k2 ∧ Hid (St w b xb (.slice A1 lo.length c1') (.slice A2 lt.length c2') wr o2 l2 A7 c7) ∧ Hid (Blk wr ob 31 #[.bool false, .int .u8 co, .int .u8 (x : Int)]) ∧ Hid (Blk wr sb 4 #[.bool true, .bool false])) (fun _ _ v _ => 2 - (intOf v).toNat)
        case atStart => exact ⟨0, by omega, rfl, HS10.out, HB10.out, HL10.out⟩
        case round =>
          clear HS10 HB10 HL10
          obtain ⟨k2, hk2, rfl, G1, G2, G3⟩ := hrel
          by_cases hl2' : k2 < 2
          · obtain ⟨s, hs⟩ : ∃ s : Bool, wr.cell? ⟨sb, k2, none⟩ = some (.bool s) := by
              rw [G3.out.cell k2]
              have : k2 = 0 ∨ k2 = 1 := by omega
              rcases this with rfl | rfl <;> exact ⟨_, rfl⟩
            have q0 := G1.out.box.cell 0
            have q1 := G1.out.box.cell 1
            have q2 := G1.out.box.cell 2
            have e2 := G2.out.cell 2
            simp at q0 q1 q2 e2
            have HST := Lib.hid (HR2.out.st s x hx256)
            have hob3 : ob < wr.heap.size := G2.out.lt
            have HOB3 := Lib.hid hob3
            clear hob3
            go_wp2_with (first
              | (go_at_call 19; refine (ref_State A7 c7 _ _ l2 s (x : Int) (by omega) _ G1.out.row).mono ?_; rintro e wn ⟨rfl, hb⟩; rw [HST.out]; have G4 := Lib.hid (G1.out.step hb); have G5 := Lib.hid (Blk.below' G2.out hb); have G6 := Lib.hid (Blk.below' G3.out hb); have f2 := (G5.out.cell 2); simp at f2; clear hb q0 q1 q2 e2 hs)
              | (go_at_call 20; refine (State_any b x s o2 hx256 _ G4.out.obj).mono ?_; rintro e wm ⟨rfl, rfl⟩)
              | (go_at_call 21; refine (On_any b x s o2 hx256 _ G4.out.obj).mono ?_; rintro e wm ⟨rfl, rfl⟩))
            go_roundw
            case rel => exact ⟨k2 + 1, by omega, by go_num, G4.out, G5.out, G6.out⟩
            case measure => simp [intOf]; omega
          · have : 2 = k2 := by omega
            subst this
            go_wp2_with fail
            go_roundw
            case rel => exact ⟨k + 1, o2, l2, A7, c7, by omega, by go_num, HR2.out, hl2, G1.out⟩
            case measure => simp [intOf]; omega
      · go_wp2_with fail
        have hxb : xb < wr.heap.size := H1.out.box.lt
        have hbl : b < wr.heap.size := H1.out.obj.lt
        have hE5 : Ext wr (((wr.alloc (.cells #[.bool true, .int .u8 co, .int .u8 (x : Int)] 31)).alloc (.cells #[] 5)).alloc (.cells #[] 5)) := Ext_alloc (Ext_alloc (Ext_alloc (Ext_refl _)))
        have S5 := Lib.hid (H1.out.step hE5)
        have B5 := Lib.hid (((Blk.new wr 31 #[.bool true, .int .u8 co, .int .u8 (x : Int)]).alloc (.cells #[] 5)).alloc (.cells #[] 5))
        have hwr : w.heap.size ≤ wr.heap.size := H1.out.ext.size
        have hob1 : wr.heap.size ≠ b := by omega
        have hob2 : wr.heap.size ≠ xb := by omega
        generalize wr.heap.size = ob at *
        generalize ((wr.alloc (.cells #[.bool true, .int .u8 co, .int .u8 (x : Int)] 31)).alloc (.cells #[] 5)).alloc (.cells #[] 5) = W5 at *
        have hx256 : x < 256 := hx.1
        have HCO := Lib.hid hx.2
        have hll : l.length ≤ 60 := by omega
        clear H1 hE5 hxb hbl c0 c1 c2 hx
        have HG := Lib.hid (HI.out.want hx256 co)
        have HGL := Lib.hid (wantL_length l co (x : Int))
        have HLOW := Lib.hid (fun s => HI.out.low' hx256 s)
        refine (Want_any b x co o hx256 _ S5.out.obj).mono ?_
        rintro e w6 ⟨v6, rfl, hO, hm, A6, c6, rfl, -, hr6, hf6⟩
        have S6 := Lib.hid (S5.out.mut hm hO)
        have B6 := Lib.hid (B5.out.grown hm (by simp; exact hob1))
        have G6 := Lib.hid hr6
        have hz6 : W5.heap.size ≤ w6.heap.size := hm.size
        have HF6 := Lib.hid hf6
        have h5b : b < W5.heap.size ∧ xb < W5.heap.size := ⟨S5.out.obj.lt, S5.out.box.lt⟩
        clear hO hm hr6 S5 B5 hf6
        have e1 := B6.out.cell 1
        have e2 := B6.out.cell 2
        have x0 := S6.out.box.cell 0
        have x1 := S6.out.box.cell 1
        have x2 := S6.out.box.cell 2
        simp at e1 e2 x0 x1 x2
        go_wp2_with fail
        refine (ref_Want_any A A1 A2 c _ c1' _ c2' l co (x : Int) HCO.out (by omega) _ S6.out.row HLOW.out).mono ?_
        rintro e w7 ⟨A7, c7, v7, rfl, hr7, hoff, ⟨A8, c8, rfl, -, hr8, hf8⟩, hb⟩
        have heq := HG.out.2
        have HR2 := Lib.hid HG.out.1
        rw [heq] at G6 ⊢
        clear heq HG
        have hsd := wantL_said l co (x : Int)
        generalize (o.want co x).1 = o2 at *
        generalize wantL l co (x : Int) = wl at *
        obtain ⟨l2, L, fl⟩ := wl
        dsimp only at *
        have S7 := Lib.hid (S6.out.step hb)
        have B7 := Lib.hid (Blk.below' B6.out hb)
        have G7 := Lib.hid (Rd_ext hb G6.out)
        have T7 := Lib.hid hr8
        have hxw : xb < w6.heap.size := Nat.lt_of_lt_of_le h5b.2 hz6
        have hbw6 : b < w6.heap.size := Nat.lt_of_lt_of_le h5b.1 hz6
        have OB := Lib.hid (hoff b hbw6 S6.out.offb)
        have OX := Lib.hid (hoff xb hxw S6.out.offx)
        have offG := Lib.hid (HF6.out.off h5b.2)
        have offT := Lib.hid (hf8.off hxw)
        have R7 := Lib.hid hr7
        clear hr7 hr8 hf8 hoff hb S6 B6 G6 HF6 e1 e2 x0 x1 x2
        go_wp2_with fail
        have hE7 := Ext_alloc (o := .cells #[.slice A7 l2.length c7, .slice A1 lo.length c1', .slice A2 lt.length c2'] 29) (Ext_refl w7)
        have S8 := Lib.hid (S7.out.step hE7)
        have B8 := Lib.hid (Blk.below' B7.out hE7)
        have G8 := Lib.hid (Rd_ext hE7 G7.out)
        have T8 := Lib.hid (Rd_ext hE7 T7.out)
        have R8 := Lib.hid (Rd_ext hE7 R7.out)
        have Y8 := Lib.hid (Blk.new w7 29 #[.slice A7 l2.length c7, .slice A1 lo.length c1', .slice A2 lt.length c2'])
        clear hE7 S7 B7 G7 T7 R7
        generalize w7.heap.size = yb at *
        generalize w7.alloc (.cells #[.slice A7 l2.length c7, .slice A1 lo.length c1', .slice A2 lt.length c2'] 29) = W7 at *
        have x0 := S8.out.box.cell 0
        have x1 := S8.out.box.cell 1
        have x2 := S8.out.box.cell 2
        have z0 := S8.out.box.free 0
        have z1 := S8.out.box.free 1
        have z2 := S8.out.box.free 2
        have y0 := Y8.out.cell 0
        have y1 := Y8.out.cell 1
        have y2 := Y8.out.cell 2
        simp at x0 x1 x2 y0 y1 y2
        go_region
        all_goals go_wp2_with fail
        have hL3 : L.length ≤ 3 := hsd
        have hl2 : l2.length ≤ k + 1 := by have h : l2.length ≤ l.length + 1 := HGL.out; omega
        have hLL : L.length ≤ 1000000 := by omega
        have oG := offG.out
        have oT := offT.out
        have S9 := Lib.hid ((S8.out.put (c' := c7) R8.out OB.out OX.out).draw (n := 1))
        have G9 := Lib.hid (Rd_set (b := xb) (i := 2) (u := .slice A2 lt.length c2') (Rd_set (b := xb) (i := 1) (u := .slice A1 lo.length c1') (Rd_set (b := xb) (i := 0) (u := .slice A7 l2.length c7) G8.out oG) oG) oG)
        have T9 := Lib.hid (Rd_set (b := xb) (i := 2) (u := .slice A2 lt.length c2') (Rd_set (b := xb) (i := 1) (u := .slice A1 lo.length c1') (Rd_set (b := xb) (i := 0) (u := .slice A7 l2.length c7) T8.out oT) oT) oT)
        have B9 := Lib.hid (((B8.out.far (p := ⟨xb, 0, none⟩) hob2 (.slice A7 l2.length c7)).far (p := ⟨xb, 1, none⟩) hob2 (.slice A1 lo.length c1')).far (p := ⟨xb, 2, none⟩) hob2 (.slice A2 lt.length c2'))
        clear S8 G8 T8 B8 R8 Y8 x0 x1 x2 y0 y1 y2 z0 z1 z2 oG oT offG offT OB OX hsd
        have S8 := Lib.hid (show St w b xb (.slice A1 lo.length c1') (.slice A2 lt.length c2') (((W7.setCell ⟨xb, 0, none⟩ (.slice A7 l2.length c7)).setCell ⟨xb, 1, none⟩ (.slice A1 lo.length c1')).setCell ⟨xb, 2, none⟩ (.slice A2 lt.length c2')).drew o2 l2 A7 c7 from S9.out)
        have G8 := Lib.hid (show Rd (((W7.setCell ⟨xb, 0, none⟩ (.slice A7 l2.length c7)).setCell ⟨xb, 1, none⟩ (.slice A1 lo.length c1')).setCell ⟨xb, 2, none⟩ (.slice A2 lt.length c2')).drew 1 A6 L.length (u8s L) from G9.out)
        have T8 := Lib.hid (show Rd (((W7.setCell ⟨xb, 0, none⟩ (.slice A7 l2.length c7)).setCell ⟨xb, 1, none⟩ (.slice A1 lo.length c1')).setCell ⟨xb, 2, none⟩ (.slice A2 lt.length c2')).drew 1 A8 L.length (u8s L) from T9.out)
        have B8 := Lib.hid (show Blk (((W7.setCell ⟨xb, 0, none⟩ (.slice A7 l2.length c7)).setCell ⟨xb, 1, none⟩ (.slice A1 lo.length c1')).setCell ⟨xb, 2, none⟩ (.slice A2 lt.length c2')).drew ob 31 #[.bool true, .int .u8 co, .int .u8 (x : Int)] from B9.out)
        clear S9 G9 T9 B9
        generalize (((W7.setCell ⟨xb, 0, none⟩ (.slice A7 l2.length c7)).setCell ⟨xb, 1, none⟩ (.slice A1 lo.length c1')).setCell ⟨xb, 2, none⟩ (.slice A2 lt.length c2')).drew = W8 at *
        have HTL := Lib.hid (show Tl w b xb (.slice A1 lo.length c1') (.slice A2 lt.length c2') ob #[.bool true, .int .u8 co, .int .u8 (x : Int)] o2 l2 L A7 c7 A6 A8 W8.drew from ⟨S8.out.draw (n := 1), G8.out, T8.out, B8.out⟩)
        have q0 := S8.out.box.cell 0
        have q1 := S8.out.box.cell 1
        have q2 := S8.out.box.cell 2
        simp at q0 q1 q2
        have HBU := Lib.hid (HR2.out.busy)
        clear S8 G8 T8 B8
        go_region_held3 (fun W' => Hid (Tl w b xb (.slice A1 lo.length c1') (.slice A2 lt.length c2') ob #[.bool true, .int .u8 co, .int .u8 (x : Int)] o2 l2 L A7 c7 A6 A8 W') ∧ W'.cell? ⟨xb, 0, none⟩ = some (.slice A7 l2.length c7) ∧ W'.cell? ⟨xb, 1, none⟩ = some (.slice A1 lo.length c1') ∧ W'.cell? ⟨xb, 2, none⟩ = some (.slice A2 lt.length c2'))
          (first | go_keep | exact ⟨m0, m1, m2, m3⟩ | exact ⟨HTL, q0, q1, q2⟩)
          ((first
            | (go_at_call 16; refine (Same_any A6 A8 c6 c8 L L (by omega) _ (tl_g (by assumption)) (tl_t (by assumption))).mono ?_; rintro e wq ⟨rfl, hb⟩; rw [decide_eq_true rfl]; have m0 := tl_ext (by assumption) hb; have m1 := m0.out.st.box.cell 0; have m2 := m0.out.st.box.cell 1; have m3 := m0.out.st.box.cell 2; simp at m1 m2 m3)
            | (go_at_call 17; refine (Busy_b b o2 _ rfl _ (tl_obj (by assumption))).mono ?_; rintro e wq ⟨rfl, rfl⟩)
            | (go_at_call 18; refine (ref_Busy A7 c7 _ _ l2 (by omega) _ (tl_row (by assumption))).mono ?_; rintro e wq ⟨rfl, hb⟩; rw [← HBU.out]; have m0 := tl_ext (by assumption) hb; have m1 := m0.out.st.box.cell 0; have m2 := m0.out.st.box.cell 1; have m3 := m0.out.st.box.cell 2; simp at m1 m2 m3)))
        have HS9 := Lib.hid m0.out.st
        have HB9 := Lib.hid m0.out.op
        clear HTL q0 q1 q2 HBU m0 m1 m2 m3
        go_wp2_with fail
        have hE10 := Ext_alloc (o := .cells #[.bool true, .bool false] 4) (Ext_refl wq)
        have HS10 := Lib.hid (HS9.out.step hE10)
        have HB10 := Lib.hid (Blk.below' HB9.out hE10)
        have HL10 := Lib.hid (Blk.new wq 4 #[.bool true, .bool false])
        clear hE10 HS9 HB9
        generalize wq.heap.size = sb at *
        generalize wq.alloc (.cells #[.bool true, .bool false] 4) = W10 at *
        go_loopw [21, 22, 107] (fun _ _ v wr => ∃ k2 : Nat, k2 ≤ 2 ∧ v = .int .i64 k2 ∧ Hid (St w b xb (.slice A1 lo.length c1') (.slice A2 lt.length c2') wr o2 l2 A7 c7) ∧ Hid (Blk wr ob 31 #[.bool true, .int .u8 co, .int .u8 (x : Int)]) ∧ Hid (Blk wr sb 4 #[.bool true, .bool false])) (fun _ _ v _ => 2 - (intOf v).toNat)
        case atStart => exact ⟨0, by omega, rfl, HS10.out, HB10.out, HL10.out⟩
        case round =>
          clear HS10 HB10 HL10
          obtain ⟨k2, hk2, rfl, G1, G2, G3⟩ := hrel
          by_cases hl2' : k2 < 2
          · obtain ⟨s, hs⟩ : ∃ s : Bool, wr.cell? ⟨sb, k2, none⟩ = some (.bool s) := by
              rw [G3.out.cell k2]
              have : k2 = 0 ∨ k2 = 1 := by omega
              rcases this with rfl | rfl <;> exact ⟨_, rfl⟩
            have q0 := G1.out.box.cell 0
            have q1 := G1.out.box.cell 1
            have q2 := G1.out.box.cell 2
            have e2 := G2.out.cell 2
            simp at q0 q1 q2 e2
            have HST := Lib.hid (HR2.out.st s x hx256)
            have hob3 : ob < wr.heap.size := G2.out.lt
            have HOB3 := Lib.hid hob3
            clear hob3
            go_wp2_with (first
              | (go_at_call 19; refine (ref_State A7 c7 _ _ l2 s (x : Int) (by omega) _ G1.out.row).mono ?_; rintro e wn ⟨rfl, hb⟩; rw [HST.out]; have G4 := Lib.hid (G1.out.step hb); have G5 := Lib.hid (Blk.below' G2.out hb); have G6 := Lib.hid (Blk.below' G3.out hb); have f2 := (G5.out.cell 2); simp at f2; clear hb q0 q1 q2 e2 hs)
              | (go_at_call 20; refine (State_any b x s o2 hx256 _ G4.out.obj).mono ?_; rintro e wm ⟨rfl, rfl⟩)
              | (go_at_call 21; refine (On_any b x s o2 hx256 _ G4.out.obj).mono ?_; rintro e wm ⟨rfl, rfl⟩))
            go_roundw
            case rel => exact ⟨k2 + 1, by omega, by go_num, G4.out, G5.out, G6.out⟩
            case measure => simp [intOf]; omega
          · have : 2 = k2 := by omega
            subst this
            go_wp2_with fail
            go_roundw
            case rel => exact ⟨k + 1, o2, l2, A7, c7, by omega, by go_num, HR2.out, hl2, G1.out⟩
            case measure => simp [intOf]; omega
    · have : k = ops.length := by omega
      subst this
      go_upto_region 29 with (fail)
      obtain ⟨m, hm⟩ : ∃ m : Nat, 1 + most % 256 = (m : Int) := ⟨(1 + most % 256).toNat, by omega⟩
      have hmb : 1 ≤ m ∧ m ≤ 256 := by omega
      rw [and255, hm, IntWalk.wrap64_in _ (by omega)]
      have HON := Lib.hid (fun s => HI.out.ons s)
      obtain ⟨Lt, hLt⟩ : ∃ L, (ons o true 256).take m = L := ⟨_, rfl⟩
      obtain ⟨Lf, hLf⟩ : ∃ L, (ons o false 256).take m = L := ⟨_, rfl⟩
      have hlt1 : Lt.length ≤ 256 := by rw [← hLt, List.length_take]; omega
      have hlf1 : Lf.length ≤ 256 := by rw [← hLf, List.length_take]; omega
      have Kt := Lib.hid hLt
      have Kf := Lib.hid hLf
      clear hLt hLf
      have HS0 := Lib.hid (show St w b xb (.slice A1 lo.length c1') (.slice A2 lt.length c2') wr.drew o l A c from H1.out.draw (n := 1))
      have q0 := H1.out.box.cell 0
      have q1 := H1.out.box.cell 1
      have q2 := H1.out.box.cell 2
      simp at q0 q1 q2
      go_region_held3 (fun W' => Hid (St w b xb (.slice A1 lo.length c1') (.slice A2 lt.length c2') W' o l A c) ∧ W'.cell? ⟨xb, 0, none⟩ = some (.slice A l.length c) ∧ W'.cell? ⟨xb, 1, none⟩ = some (.slice A1 lo.length c1') ∧ W'.cell? ⟨xb, 2, none⟩ = some (.slice A2 lt.length c2'))
        (first | go_keep | exact ⟨m0, m1, m2, m3⟩ | exact ⟨HS0, q0, q1, q2⟩)
        ((first
          | (go_at_call 22; refine (all_any b _ m o hmb.1 _ (st_obj (by assumption))).mono ?_; rintro e wq ⟨v, rfl, ⟨Aa, ca, rfl, -, ha, -⟩, hb⟩; (first | rw [Kt.out] at ha ⊢ | rw [Kf.out] at ha ⊢); have m0 := st_ext (by assumption) hb; have m1 := m0.out.box.cell 0; have m2 := m0.out.box.cell 1; have m3 := m0.out.box.cell 2; simp at m1 m2 m3)
          | (go_at_call 23; refine (on_any A A1 A2 c _ c1' _ c2' l _ m hmb.2 (by omega) _ (st_row (by assumption))).mono ?_; rintro e wq ⟨v, rfl, ⟨Ab, cb, rfl, -, hn, -⟩, hb⟩; rw [HON.out] at hn ⊢; (first | rw [Kt.out] at hn ⊢ | rw [Kf.out] at hn ⊢); have ha1 := Rd_ext hb ha; have m0 := st_ext (by assumption) hb; have m1 := m0.out.box.cell 0; have m2 := m0.out.box.cell 1; have m3 := m0.out.box.cell 2; simp at m1 m2 m3)
          | (go_at_call 16; refine (Same_any Aa Ab ca cb _ _ (by omega) _ ha1 hn).mono ?_; rintro e wq ⟨rfl, hb⟩; rw [decide_eq_true rfl]; have m0 := st_ext (by assumption) hb; have m1 := m0.out.box.cell 0; have m2 := m0.out.box.cell 1; have m3 := m0.out.box.cell 2; simp at m1 m2 m3)))
      go_wp2_with fail
      go_ret
      exact ⟨rfl, m0.out.ext⟩
theorem op_rows2 {H : Type} {w : World} {A : Option Addr} {n c : Nat} (h : Handed Try.prog H w 23 (.slice A n c)) :
    ∃ l : List OpV, l.length = n ∧ n ≤ c ∧ n ≤ maxLen ∧ Rd w 3 A n (l.flatMap OpV.enc) ∧ ∀ p ∈ l, p.opt < 256 ∧ 0 ≤ p.code ∧ p.code < 256 := by
  obtain ⟨enc, d, ps, h⟩ := h
  refine arg_structs OpV.enc (fun p => p.opt < 256 ∧ 0 ≤ p.code ∧ p.code < 256) Try.underlying23 (e := 31) (k := 3) (by kernel_rfl) (by omega) h (fun r m y hl hy => ?_)
  obtain ⟨v0, v1, v2, rfl⟩ : ∃ v0 v1 v2, r = [v0, v1, v2] := by
    match r, hl with
    | [a, b, c], _ => exact ⟨a, b, c, rfl⟩
  have he := Try.underlying31
  obtain ⟨q0, z0, h0⟩ := row_field he (by kernel_rfl) hy 0 _ rfl v0 rfl
  obtain ⟨q1, z1, h1⟩ := row_field he (by kernel_rfl) hy 1 _ rfl v1 rfl
  obtain ⟨q2, z2, h2⟩ := row_field he (by kernel_rfl) hy 2 _ rfl v2 rfl
  obtain ⟨b, rfl⟩ := field_bool Try.underlying4 h0
  obtain ⟨c, rfl, hc⟩ := field_int Try.underlying5 h1
  obtain ⟨x, rfl, hx⟩ := field_int Try.underlying5 h2
  have hc' := u8_wf hc
  obtain ⟨hx0, hx1⟩ := u8_wf hx
  obtain ⟨x, rfl⟩ := Int.eq_ofNat_of_zero_le hx0
  exact ⟨⟨b, c, x⟩, rfl, by simp only; omega, hc'.1, hc'.2⟩
theorem OptionPlays_walk {H : Type} (w : World) (A1 : Option Addr) (n1 c1 : Nat) (t1 : Handed Try.prog H w 22 (.slice A1 n1 c1)) (A2 : Option Addr) (n2 c2 : Nat) (t2 : Handed Try.prog H w 22 (.slice A2 n2 c2)) (A3 : Option Addr) (n3 c3 : Nat) (t3 : Handed Try.prog H w 23 (.slice A3 n3 c3))
    (a : Int) (wa : (Lit.int .i64 a).wf = true) :
    Calls Try.prog 3 #[.slice A1 n1 c1, .slice A2 n2 c2, .slice A3 n3 c3, .int .i64 a] w (Ret (.bool true) w) := by
  obtain ⟨lo, rfl, _, m1, r1, b1⟩ := byte_row t1
  obtain ⟨lt, rfl, _, m2, r2, b2⟩ := byte_row t2
  obtain ⟨ops, rfl, _, m3, r3, b3⟩ := op_rows2 t3
  have h := i64_wf wa
  exact OptionPlays_any A1 A2 A3 c1 c2 c3 lo lt ops a w b1 b2 b3 h.1 h.2 m1 m2 m3 r1 r2 r3
end Go.Proofs.Ytioaenidkieiiaa
