/- OptionTurns, its walk. -/
import Derived.Test.YtioaenidkieiiaaL6b
namespace Go.Proofs.Ytioaenidkieiiaa
set_option linter.unusedVariables false
set_option linter.unusedSimpArgs false
open Go.RowKit Go.Shelf

/-- all states are 0 but one -/
def TO (s : Bool) (x : Nat) (v : Int) : Opt := { st := fun s' y => if s' = s ∧ y = x then v else 0, may := (Opt.new [] []).may }
theorem TO_0 (s : Bool) (x : Nat) : TO s x 0 = Opt.new [] [] := by
  unfold TO Opt.new Opt.allow Opt.zero
  simp
theorem TO_st (s : Bool) (x : Nat) (v : Int) : (TO s x v).st s x = v := by simp [TO]
theorem TO_set (s : Bool) (x : Nat) (v u : Int) : (TO s x v).set s x u = TO s x u := by
  unfold TO Opt.set
  congr 1
  funext s' y
  by_cases h : s' = s ∧ y = x <;> simp [h]
theorem conv_new (w : World) (l : List Int) : (convert 22 9 (.slice (some ⟨w.heap.size, 0, none⟩) l.length l.length)).run Try.prog (w.alloc (.cells (u8s l).toArray 5)) = .ok (.string (strOfNums l)) (w.alloc (.cells (u8s l).toArray 5)) :=
  conv_str Try.underlying22 Try.underlying5 Try.underlying9 (Rd.blk (Blk.new w 5 _) (by simp [u8s])) _
theorem conv_ext {w w' : World} (h : Ext w w') (l : List Int) {A : Option Addr} (hr : Rd w 1 A l.length (u8s l)) (c : Nat) : (convert 22 9 (.slice A l.length c)).run Try.prog w' = .ok (.string (strOfNums l)) w' :=
  conv_str Try.underlying22 Try.underlying5 Try.underlying9 (Rd_ext h hr) _

set_option maxRecDepth 100000 in
set_option maxHeartbeats 4000000 in
theorem OptionTurns_any (x : Nat) (hx : x < 256) (s : Bool) (w : World) : Calls Try.prog 6 #[.int .u8 x, .bool s] w (Ret (.bool true) w) := by
  cases s
  · skip
    go_enter Try.func6, Try.ntmps6
    go_wp2_with fail
    refine (alive_any w).mono ?_
    rintro e wa ⟨rfl, hx0⟩
    have XA := Lib.hid hx0
    clear hx0
    go_wp2_with fail
    refine (New_obj none none [] [] _ _ (by simp) (by simp) (by simp) (by simp) _ (Rd.nil _ _ _) (Rd.nil _ _ _) (fun _ e => by cases e) (fun _ e => by cases e)).mono ?_
    rintro e w0 ⟨b, rfl, hO, hxx, hle, hlt0⟩
    have O0 := Lib.hid (show OptAt w0 b (TO false x 0) from by rw [TO_0]; exact hO)
    have X0 := Lib.hid (Ext_trans hxx XA.out)
    have hbw : w.heap.size ≤ b := Nat.le_trans XA.out.size hle
    clear hO hxx XA hle
    go_wp2_with fail
    refine (Want_lit (x := x) (c := 253) (o' := (TO false x 3)) (l := [255, 253, x]) (n := 0) hx (by simp [Opt.want, Opt.got, Opt.wantOn, Opt.wantOff, Opt.gotOn, Opt.gotOff, Opt.wish, Opt.put, wishOn, wishOff, onM, offM, sayL, TO_st, TO_set, onV, offV]) O0.out).mono ?_
    rintro e w1 ⟨v, rfl, hO, hg, ⟨A1, c1, rfl, -, hd, hf⟩⟩
    have O1 := Lib.hid hO
    have X1 := Lib.hid (Mut_trans hg X0.out hbw)
    have Da_1 := Lib.hid hd
    have Fa := Lib.hid (hf.off hlt0)
    have hlt1 : b < w1.heap.size := Nat.lt_of_lt_of_le hlt0 hg.size
    clear hO hg hd hf
    go_wp2_with fail
    refine (Got_lit (x := x) (c := 251) (o' := (TO false x 1)) (l := []) hx (by simp [Opt.want, Opt.got, Opt.wantOn, Opt.wantOff, Opt.gotOn, Opt.gotOff, Opt.wish, Opt.put, wishOn, wishOff, onM, offM, sayL, TO_st, TO_set, onV, offV]) (by simp [Opt.want, Opt.got, Opt.wantOn, Opt.wantOff, Opt.gotOn, Opt.gotOff, Opt.wish, Opt.put, wishOn, wishOff, onM, offM, sayL, TO_st, TO_set, onV, offV]) O1.out).mono ?_
    rintro e w2 ⟨v, rfl, hO, hg, ⟨A2, c2, rfl, -, hd, hf⟩⟩
    have O2 := Lib.hid hO
    have X2 := Lib.hid (Mut_trans hg X1.out hbw)
    have Da_2 := Lib.hid (Da_1.out.grown hg (fun g e => by cases e; exact Fa.out))
    have hlt2 : b < w2.heap.size := Nat.lt_of_lt_of_le hlt1 hg.size
    clear hO hg hd hf
    go_wp2_with fail
    refine (On_any b x false (TO false x 1) hx _ O2.out).mono ?_
    rintro e wn ⟨rfl, rfl⟩
    rw [TO_st]
    go_wp2_with fail
    refine (Want_lit (x := x) (c := 254) (o' := (TO false x 2)) (l := [255, 254, x]) (n := 0) hx (by simp [Opt.want, Opt.got, Opt.wantOn, Opt.wantOff, Opt.gotOn, Opt.gotOff, Opt.wish, Opt.put, wishOn, wishOff, onM, offM, sayL, TO_st, TO_set, onV, offV]) O2.out).mono ?_
    rintro e w3 ⟨v, rfl, hO, hg, ⟨A3, c3, rfl, -, hd, hf⟩⟩
    have O3 := Lib.hid hO
    have X3 := Lib.hid (Mut_trans hg X2.out hbw)
    have Da_3 := Lib.hid (Da_2.out.grown hg (fun g e => by cases e; exact Fa.out))
    have Dc_3 := Lib.hid hd
    have Fc := Lib.hid (hf.off hlt2)
    have hlt3 : b < w3.heap.size := Nat.lt_of_lt_of_le hlt2 hg.size
    clear hO hg hd hf
    go_wp2_with fail
    refine (Got_lit (x := x) (c := 252) (o' := (TO false x 0)) (l := []) hx (by simp [Opt.want, Opt.got, Opt.wantOn, Opt.wantOff, Opt.gotOn, Opt.gotOff, Opt.wish, Opt.put, wishOn, wishOff, onM, offM, sayL, TO_st, TO_set, onV, offV]) (by simp [Opt.want, Opt.got, Opt.wantOn, Opt.wantOff, Opt.gotOn, Opt.gotOff, Opt.wish, Opt.put, wishOn, wishOff, onM, offM, sayL, TO_st, TO_set, onV, offV]) O3.out).mono ?_
    rintro e w4 ⟨v, rfl, hO, hg, ⟨A4, c4, rfl, -, hd, hf⟩⟩
    have O4 := Lib.hid hO
    have X4 := Lib.hid (Mut_trans hg X3.out hbw)
    have Da_4 := Lib.hid (Da_3.out.grown hg (fun g e => by cases e; exact Fa.out))
    have Dc_4 := Lib.hid (Dc_3.out.grown hg (fun g e => by cases e; exact Fc.out))
    have hlt4 : b < w4.heap.size := Nat.lt_of_lt_of_le hlt3 hg.size
    clear hO hg hd hf
    have hc1 : (convert 22 9 (.slice A1 3 c1)).run Try.prog w4 = .ok (.string (strOfNums [255, 253, x])) w4 := conv_str (l := [255, 253, x]) Try.underlying22 Try.underlying5 Try.underlying9 Da_4.out c1
    have hc2 := conv_new w4 [255, 253, x]
    have hc3 := conv_ext (Ext_alloc (o := .cells #[.int .u8 255, .int .u8 253, .int .u8 x] 5) (Ext_refl w4)) [255, 254, x] Dc_4.out c3
    have hc4 := conv_new (w4.alloc (.cells #[.int .u8 255, .int .u8 253, .int .u8 x] 5)) [255, 254, x]
    simp only [u8s, List.map_cons, List.map_nil, List.length_cons, List.length_nil, Nat.zero_add, Nat.reduceAdd, World.size_alloc] at hc2 hc3 hc4
    have hst := State_any b x false (TO false x 0) hx ((w4.alloc (.cells #[.int .u8 255, .int .u8 253, .int .u8 x] 5)).alloc (.cells #[.int .u8 255, .int .u8 254, .int .u8 x] 5)) (Blk.alloc (Blk.alloc O4.out _) _)
    have HST := Lib.hid hst
    clear hst
    go_wp2_with (go_at_call 20; refine HST.out.mono ?_; rintro e wn ⟨rfl, rfl⟩; rw [TO_st])
    clear hc1 hc2 hc3 hc4 HST
    have he := (Ext_alloc (o := .cells #[.int .u8 255, .int .u8 254, .int .u8 x] 5) (Ext_alloc (o := .cells #[.int .u8 255, .int .u8 253, .int .u8 x] 5) (Ext_refl w4)))
    obtain ⟨w5, hw⟩ : ∃ W, ((w4.alloc (.cells #[.int .u8 255, .int .u8 253, .int .u8 x] 5)).alloc (.cells #[.int .u8 255, .int .u8 254, .int .u8 x] 5)) = W := ⟨_, rfl⟩
    rw [hw] at he ⊢
    have O5 := Lib.hid (Blk.below' O4.out he)
    have X5 := Lib.hid (Ext_trans he X4.out)
    have Da_5 := Lib.hid (Rd_ext he Da_4.out)
    have Dc_5 := Lib.hid (Rd_ext he Dc_4.out)
    have hlt5 : b < w5.heap.size := Nat.lt_of_lt_of_le hlt4 he.size
    clear he hw
    go_wp2_with fail
    refine (Want_lit (x := x) (c := 253) (o' := (TO false x 3)) (l := [255, 253, x]) (n := 0) hx (by simp [Opt.want, Opt.got, Opt.wantOn, Opt.wantOff, Opt.gotOn, Opt.gotOff, Opt.wish, Opt.put, wishOn, wishOff, onM, offM, sayL, TO_st, TO_set, onV, offV]) O5.out).mono ?_
    rintro e w6 ⟨v, rfl, hO, hg, ⟨A6, c6, rfl, -, hd, hf⟩⟩
    have O6 := Lib.hid hO
    have X6 := Lib.hid (Mut_trans hg X5.out hbw)
    have Da_6 := Lib.hid (Da_5.out.grown hg (fun g e => by cases e; exact Fa.out))
    have Dc_6 := Lib.hid (Dc_5.out.grown hg (fun g e => by cases e; exact Fc.out))
    have hlt6 : b < w6.heap.size := Nat.lt_of_lt_of_le hlt5 hg.size
    clear hO hg hd hf
    go_wp2_with fail
    refine (Want_lit (x := x) (c := 254) (o' := (TO false x 5)) (l := []) (n := 0) hx (by simp [Opt.want, Opt.got, Opt.wantOn, Opt.wantOff, Opt.gotOn, Opt.gotOff, Opt.wish, Opt.put, wishOn, wishOff, onM, offM, sayL, TO_st, TO_set, onV, offV]) O6.out).mono ?_
    rintro e w7 ⟨v, rfl, hO, hg, ⟨A7, c7, rfl, -, hd, hf⟩⟩
    have O7 := Lib.hid hO
    have X7 := Lib.hid (Mut_trans hg X6.out hbw)
    have Da_7 := Lib.hid (Da_6.out.grown hg (fun g e => by cases e; exact Fa.out))
    have Dc_7 := Lib.hid (Dc_6.out.grown hg (fun g e => by cases e; exact Fc.out))
    have hlt7 : b < w7.heap.size := Nat.lt_of_lt_of_le hlt6 hg.size
    clear hO hg hd hf
    go_wp2_with fail
    refine (Got_lit (x := x) (c := 251) (o' := (TO false x 2)) (l := [255, 254, x]) hx (by simp [Opt.want, Opt.got, Opt.wantOn, Opt.wantOff, Opt.gotOn, Opt.gotOff, Opt.wish, Opt.put, wishOn, wishOff, onM, offM, sayL, TO_st, TO_set, onV, offV]) (by simp [Opt.want, Opt.got, Opt.wantOn, Opt.wantOff, Opt.gotOn, Opt.gotOff, Opt.wish, Opt.put, wishOn, wishOff, onM, offM, sayL, TO_st, TO_set, onV, offV]) O7.out).mono ?_
    rintro e w8 ⟨v, rfl, hO, hg, ⟨A8, c8, rfl, -, hd, hf⟩⟩
    have O8 := Lib.hid hO
    have X8 := Lib.hid (Mut_trans hg X7.out hbw)
    have Da_8 := Lib.hid (Da_7.out.grown hg (fun g e => by cases e; exact Fa.out))
    have Dc_8 := Lib.hid (Dc_7.out.grown hg (fun g e => by cases e; exact Fc.out))
    have Di_8 := Lib.hid hd
    have Fi := Lib.hid (hf.off hlt7)
    have hlt8 : b < w8.heap.size := Nat.lt_of_lt_of_le hlt7 hg.size
    clear hO hg hd hf
    go_wp2_with fail
    refine (Got_lit (x := x) (c := 252) (o' := (TO false x 0)) (l := []) hx (by simp [Opt.want, Opt.got, Opt.wantOn, Opt.wantOff, Opt.gotOn, Opt.gotOff, Opt.wish, Opt.put, wishOn, wishOff, onM, offM, sayL, TO_st, TO_set, onV, offV]) (by simp [Opt.want, Opt.got, Opt.wantOn, Opt.wantOff, Opt.gotOn, Opt.gotOff, Opt.wish, Opt.put, wishOn, wishOff, onM, offM, sayL, TO_st, TO_set, onV, offV]) O8.out).mono ?_
    rintro e w9 ⟨v, rfl, hO, hg, ⟨A9, c9, rfl, -, hd, hf⟩⟩
    have O9 := Lib.hid hO
    have X9 := Lib.hid (Mut_trans hg X8.out hbw)
    have Da_9 := Lib.hid (Da_8.out.grown hg (fun g e => by cases e; exact Fa.out))
    have Dc_9 := Lib.hid (Dc_8.out.grown hg (fun g e => by cases e; exact Fc.out))
    have Di_9 := Lib.hid (Di_8.out.grown hg (fun g e => by cases e; exact Fi.out))
    have hlt9 : b < w9.heap.size := Nat.lt_of_lt_of_le hlt8 hg.size
    clear hO hg hd hf
    have hc1 : (convert 22 9 (.slice A8 3 c8)).run Try.prog w9 = .ok (.string (strOfNums [255, 254, x])) w9 := conv_str (l := [255, 254, x]) Try.underlying22 Try.underlying5 Try.underlying9 Di_9.out c8
    have hc2 := conv_new w9 [255, 254, x]
    simp only [u8s, List.map_cons, List.map_nil, List.length_cons, List.length_nil, Nat.zero_add, Nat.reduceAdd, World.size_alloc] at hc2
    have hst := State_any b x false (TO false x 0) hx (w9.alloc (.cells #[.int .u8 255, .int .u8 254, .int .u8 x] 5)) (Blk.alloc O9.out _)
    have hbu := Busy_b b (TO false x 0) false (by rw [TO_0]; kernel_rfl) (w9.alloc (.cells #[.int .u8 255, .int .u8 254, .int .u8 x] 5)) (Blk.alloc O9.out _)
    have HST := Lib.hid hst
    have HBU := Lib.hid hbu
    clear hst hbu
    go_wp2_with (first | (go_at_call 20; refine HST.out.mono ?_; rintro e wn ⟨rfl, rfl⟩; rw [TO_st]) | (go_at_call 17; refine HBU.out.mono ?_; rintro e wn ⟨rfl, rfl⟩))
    go_ret
    exact ⟨rfl, Ext_alloc X9.out⟩
  · skip
    go_enter Try.func6, Try.ntmps6
    go_wp2_with fail
    refine (alive_any w).mono ?_
    rintro e wa ⟨rfl, hx0⟩
    have XA := Lib.hid hx0
    clear hx0
    go_wp2_with fail
    refine (New_obj none none [] [] _ _ (by simp) (by simp) (by simp) (by simp) _ (Rd.nil _ _ _) (Rd.nil _ _ _) (fun _ e => by cases e) (fun _ e => by cases e)).mono ?_
    rintro e w0 ⟨b, rfl, hO, hxx, hle, hlt0⟩
    have O0 := Lib.hid (show OptAt w0 b (TO true x 0) from by rw [TO_0]; exact hO)
    have X0 := Lib.hid (Ext_trans hxx XA.out)
    have hbw : w.heap.size ≤ b := Nat.le_trans XA.out.size hle
    clear hO hxx XA hle
    go_wp2_with fail
    refine (Want_lit (x := x) (c := 251) (o' := (TO true x 3)) (l := [255, 251, x]) (n := 0) hx (by simp [Opt.want, Opt.got, Opt.wantOn, Opt.wantOff, Opt.gotOn, Opt.gotOff, Opt.wish, Opt.put, wishOn, wishOff, onM, offM, sayL, TO_st, TO_set, onV, offV]) O0.out).mono ?_
    rintro e w1 ⟨v, rfl, hO, hg, ⟨A1, c1, rfl, -, hd, hf⟩⟩
    have O1 := Lib.hid hO
    have X1 := Lib.hid (Mut_trans hg X0.out hbw)
    have Da_1 := Lib.hid hd
    have Fa := Lib.hid (hf.off hlt0)
    have hlt1 : b < w1.heap.size := Nat.lt_of_lt_of_le hlt0 hg.size
    clear hO hg hd hf
    go_wp2_with fail
    refine (Got_lit (x := x) (c := 253) (o' := (TO true x 1)) (l := []) hx (by simp [Opt.want, Opt.got, Opt.wantOn, Opt.wantOff, Opt.gotOn, Opt.gotOff, Opt.wish, Opt.put, wishOn, wishOff, onM, offM, sayL, TO_st, TO_set, onV, offV]) (by simp [Opt.want, Opt.got, Opt.wantOn, Opt.wantOff, Opt.gotOn, Opt.gotOff, Opt.wish, Opt.put, wishOn, wishOff, onM, offM, sayL, TO_st, TO_set, onV, offV]) O1.out).mono ?_
    rintro e w2 ⟨v, rfl, hO, hg, ⟨A2, c2, rfl, -, hd, hf⟩⟩
    have O2 := Lib.hid hO
    have X2 := Lib.hid (Mut_trans hg X1.out hbw)
    have Da_2 := Lib.hid (Da_1.out.grown hg (fun g e => by cases e; exact Fa.out))
    have hlt2 : b < w2.heap.size := Nat.lt_of_lt_of_le hlt1 hg.size
    clear hO hg hd hf
    go_wp2_with fail
    refine (On_any b x true (TO true x 1) hx _ O2.out).mono ?_
    rintro e wn ⟨rfl, rfl⟩
    rw [TO_st]
    go_wp2_with fail
    refine (Want_lit (x := x) (c := 252) (o' := (TO true x 2)) (l := [255, 252, x]) (n := 0) hx (by simp [Opt.want, Opt.got, Opt.wantOn, Opt.wantOff, Opt.gotOn, Opt.gotOff, Opt.wish, Opt.put, wishOn, wishOff, onM, offM, sayL, TO_st, TO_set, onV, offV]) O2.out).mono ?_
    rintro e w3 ⟨v, rfl, hO, hg, ⟨A3, c3, rfl, -, hd, hf⟩⟩
    have O3 := Lib.hid hO
    have X3 := Lib.hid (Mut_trans hg X2.out hbw)
    have Da_3 := Lib.hid (Da_2.out.grown hg (fun g e => by cases e; exact Fa.out))
    have Dc_3 := Lib.hid hd
    have Fc := Lib.hid (hf.off hlt2)
    have hlt3 : b < w3.heap.size := Nat.lt_of_lt_of_le hlt2 hg.size
    clear hO hg hd hf
    go_wp2_with fail
    refine (Got_lit (x := x) (c := 254) (o' := (TO true x 0)) (l := []) hx (by simp [Opt.want, Opt.got, Opt.wantOn, Opt.wantOff, Opt.gotOn, Opt.gotOff, Opt.wish, Opt.put, wishOn, wishOff, onM, offM, sayL, TO_st, TO_set, onV, offV]) (by simp [Opt.want, Opt.got, Opt.wantOn, Opt.wantOff, Opt.gotOn, Opt.gotOff, Opt.wish, Opt.put, wishOn, wishOff, onM, offM, sayL, TO_st, TO_set, onV, offV]) O3.out).mono ?_
    rintro e w4 ⟨v, rfl, hO, hg, ⟨A4, c4, rfl, -, hd, hf⟩⟩
    have O4 := Lib.hid hO
    have X4 := Lib.hid (Mut_trans hg X3.out hbw)
    have Da_4 := Lib.hid (Da_3.out.grown hg (fun g e => by cases e; exact Fa.out))
    have Dc_4 := Lib.hid (Dc_3.out.grown hg (fun g e => by cases e; exact Fc.out))
    have hlt4 : b < w4.heap.size := Nat.lt_of_lt_of_le hlt3 hg.size
    clear hO hg hd hf
    have hc1 : (convert 22 9 (.slice A1 3 c1)).run Try.prog w4 = .ok (.string (strOfNums [255, 251, x])) w4 := conv_str (l := [255, 251, x]) Try.underlying22 Try.underlying5 Try.underlying9 Da_4.out c1
    have hc2 := conv_new w4 [255, 251, x]
    have hc3 := conv_ext (Ext_alloc (o := .cells #[.int .u8 255, .int .u8 251, .int .u8 x] 5) (Ext_refl w4)) [255, 252, x] Dc_4.out c3
    have hc4 := conv_new (w4.alloc (.cells #[.int .u8 255, .int .u8 251, .int .u8 x] 5)) [255, 252, x]
    simp only [u8s, List.map_cons, List.map_nil, List.length_cons, List.length_nil, Nat.zero_add, Nat.reduceAdd, World.size_alloc] at hc2 hc3 hc4
    have hst := State_any b x true (TO true x 0) hx ((w4.alloc (.cells #[.int .u8 255, .int .u8 251, .int .u8 x] 5)).alloc (.cells #[.int .u8 255, .int .u8 252, .int .u8 x] 5)) (Blk.alloc (Blk.alloc O4.out _) _)
    have HST := Lib.hid hst
    clear hst
    go_wp2_with (go_at_call 20; refine HST.out.mono ?_; rintro e wn ⟨rfl, rfl⟩; rw [TO_st])
    clear hc1 hc2 hc3 hc4 HST
    have he := (Ext_alloc (o := .cells #[.int .u8 255, .int .u8 252, .int .u8 x] 5) (Ext_alloc (o := .cells #[.int .u8 255, .int .u8 251, .int .u8 x] 5) (Ext_refl w4)))
    obtain ⟨w5, hw⟩ : ∃ W, ((w4.alloc (.cells #[.int .u8 255, .int .u8 251, .int .u8 x] 5)).alloc (.cells #[.int .u8 255, .int .u8 252, .int .u8 x] 5)) = W := ⟨_, rfl⟩
    rw [hw] at he ⊢
    have O5 := Lib.hid (Blk.below' O4.out he)
    have X5 := Lib.hid (Ext_trans he X4.out)
    have Da_5 := Lib.hid (Rd_ext he Da_4.out)
    have Dc_5 := Lib.hid (Rd_ext he Dc_4.out)
    have hlt5 : b < w5.heap.size := Nat.lt_of_lt_of_le hlt4 he.size
    clear he hw
    go_wp2_with fail
    refine (Want_lit (x := x) (c := 251) (o' := (TO true x 3)) (l := [255, 251, x]) (n := 0) hx (by simp [Opt.want, Opt.got, Opt.wantOn, Opt.wantOff, Opt.gotOn, Opt.gotOff, Opt.wish, Opt.put, wishOn, wishOff, onM, offM, sayL, TO_st, TO_set, onV, offV]) O5.out).mono ?_
    rintro e w6 ⟨v, rfl, hO, hg, ⟨A6, c6, rfl, -, hd, hf⟩⟩
    have O6 := Lib.hid hO
    have X6 := Lib.hid (Mut_trans hg X5.out hbw)
    have Da_6 := Lib.hid (Da_5.out.grown hg (fun g e => by cases e; exact Fa.out))
    have Dc_6 := Lib.hid (Dc_5.out.grown hg (fun g e => by cases e; exact Fc.out))
    have hlt6 : b < w6.heap.size := Nat.lt_of_lt_of_le hlt5 hg.size
    clear hO hg hd hf
    go_wp2_with fail
    refine (Want_lit (x := x) (c := 252) (o' := (TO true x 5)) (l := []) (n := 0) hx (by simp [Opt.want, Opt.got, Opt.wantOn, Opt.wantOff, Opt.gotOn, Opt.gotOff, Opt.wish, Opt.put, wishOn, wishOff, onM, offM, sayL, TO_st, TO_set, onV, offV]) O6.out).mono ?_
    rintro e w7 ⟨v, rfl, hO, hg, ⟨A7, c7, rfl, -, hd, hf⟩⟩
    have O7 := Lib.hid hO
    have X7 := Lib.hid (Mut_trans hg X6.out hbw)
    have Da_7 := Lib.hid (Da_6.out.grown hg (fun g e => by cases e; exact Fa.out))
    have Dc_7 := Lib.hid (Dc_6.out.grown hg (fun g e => by cases e; exact Fc.out))
    have hlt7 : b < w7.heap.size := Nat.lt_of_lt_of_le hlt6 hg.size
    clear hO hg hd hf
    go_wp2_with fail
    refine (Got_lit (x := x) (c := 253) (o' := (TO true x 2)) (l := [255, 252, x]) hx (by simp [Opt.want, Opt.got, Opt.wantOn, Opt.wantOff, Opt.gotOn, Opt.gotOff, Opt.wish, Opt.put, wishOn, wishOff, onM, offM, sayL, TO_st, TO_set, onV, offV]) (by simp [Opt.want, Opt.got, Opt.wantOn, Opt.wantOff, Opt.gotOn, Opt.gotOff, Opt.wish, Opt.put, wishOn, wishOff, onM, offM, sayL, TO_st, TO_set, onV, offV]) O7.out).mono ?_
    rintro e w8 ⟨v, rfl, hO, hg, ⟨A8, c8, rfl, -, hd, hf⟩⟩
    have O8 := Lib.hid hO
    have X8 := Lib.hid (Mut_trans hg X7.out hbw)
    have Da_8 := Lib.hid (Da_7.out.grown hg (fun g e => by cases e; exact Fa.out))
    have Dc_8 := Lib.hid (Dc_7.out.grown hg (fun g e => by cases e; exact Fc.out))
    have Di_8 := Lib.hid hd
    have Fi := Lib.hid (hf.off hlt7)
    have hlt8 : b < w8.heap.size := Nat.lt_of_lt_of_le hlt7 hg.size
    clear hO hg hd hf
    go_wp2_with fail
    refine (Got_lit (x := x) (c := 254) (o' := (TO true x 0)) (l := []) hx (by simp [Opt.want, Opt.got, Opt.wantOn, Opt.wantOff, Opt.gotOn, Opt.gotOff, Opt.wish, Opt.put, wishOn, wishOff, onM, offM, sayL, TO_st, TO_set, onV, offV]) (by simp [Opt.want, Opt.got, Opt.wantOn, Opt.wantOff, Opt.gotOn, Opt.gotOff, Opt.wish, Opt.put, wishOn, wishOff, onM, offM, sayL, TO_st, TO_set, onV, offV]) O8.out).mono ?_
    rintro e w9 ⟨v, rfl, hO, hg, ⟨A9, c9, rfl, -, hd, hf⟩⟩
    have O9 := Lib.hid hO
    have X9 := Lib.hid (Mut_trans hg X8.out hbw)
    have Da_9 := Lib.hid (Da_8.out.grown hg (fun g e => by cases e; exact Fa.out))
    have Dc_9 := Lib.hid (Dc_8.out.grown hg (fun g e => by cases e; exact Fc.out))
    have Di_9 := Lib.hid (Di_8.out.grown hg (fun g e => by cases e; exact Fi.out))
    have hlt9 : b < w9.heap.size := Nat.lt_of_lt_of_le hlt8 hg.size
    clear hO hg hd hf
    have hc1 : (convert 22 9 (.slice A8 3 c8)).run Try.prog w9 = .ok (.string (strOfNums [255, 252, x])) w9 := conv_str (l := [255, 252, x]) Try.underlying22 Try.underlying5 Try.underlying9 Di_9.out c8
    have hc2 := conv_new w9 [255, 252, x]
    simp only [u8s, List.map_cons, List.map_nil, List.length_cons, List.length_nil, Nat.zero_add, Nat.reduceAdd, World.size_alloc] at hc2
    have hst := State_any b x true (TO true x 0) hx (w9.alloc (.cells #[.int .u8 255, .int .u8 252, .int .u8 x] 5)) (Blk.alloc O9.out _)
    have hbu := Busy_b b (TO true x 0) false (by rw [TO_0]; kernel_rfl) (w9.alloc (.cells #[.int .u8 255, .int .u8 252, .int .u8 x] 5)) (Blk.alloc O9.out _)
    have HST := Lib.hid hst
    have HBU := Lib.hid hbu
    clear hst hbu
    go_wp2_with (first | (go_at_call 20; refine HST.out.mono ?_; rintro e wn ⟨rfl, rfl⟩; rw [TO_st]) | (go_at_call 17; refine HBU.out.mono ?_; rintro e wn ⟨rfl, rfl⟩))
    go_ret
    exact ⟨rfl, Ext_alloc X9.out⟩

theorem OptionTurns_walk (a0 : Int) (h0 : (Lit.int .u8 a0).wf = true) (a1 : Bool) (w : World) : Calls Try.prog 6 #[.int .u8 a0, .bool a1] w (Ret (.bool true) w) := by
  have hb := u8_wf h0
  obtain ⟨n, rfl⟩ := Int.eq_ofNat_of_zero_le hb.1
  exact OptionTurns_any n (by omega) a1 w
end Go.Proofs.Ytioaenidkieiiaa
