/- OptionMay, its walk. -/
import Derived.Test.YtioaenidkieiiaaL6b
import Derived.Test.YtioaenidkieiiaaR06
import Derived.Test.YtioaenidkieiiaaA
import Derived.LoopN
namespace Go.Proofs.Ytioaenidkieiiaa
set_option linter.unusedVariables false
set_option linter.unusedSimpArgs false
open Go.RowKit Go.Shelf

structure OpV where
  wish : Bool
  code : Int
  opt : Nat
def OpV.enc (p : OpV) : List Value := [.bool p.wish, .int .u8 p.code, .int .u8 (p.opt : Int)]

/-- nothing is on its way, and what is on may be on -/
def MayInv (lo lt : List Int) (o : Opt) : Prop := (∀ s y, o.st s y = 0 ∨ (o.st s y = 1 ∧ o.may s y = true)) ∧ ∀ s y, o.may s y = mayL lo lt s (y : Int)

theorem MayInv.new (lo lt : List Int) : MayInv lo lt (Opt.new lo lt) := by
  constructor
  · intro s y; exact .inl rfl
  · intro s y
    unfold Opt.new Opt.allow Opt.zero mayL hasL
    cases s <;> simp
theorem MayInv.put {lo lt : List Int} {o : Opt} (h : MayInv lo lt o) (s : Bool) (x : Nat) (v : Int) (hv : v = 0 ∨ (v = 1 ∧ o.may s x = true)) : MayInv lo lt (o.set s x v) := by
  refine ⟨fun s' y => ?_, h.2⟩
  by_cases e : s' = s ∧ y = x
  · obtain ⟨rfl, rfl⟩ := e
    simp only [Opt.set, and_self, if_true]
    exact hv
  · simp only [Opt.set, if_neg e]
    exact h.1 s' y
/-- what the other side's verbs come to, and what is said -/
theorem MayInv.got {lo lt : List Int} {o : Opt} (h : MayInv lo lt o) (c : Int) (x : Nat) : MayInv lo lt (o.got c x).1 ∧ ((o.got c x).2 = [] ∨ ∃ v : Int, (o.got c x).2 = [255, v, (x : Int)] ∧ 251 ≤ v ∧ v ≤ 254) := by
  have on : ∀ s, MayInv lo lt (o.gotOn s x).1 ∧ ((o.gotOn s x).2 = [] ∨ ∃ v : Int, (o.gotOn s x).2 = [255, v, (x : Int)] ∧ 251 ≤ v ∧ v ≤ 254) := by
    intro s
    unfold Opt.gotOn Opt.put
    rcases h.1 s x with h0 | ⟨h1, h2⟩
    · rw [h0]
      cases hm : o.may s x
      · exact ⟨h.put s x 0 (.inl rfl), .inr ⟨offV s, rfl, by cases s <;> simp [offV], by cases s <;> simp [offV]⟩⟩
      · exact ⟨h.put s x 1 (.inr ⟨rfl, hm⟩), .inr ⟨onV s, rfl, by cases s <;> simp [onV], by cases s <;> simp [onV]⟩⟩
    · rw [h1]
      exact ⟨h.put s x 1 (.inr ⟨rfl, h2⟩), .inl rfl⟩
  have off : ∀ s, MayInv lo lt (o.gotOff s x).1 ∧ ((o.gotOff s x).2 = [] ∨ ∃ v : Int, (o.gotOff s x).2 = [255, v, (x : Int)] ∧ 251 ≤ v ∧ v ≤ 254) := by
    intro s
    unfold Opt.gotOff Opt.put
    rcases h.1 s x with h0 | ⟨h1, h2⟩
    · rw [h0]
      exact ⟨h.put s x 0 (.inl rfl), .inl rfl⟩
    · rw [h1]
      exact ⟨h.put s x 0 (.inl rfl), .inr ⟨offV s, rfl, by cases s <;> simp [offV], by cases s <;> simp [offV]⟩⟩
  unfold Opt.got
  split
  · exact on false
  split
  · exact off false
  split
  · exact on true
  split
  · exact off true
  exact ⟨h, .inl rfl⟩
theorem MayInv.busy {lo lt : List Int} {o : Opt} (h : MayInv lo lt o) : busyL o = false := by
  rw [Bool.eq_false_iff]
  intro hb
  obtain ⟨s, i, _, hi⟩ := (busy_iff o).2 hb
  rcases h.1 s i with h0 | ⟨h1, _⟩ <;> omega
theorem MayInv.on {lo lt : List Int} {o : Opt} (h : MayInv lo lt o) {s : Bool} {y : Nat} (h1 : (o.st s y == 1) = true) : mayL lo lt s (y : Int) = true := by
  rw [beq_iff_eq] at h1
  rcases h.1 s y with h0 | ⟨_, h2⟩
  · omega
  · rw [← h.2]; exact h2

set_option maxRecDepth 100000 in
set_option maxHeartbeats 4000000 in
theorem OptionMay_any (A1 A2 A3 : Option Addr) (c1' c2' c3' : Nat) (lo lt : List Int) (ops : List OpV) (w : World) (ho : ∀ x ∈ lo, 0 ≤ x ∧ x < 256) (ht : ∀ x ∈ lt, 0 ≤ x ∧ x < 256) (hp : ∀ p ∈ ops, p.opt < 256)
    (n1 : lo.length ≤ maxLen) (n2 : lt.length ≤ maxLen) (n3 : ops.length ≤ maxLen)
    (h1 : Rd w 1 A1 lo.length (u8s lo)) (h2 : Rd w 1 A2 lt.length (u8s lt)) (h3 : Rd w 3 A3 ops.length (ops.flatMap OpV.enc)) :
    Calls Try.prog 5 #[.slice A1 lo.length c1', .slice A2 lt.length c2', .slice A3 ops.length c3'] w (Ret (.bool true) w) := by
  unfold maxLen at n1 n2 n3
  have R1 := Lib.hid (fun w' (h : Ext w w') => Rd_ext h h1)
  have R2 := Lib.hid (fun w' (h : Ext w w') => Rd_ext h h2)
  have R3 := Lib.hid (fun w' (h : Ext w w') => Rd_ext h h3)
  have HO := Lib.hid ho
  have HT := Lib.hid ht
  have HP := Lib.hid hp
  clear h1 h2 h3 ho ht hp
  have arm := alive_any w
  have AL := Lib.hid arm
  clear arm
  by_cases l3 : 60 < ops.length
  · go_enter Try.func5, Try.ntmps5
    go_wp2_with (go_at_call 10; refine AL.out.mono ?_; rintro e wa ⟨rfl, hx⟩; have HX := Lib.hid hx; clear hx)
    go_ret
    exact ⟨rfl, HX.out⟩
  by_cases l1 : 30 < lo.length
  · have l3' : ops.length ≤ 60 := by omega
    clear l3
    go_enter Try.func5, Try.ntmps5
    go_wp2_with (go_at_call 10; refine AL.out.mono ?_; rintro e wa ⟨rfl, hx⟩; have HX := Lib.hid hx; clear hx)
    go_ret
    exact ⟨rfl, HX.out⟩
  by_cases l2 : 30 < lt.length
  · have l3' : ops.length ≤ 60 := by omega
    have l1' : lo.length ≤ 30 := by omega
    clear l3 l1
    go_enter Try.func5, Try.ntmps5
    go_wp2_with (go_at_call 10; refine AL.out.mono ?_; rintro e wa ⟨rfl, hx⟩; have HX := Lib.hid hx; clear hx)
    go_ret
    exact ⟨rfl, HX.out⟩
  have l3' : ops.length ≤ 60 := by omega
  have l1' : lo.length ≤ 30 := by omega
  have l2' : lt.length ≤ 30 := by omega
  clear l3 l1 l2
  go_enter Try.func5, Try.ntmps5
  go_wp2_with (go_at_call 10; refine AL.out.mono ?_; rintro e wa ⟨rfl, hx⟩; have HX := Lib.hid hx; clear hx)
  refine (New_obj A1 A2 lo lt _ _ HO.out HT.out (by omega) (by omega) _ (R1.out _ HX.out) (R2.out _ HX.out)).mono ?_
  rintro e w0 ⟨b, rfl, hO, hxx, hle, hlt0⟩
  have O0 := Lib.hid hO
  have X0 := Lib.hid (Ext_trans hxx HX.out)
  have hbw : w.heap.size ≤ b := Nat.le_trans HX.out.size hle
  clear hO hxx hle
  have BX := Lib.hid (Blk.new w0 29 #[.slice none 0 0, .slice A1 lo.length c1', .slice A2 lt.length c2'])
  go_wp2_with fail
  go_loopw [37] (fun v wr => ∃ (k : Nat) (o : Opt), k ≤ ops.length ∧ v = .int .i64 k ∧ MayInv lo lt o ∧ Hid (OptAt wr b o) ∧ Hid (Ext w wr) ∧ Hid (Blk wr w0.heap.size 29 #[.slice none 0 0, .slice A1 lo.length c1', .slice A2 lt.length c2']) ∧ Hid (b < wr.heap.size)) (fun v _ => ops.length - (intOf v).toNat)
  case atStart => exact ⟨0, _, Nat.zero_le _, rfl, MayInv.new lo lt, (Blk.below' O0.out (Ext_alloc (Ext_refl _))), Ext_alloc X0.out, BX.out, (by simp; exact Nat.lt_succ_of_lt hlt0)⟩
  case round =>
    obtain ⟨k, o, hk, rfl, HI, H1, H2, H3, H4⟩ := hrel
    by_cases hlt : k < ops.length
    · obtain ⟨g, q, rfl, hc⟩ := (R3.out _ H2.out).elem OpV.enc (fun _ => rfl) hlt (List.getElem?_eq_getElem hlt)
      have hx := HP.out ops[k] (List.getElem_mem hlt)
      generalize ops[k] = p at hc hx
      obtain ⟨wi, co, x⟩ := p
      have c0 := hc 0 _ rfl
      have c1 := hc 1 _ rfl
      have c2 := hc 2 _ rfl
      simp only [Nat.add_zero] at c0
      clear hc
      go_wp2_with fail
      have hsz := H3.out.lt
      have hbw1 : b ≠ wr.heap.size := by have := H4.out; omega
      obtain ⟨HI', hl⟩ := HI.got co x
      have BP := Lib.hid (Blk.new wr 31 #[.bool wi, .int .u8 co, .int .u8 (x : Int)])
      have step : ∀ (o' : Opt) (v : Value) (ls : List Int) (W : World), True := fun _ _ _ _ => trivial
      generalize ho' : (o.got co x).1 = o' at HI' hl
      rcases hl with hl | ⟨v, hl, hv1, hv2⟩
      case' inl =>
        refine (Got_lit hx ho' hl (Blk.below' H1.out (Ext_alloc (Ext_refl _)))).mono ?_
        rintro e w1 ⟨v, rfl, hO, hg, ⟨A, c, rfl, -, hd, hf⟩⟩
        have O1 := Lib.hid hO
        have X1 := Lib.hid (Mut_trans hg (Ext_alloc H2.out) hbw)
        have B1 := Lib.hid (Blk.grown (H3.out.alloc _) hg (by simp; omega))
        have P1 := Lib.hid (Blk.grown BP.out hg (by simp; omega))
        have hb1 : b < w1.heap.size := Nat.lt_of_lt_of_le (Nat.lt_succ_of_lt H4.out) (by have := hg.size; simpa using this)
        clear hO hg hd hf
        have hq := P1.out.cell 2
        go_upto_region 10 with (fail)
        go_quiet (fail)
      case' inr =>
        refine (Got_lit hx ho' hl (Blk.below' H1.out (Ext_alloc (Ext_refl _)))).mono ?_
        rintro e w1 ⟨vv, rfl, hO, hg, ⟨A, c, rfl, -, hd, hf⟩⟩
        have O1 := Lib.hid hO
        have X1 := Lib.hid (Mut_trans hg (Ext_alloc H2.out) hbw)
        have B1 := Lib.hid (Blk.grown (H3.out.alloc _) hg (by simp; omega))
        have P1 := Lib.hid (Blk.grown BP.out hg (by simp; omega))
        have hb1 : b < w1.heap.size := Nat.lt_of_lt_of_le (Nat.lt_succ_of_lt H4.out) (by have := hg.size; simpa using this)
        have hq := P1.out.cell 2
        obtain ⟨g', q', rfl, hc'⟩ := hd.2 (by simp)
        have d0 := hc' 0 _ rfl
        have d1 := hc' 1 _ rfl
        have d2 := hc' 2 _ rfl
        simp only [Nat.add_zero] at d0
        clear hO hg hd hf hc'
        go_upto_region 10 with (fail)
        go_quiet (fail)
      all_goals (
        have O2 := Lib.hid (show OptAt (w1.drewN nq) b o' from O1.out)
        have X2 := Lib.hid (show Ext w (w1.drewN nq) from Ext_drewN X1.out)
        have B2 := Lib.hid (show Blk (w1.drewN nq) w0.heap.size 29 #[.slice none 0 0, .slice A1 lo.length c1', .slice A2 lt.length c2'] from B1.out)
        have P2 := Lib.hid (show Blk (w1.drewN nq) wr.heap.size 31 #[.bool wi, .int .u8 co, .int .u8 (x : Int)] from P1.out)
        have hb2 : b < (w1.drewN nq).heap.size := hb1
        clear hq O1 X1 B1 P1 hb1
        generalize w1.drewN nq = W at *
        generalize wr.heap.size = pb at *
        have S2 := Lib.hid (Blk.new W 4 #[.bool true, .bool false])
        go_wp2_with fail
        go_loopw [83] (fun v wr' => ∃ k2 : Nat, k2 ≤ 2 ∧ v = .int .i64 k2 ∧ Hid (OptAt wr' b o') ∧ Hid (Ext w wr') ∧ Hid (Blk wr' w0.heap.size 29 #[.slice none 0 0, .slice A1 lo.length c1', .slice A2 lt.length c2']) ∧ Hid (Blk wr' pb 31 #[.bool wi, .int .u8 co, .int .u8 (x : Int)]) ∧ Hid (Blk wr' W.heap.size 4 #[.bool true, .bool false]) ∧ Hid (b < wr'.heap.size)) (fun v _ => 2 - (intOf v).toNat)
        case atStart => exact ⟨0, by omega, rfl, Blk.below' O2.out (Ext_alloc (Ext_refl _)), Ext_alloc X2.out, B2.out.alloc _, P2.out.alloc _, S2.out, (show b < _ by simp; omega)⟩
        case round =>
          obtain ⟨k2, hk2, rfl, G1, G2, G3, G4, G5, G6⟩ := hrel
          by_cases hlt2 : k2 < 2
          · have e0 := G3.out.cell 0
            have e1 := G3.out.cell 1
            have e2 := G3.out.cell 2
            have f2 := G4.out.cell 2
            obtain ⟨s, hs⟩ : ∃ s : Bool, wr.cell? ⟨W.heap.size, k2, none⟩ = some (.bool s) := by
              rw [G5.out.cell k2]
              have : k2 = 0 ∨ k2 = 1 := by omega
              rcases this with rfl | rfl <;> exact ⟨_, rfl⟩
            cases hon : (o'.st s x == 1)
            · go_wp2_with (go_at_call 21; refine (On_any b x s o' hx _ G1.out).mono ?_; rw [hon]; rintro e wn ⟨rfl, rfl⟩)
              exact ⟨⟨k2 + 1, by omega, by go_num, G1, G2, G3, G4, G5, G6⟩, by simp [intOf]; omega⟩
            · have hmay := HI'.on hon
              go_wp2_with (first
                | (go_at_call 21; refine (On_any b x s o' hx _ G1.out).mono ?_; rw [hon]; rintro e wn ⟨rfl, rfl⟩)
                | (go_at_call 26; refine (ref_May none A1 A2 0 0 c1' c2' lo lt s x (by omega) (by omega) _ (R1.out _ G2.out) (R2.out _ G2.out)).mono ?_; rw [hmay]; rintro e wn ⟨rfl, hB⟩; have HB := Lib.hid hB; clear hB))
              have hE : Ext _ wn := HB.out
              exact ⟨⟨k2 + 1, by omega, by go_num, Blk.below' G1.out hE, Ext_trans hE G2.out, Blk.below' G3.out hE, Blk.below' G4.out hE, Blk.below' G5.out hE, Nat.lt_of_lt_of_le G6.out hE.size⟩, by simp [intOf]; omega⟩
          · have : k2 = 2 := by omega
            subst this
            go_wp2_with fail
            exact ⟨⟨k + 1, o', by omega, by go_num, HI', G1, G2, G3, G6⟩, by simp [intOf]; omega⟩)
    · have : k = ops.length := by omega
      subst this
      go_wp2_with (go_at_call 17; refine (Busy_b b o false HI.busy _ H1.out).mono ?_; rintro e wb ⟨rfl, rfl⟩)
      go_ret
      exact ⟨rfl, H2.out⟩

theorem op_rows {H : Type} {w : World} {A : Option Addr} {n c : Nat} (h : Handed Try.prog H w 23 (.slice A n c)) :
    ∃ l : List OpV, l.length = n ∧ n ≤ c ∧ n ≤ maxLen ∧ Rd w 3 A n (l.flatMap OpV.enc) ∧ ∀ p ∈ l, p.opt < 256 := by
  obtain ⟨enc, d, ps, h⟩ := h
  refine arg_structs OpV.enc (fun p => p.opt < 256) Try.underlying23 (e := 31) (k := 3) (by kernel_rfl) (by omega) h (fun r m y hl hy => ?_)
  obtain ⟨v0, v1, v2, rfl⟩ : ∃ v0 v1 v2, r = [v0, v1, v2] := by
    match r, hl with
    | [a, b, c], _ => exact ⟨a, b, c, rfl⟩
  have he := Try.underlying31
  obtain ⟨q0, z0, h0⟩ := row_field he (by kernel_rfl) hy 0 _ rfl v0 rfl
  obtain ⟨q1, z1, h1⟩ := row_field he (by kernel_rfl) hy 1 _ rfl v1 rfl
  obtain ⟨q2, z2, h2⟩ := row_field he (by kernel_rfl) hy 2 _ rfl v2 rfl
  obtain ⟨b, rfl⟩ := field_bool Try.underlying4 h0
  obtain ⟨c, rfl, _⟩ := field_int Try.underlying5 h1
  obtain ⟨x, rfl, hx⟩ := field_int Try.underlying5 h2
  obtain ⟨hx0, hx1⟩ := u8_wf hx
  obtain ⟨x, rfl⟩ := Int.eq_ofNat_of_zero_le hx0
  exact ⟨⟨b, c, x⟩, rfl, by simp only; omega⟩
theorem byte_row {H : Type} {w : World} {A : Option Addr} {n c : Nat} (h : Handed Try.prog H w 22 (.slice A n c)) :
    ∃ l : List Int, l.length = n ∧ n ≤ c ∧ n ≤ maxLen ∧ Rd w 1 A n (u8s l) ∧ ∀ x ∈ l, 0 ≤ x ∧ x < 256 := by
  obtain ⟨enc, d, ps, h⟩ := h
  exact arg_bytes Try.underlying22 Try.underlying5 (by kernel_rfl) h

theorem OptionMay_walk {H : Type} (w : World) (A1 : Option Addr) (n1 c1 : Nat) (t1 : Handed Try.prog H w 22 (.slice A1 n1 c1)) (A2 : Option Addr) (n2 c2 : Nat) (t2 : Handed Try.prog H w 22 (.slice A2 n2 c2)) (A3 : Option Addr) (n3 c3 : Nat) (t3 : Handed Try.prog H w 23 (.slice A3 n3 c3)) :
    Calls Try.prog 5 #[.slice A1 n1 c1, .slice A2 n2 c2, .slice A3 n3 c3] w (Ret (.bool true) w) := by
  obtain ⟨lo, rfl, _, m1, r1, b1⟩ := byte_row t1
  obtain ⟨lt, rfl, _, m2, r2, b2⟩ := byte_row t2
  obtain ⟨ops, rfl, _, m3, r3, b3⟩ := op_rows t3
  exact OptionMay_any A1 A2 A3 c1 c2 c3 lo lt ops w b1 b2 b3 m1 m2 m3 r1 r2 r3
end Go.Proofs.Ytioaenidkieiiaa
