/- Chapter 6's example, 'alive': it is true. -/
import Derived.Test.YtioaenidkieiiaaL6a
import Derived.Test.YtioaenidkieiiaaE
import Derived.Laws.BytesArg
namespace Go.Proofs.Ytioaenidkieiiaa
set_option linter.unusedVariables false
set_option linter.unusedSimpArgs false
open Go.RowKit Go.Shelf
attribute [local go_sem] Oper.semAt_some

theorem conv_str {P : Program} {w : World} {A : Option Addr} {l : List Int} {src dst e : TypeId} (hs : P.underlying src = some (.slice e)) (he : P.underlying e = some (.int .u8)) (hd : P.underlying dst = some .string)
    (h : Rd w 1 A l.length (u8s l)) (c : Nat) : (convert src dst (.slice A l.length c)).run P w = .ok (.string (strOfNums l)) w := by
  rcases Nat.eq_zero_or_pos l.length with h0 | h0
  · obtain rfl : l = [] := List.eq_nil_of_length_eq_zero h0
    cases A with
    | none => exact run_convert_bytes_nil w src e hs he _ c dst hd
    | some a =>
      rw [run_convert_bytes_string w src dst e _ _ c hs he hd]
      exact run_bytesToString w a 0 c [] (by simp [loadCells, loadCellsFrom])
  · obtain ⟨b, o, rfl, hc⟩ := h.2 h0
    refine run_convert_bytes_arg w src e hs he b o l.length c l rfl (fun i hi => ?_) dst hd
    refine hc i _ ?_
    rw [u8s_get, List.getElem?_eq_getElem hi]
    simp [List.getD_eq_getElem?_getD, List.getElem?_eq_getElem hi]

def sumW : List Int → Int := List.foldl (fun s v => wrap64 (s + wrap64 v)) 0
theorem sumW_snoc (pre : List Int) (x : Int) : sumW (pre ++ [x]) = wrap64 (sumW pre + wrap64 x) := by simp [sumW]

def AO0 : Opt := Opt.new [25] [0]
def AO1 : Opt := (AO0.got 253 25).1
def AO2 : Opt := (AO1.got 253 24).1
def AO3 : Opt := (AO2.want 254 0).1
def AO4 : Opt := (AO3.want 253 0).1
def AO5 : Opt := (AO4.got 251 0).1
def AO6 : Opt := (AO5.want 9 0).1
def busyL (o : Opt) : Bool := (List.range 256).any fun i => decide (1 < o.st true i) || decide (1 < o.st false i)
theorem busy_iff (o : Opt) : (∃ s i, i < 256 ∧ 1 < o.st s i) ↔ busyL o = true := by
  unfold busyL
  rw [List.any_eq_true]
  constructor
  · rintro ⟨s, i, hi, h⟩
    refine ⟨i, List.mem_range.2 hi, ?_⟩
    cases s <;> simp [h]
  · rintro ⟨i, hi, h⟩
    simp only [Bool.or_eq_true] at h
    rcases h with h | h
    · exact ⟨true, i, List.mem_range.1 hi, of_decide_eq_true h⟩
    · exact ⟨false, i, List.mem_range.1 hi, of_decide_eq_true h⟩
theorem Busy_b (b : Nat) (o : Opt) (r : Bool) (hr : busyL o = r) (w : World) (h : OptAt w b o) :
    Calls Try.prog 17 #[.pointer (some ⟨b, 0, none⟩)] w fun e w' => e = .returned (.bool r) ∧ w' = w :=
  (Busy_any b o w h).mono fun e w' ⟨h1, q, h2, h3⟩ => ⟨by
    rw [h2, ← hr]
    have := h3.trans (busy_iff o)
    cases q <;> cases hh : busyL o <;> simp_all, h1⟩

/-- a call in a walk inside the wide fence -/
theorem wide {n : Nat} {P : Program} {f : FuncId} {args : Array Value} {w : World} {R R' : Ending → World → Prop} (h : Calls P f args w R) (hr : ∀ e w', R e w' → R' e w') : Fence.wide.fn f ∧ CallsIn Fence.wide n P f args w R' :=
  ⟨trivial, callsIn_wide.2 (h.mono hr)⟩

/-- New, its block unnamed -/
def NewO (w : World) (o : Opt) (e : Ending) (w' : World) : Prop := ∃ b, e = .returned (.pointer (some ⟨b, 0, none⟩)) ∧ OptAt w' b o ∧ Ext w w' ∧ w.heap.size ≤ b ∧ b < w'.heap.size
theorem New_obj (A B : Option Addr) (l m : List Int) (c d : Nat) (hl : ∀ x ∈ l, 0 ≤ x ∧ x < 256) (hm : ∀ x ∈ m, 0 ≤ x ∧ x < 256) (hn : l.length ≤ 1000000) (hn' : m.length ≤ 1000000) (w : World)
    (hr : Rd w 1 A l.length (u8s l)) (hr' : Rd w 1 B m.length (u8s m)) :
    Calls Try.prog 11 #[.slice A l.length c, .slice B m.length d] w (NewO w (Opt.new l m)) :=
  (New_free A B l m c d hl hm hn hn' w hr hr').mono fun _ _ ⟨h1, h2, h3, h4⟩ => ⟨_, h1, h2, h3, Nat.le_refl _, h4⟩

/-- a round of a range may turn block b; whatever else was there stays -/
theorem ownFrom_mut {β : Type} (b : Nat) (W0 : World) : OwnFrom W0.heap.size (fun (_ : β) W => Mut b W0 W) := fun _ _ _ row hs hg hr =>
  ⟨hg.os.trans hs.os, hg.tape.trans hs.tape, hg.output.trans hs.output, Nat.le_trans hs.size hg.size, fun k hk hne => (hg.block k (Nat.lt_of_lt_of_le hk hs.size) (fun e => by have := (hr k e.symm).1; omega)).trans (hs.block k hk hne)⟩
theorem off_lt {b : Nat} {g : Nat} (h : g < b) : Off b (some ⟨g, 0, none⟩) := fun ad e => by cases e; exact Nat.ne_of_lt h
theorem Got_lit {b x : Nat} {c : Int} {o o' : Opt} {l : List Int} (hx : x < 256) (h1 : (o.got c x).1 = o') (h2 : (o.got c x).2 = l) {w : World} (h : OptAt w b o) :
    Calls Try.prog 14 #[.pointer (some ⟨b, 0, none⟩), .int .u8 c, .int .u8 x] w (SaidP w b o' l) := by subst h1; subst h2; exact Got_any b x c o hx w h
theorem Want_lit {b x : Nat} {c n : Int} {o o' : Opt} {l : List Int} (hx : x < 256) (h1 : o.want c x = (o', l, n)) {w : World} (h : OptAt w b o) :
    Calls Try.prog 12 #[.pointer (some ⟨b, 0, none⟩), .int .u8 c, .int .u8 x] w (WantP w b (o', l, n)) := by rw [← h1]; exact Want_any b x c o hx w h
theorem want_eq {o o' : Opt} {c n : Int} {x : Nat} {l : List Int} (h1 : (o.want c x).1 = o') (h2 : (o.want c x).2.1 = l) (h3 : (o.want c x).2.2 = n) : o.want c x = (o', l, n) := by rw [← h1, ← h2, ← h3]
theorem said_mut {w w' : World} {b : Nat} {o : Opt} {l : List Int} {v : Value} (h : Said w b o l v w') : Mut b w w' := h.2.1

set_option maxRecDepth 100000 in
set_option maxHeartbeats 4000000 in
theorem alive_any (w : World) : Calls Try.prog 10 #[] w (Ret (.bool true) w) := by
  refine (callsIn_wide (n := 9)).1 ?_
  refine callsIn_of_wp_marks Try.func10 rfl trivial ?_ rfl
  simp only [Try.ntmps10, List.size_toArray, List.length_cons, List.length_nil, Nat.reduceAdd, Nat.reduceSub, Array.replicate_succ, Array.replicate_zero, List.push_toArray, List.append_toArray, List.nil_append, List.cons_append]
  have q1 := Rd.blk (sz := 1) (n := 1) (l := u8s [25]) ((Blk.new w 5 _).alloc (.cells (u8s [0]).toArray 5)) rfl
  have q2 := Rd.blk (sz := 1) (n := 1) (l := u8s [0]) (Blk.new (w.alloc (.cells (u8s [25]).toArray 5)) 5 _) rfl
  rw [World.size_alloc] at q2
  have HX0 := Lib.hid (Ext_alloc (o := .cells (u8s [0]).toArray 5) (Ext_alloc (o := .cells (u8s [25]).toArray 5) (Ext_refl w)))
  have Q1 := Lib.hid q1
  have Q2 := Lib.hid q2
  clear q1 q2
  gi_wp2_with fail
  refine wide (New_obj _ _ [25] [0] _ _ (by decide) (by decide) (by decide) (by decide) _ Q1.out Q2.out) ?_
  rintro e w1 ⟨b, rfl, hO, hx, hle, hlt⟩
  have O1 := Lib.hid (show OptAt w1 b AO0 from hO)
  have X1 := Lib.hid (Ext_trans hx HX0.out)
  have hbw : w.heap.size ≤ b := by simp at hle; omega
  clear hO hx Q1 Q2 HX0 hle
  gi_wp2_with fail
  refine wide (Got_lit (x := 25) (c := 253) (o' := AO1) (l := [255, 251, 25]) (by decide) rfl (by kernel_rfl) O1.out) ?_
  rintro e w2 ⟨v2, rfl, hO, hg, ⟨A2, c2, rfl, -, hd2, hf2⟩⟩
  have O2 := Lib.hid hO
  have X2 := Lib.hid (Mut_trans hg X1.out hbw)
  have D2 := Lib.hid hd2
  have F2 := Lib.hid (hf2.off hlt)
  have hlt2 : b < w2.heap.size := Nat.lt_of_lt_of_le hlt hg.size
  clear hO hg hd2 hf2
  gi_wp2_with fail
  refine wide (Got_lit (x := 24) (c := 253) (o' := AO2) (l := [255, 252, 24]) (by decide) rfl (by kernel_rfl) O2.out) ?_
  rintro e w3 ⟨v3, rfl, hO, hg, ⟨A3, c3, rfl, -, hd3, hf3⟩⟩
  have O3 := Lib.hid hO
  have X3 := Lib.hid (Mut_trans hg X2.out hbw)
  have D23 := Lib.hid (D2.out.grown hg (fun g e => by cases e; exact F2.out))
  have D3 := Lib.hid hd3
  have F3 := Lib.hid (hf3.off hlt2)
  have hlt3 : b < w3.heap.size := Nat.lt_of_lt_of_le hlt2 hg.size
  clear hO hg hd3 hf3
  gi_wp2_with fail
  refine wide (Want_lit (x := 0) (c := 254) (o' := AO3) (l := []) (n := 5) (by decide) (want_eq rfl (by kernel_rfl) (by kernel_rfl)) O3.out) ?_
  rintro e w4 ⟨v4, rfl, hO, hg, ⟨A4, c4, rfl, -, hd4, hf4⟩⟩
  have O4 := Lib.hid hO
  have X4 := Lib.hid (Mut_trans hg X3.out hbw)
  have D24 := Lib.hid (D23.out.grown hg (fun g e => by cases e; exact F2.out))
  have D34 := Lib.hid (D3.out.grown hg (fun g e => by cases e; exact F3.out))
  have hlt4 : b < w4.heap.size := Nat.lt_of_lt_of_le hlt3 hg.size
  clear hO hg hd4 hf4
  gi_wp2_with fail
  refine wide (Want_lit (x := 0) (c := 253) (o' := AO4) (l := [255, 253, 0]) (n := 0) (by decide) (want_eq rfl (by kernel_rfl) (by kernel_rfl)) O4.out) ?_
  rintro e w5 ⟨v5, rfl, hO, hg, ⟨A5, c5, rfl, -, hd5, hf5⟩⟩
  have O5 := Lib.hid hO
  have X5 := Lib.hid (Mut_trans hg X4.out hbw)
  have D25 := Lib.hid (D24.out.grown hg (fun g e => by cases e; exact F2.out))
  have D35 := Lib.hid (D34.out.grown hg (fun g e => by cases e; exact F3.out))
  have D5 := Lib.hid hd5
  have F5 := Lib.hid (hf5.off hlt4)
  have hlt5 : b < w5.heap.size := Nat.lt_of_lt_of_le hlt4 hg.size
  clear hO hg hd5 hf5
  gi_wp2_with fail
  refine wide (Busy_b b _ true (by kernel_rfl) _ O5.out) ?_
  rintro e w6 ⟨rfl, rfl⟩
  gi_wp2_with fail
  refine wide (Got_lit (x := 0) (c := 251) (o' := AO5) (l := []) (by decide) rfl (by kernel_rfl) O5.out) ?_
  rintro e w7 ⟨v7, rfl, hO, hg, ⟨A7, c7, rfl, -, hd7, hf7⟩⟩
  have O7 := Lib.hid hO
  have X7 := Lib.hid (Mut_trans hg X5.out hbw)
  have D27 := Lib.hid (D25.out.grown hg (fun g e => by cases e; exact F2.out))
  have D37 := Lib.hid (D35.out.grown hg (fun g e => by cases e; exact F3.out))
  have D57 := Lib.hid (D5.out.grown hg (fun g e => by cases e; exact F5.out))
  have hlt7 : b < w7.heap.size := Nat.lt_of_lt_of_le hlt5 hg.size
  clear hO hg hd7 hf7
  gi_wp2_with fail
  refine wide (All_any b true _) ?_
  rintro e w8 ⟨rfl, rfl⟩
  gi_wp2_with fail
  obtain ⟨W0, hW0⟩ : ∃ W0, (((w7.alloc (.cells #[.int .i64 0] 3)).alloc (.cells #[.pointer (some ⟨b, 0, none⟩)] 25)).alloc (.cells #[.bool true] 4)) = W0 := ⟨_, rfl⟩
  have bN : Boxed W0 w7.heap.size 3 (.int .i64 0) := by rw [← hW0]; exact ((Boxed.new w7 3 (.int .i64 0)).alloc _).alloc _
  have b1 : Boxed W0 (w7.heap.size + 1) 25 (.pointer (some ⟨b, 0, none⟩)) := by
    have := Boxed.new (w7.alloc (.cells #[.int .i64 0] 3)) 25 (.pointer (some ⟨b, 0, none⟩))
    rw [World.size_alloc] at this
    rw [← hW0]; exact this.alloc _
  have b2 : Boxed W0 (w7.heap.size + 1 + 1) 4 (.bool true) := by
    have := Boxed.new ((w7.alloc (.cells #[.int .i64 0] 3)).alloc (.cells #[.pointer (some ⟨b, 0, none⟩)] 25)) 4 (.bool true)
    rw [World.size_alloc, World.size_alloc] at this
    rw [← hW0]; exact this
  have e7 : Ext w7 W0 := by rw [← hW0]; exact Ext_alloc (Ext_alloc (Ext_alloc (Ext_refl _)))
  have hsz : W0.heap.size = w7.heap.size + 3 := by rw [← hW0]; simp
  have X8 := Lib.hid (Ext_trans e7 X7.out)
  have O8 := Lib.hid (Blk.below' O7.out e7)
  have D28 := Lib.hid (Rd_ext e7 D27.out)
  have D38 := Lib.hid (Rd_ext e7 D37.out)
  have D58 := Lib.hid (Rd_ext e7 D57.out)
  rw [hW0]
  clear hW0 e7
  refine' wpIn_rangeFunc_ownG rfl (by omega) (gf := 62) (lb := #[.pointer (some ⟨w7.heap.size + 1, 0, none⟩), .pointer (some ⟨w7.heap.size + 1 + 1, 0, none⟩)]) rfl trivial (enters_of Try.func62 (by kernel_rfl) rfl)
    (All_stops 8 (by omega) _ _ b _ true W0 b1.cell b2.cell O8.out) (fun _ _ => trivial) (fun _ _ _ _ _ _ _ _ => trivial) (Below.refl _ _) (fun _ => rfl)
    (fun pre W => Boxed W w7.heap.size 3 (.int .i64 (sumW pre)) ∧ Mut w7.heap.size W0 W) (fun _ _ _ => False)
    (OwnFrom.and (Own.from (boxed_own w7.heap.size 3 (fun pre => .int .i64 (sumW pre))) _) (ownFrom_mut _ _)) (fun _ _ _ _ _ hs _ _ => hs) ⟨bN, World.grownBy.refl _ _⟩
    _ ?assign ?body ?done ?stop
  case assign =>
    intro l x W K hK
    gi_wp2
    exact hK
  case body =>
    rintro l pre x W ⟨hb, hm⟩ _
    have hc := hb.cell
    have hf := hb.frozen
    gi_wp2
    exact ⟨(KeepsOthers.setCell _ _ _).from _, trivial, by rw [sumW_snoc]; exact hb.set _, hm.trans (grown_set _ _ _ _)⟩
  case done =>
    rintro D ys W hD rfl ⟨hbn, hm⟩ hK
    rw [show sumW (ons AO5 true 256) = 25 from by kernel_rfl] at hbn
    have hbn' : b ≠ w7.heap.size := by omega
    have O9 := Lib.hid (Blk.grown O8.out hm (by simp; omega))
    have D29 := Lib.hid (Rd.old D28.out D27.out (by decide) hm (Nat.le_refl _))
    have D39 := Lib.hid (Rd.old D38.out D37.out (by decide) hm (Nat.le_refl _))
    have D59 := Lib.hid (Rd.old D58.out D57.out (by decide) hm (Nat.le_refl _))
    have X9 := Lib.hid (Mut_trans hm X8.out (by have := X7.out.size; omega))
    have hDW : D < W.heap.size := (Array.getElem?_eq_some_iff.1 hK).1
    have hbW : b < W.heap.size := by have := hm.size; omega
    have HN := Lib.hid hbn
    have HK := Lib.hid hK
    clear hm hbn hK
    gi_wp2_with fail
    refine wide (Want_lit (x := 0) (c := 9) (o' := AO6) (l := []) (n := 1) (by decide) (want_eq rfl (by kernel_rfl) (by kernel_rfl)) O9.out) ?_
    rintro e w9 ⟨v9, rfl, hO, hg, ⟨A9, c9, rfl, -, hd9, hf9⟩⟩
    have O10 := Lib.hid hO
    have X10 := Lib.hid (Mut_trans hg X9.out hbw)
    have hs1 : (convert 22 9 (.slice A2 3 c2)).run Try.prog w9 = .ok (.string ⟨#[255, 251, 25]⟩) w9 := conv_str (l := [255, 251, 25]) Try.underlying22 Try.underlying5 Try.underlying9 (D29.out.grown hg (fun g e => by cases e; exact F2.out)) c2
    have hs2 : (convert 22 9 (.slice A3 3 c3)).run Try.prog w9 = .ok (.string ⟨#[255, 252, 24]⟩) w9 := conv_str (l := [255, 252, 24]) Try.underlying22 Try.underlying5 Try.underlying9 (D39.out.grown hg (fun g e => by cases e; exact F3.out)) c3
    have hs3 : (convert 22 9 (.slice A5 3 c5)).run Try.prog w9 = .ok (.string ⟨#[255, 253, 0]⟩) w9 := conv_str (l := [255, 253, 0]) Try.underlying22 Try.underlying5 Try.underlying9 (D59.out.grown hg (fun g e => by cases e; exact F5.out)) c5
    have hcn : w9.cell? ⟨w7.heap.size, 0, none⟩ = some (.int .i64 25) := (HN.out.kept hg (by simp; omega)).cell
    have HK9 := Lib.hid ((hg.block D hDW (by simp; omega)).trans HK.out)
    clear hO hg hd9 hf9
    gi_wp2_with (first
      | (refine ⟨trivial, ?_⟩; gi_at_call 21; refine (callsIn_wide.2 (On_any b _ _ AO6 (by decide) _ O10.out)).mono ?_; rintro e wn ⟨rfl, rfl⟩)
      | (refine ⟨trivial, ?_⟩; gi_at_call 20; refine (callsIn_wide.2 (State_any b _ _ AO6 (by decide) _ O10.out)).mono ?_; rintro e wn ⟨rfl, rfl⟩)
      | (refine ⟨trivial, ?_⟩; gi_at_call 17; refine (callsIn_wide.2 (Busy_b b AO6 false (by kernel_rfl) _ O10.out)).mono ?_; rintro e wn ⟨rfl, rfl⟩))
    refine ⟨by simp, .inl ⟨_, _, rfl, run_takeDeferred HK9.out, ?_⟩⟩
    exact ⟨_, results_tmp rfl _ _ _, rfl, Below.trans X10.out (belowK_b (w := w) (Nat.le_refl _) _ D _ _ (by have := X8.out.size; omega) HK9.out rfl rfl)⟩
  case stop =>
    rintro D c pre W _ _ h _
    exact h.elim
end Go.Proofs.Ytioaenidkieiiaa
