/- The document's answer of chapter 6, call by call. -/
import Derived.Test.YtioaenidkieiiaaR01
import Derived.LoopTactic
namespace Go.Proofs.Ytioaenidkieiiaa
set_option linter.unusedVariables false
set_option linter.unusedSimpArgs false
open Go.RowKit

structure One where
  ours : Bool
  opt : Int
  st : Int
def One.enc (a : One) : List Value := [.bool a.ours, .int .u8 a.opt, .int .i64 a.st]
def stateR (l : List One) (s : Bool) (x : Int) : Int := ((l.find? fun a => a.ours == s && a.opt == x).map One.st).getD 0

set_option maxHeartbeats 1000000 in
theorem ref_State (A : Option Addr) (c : Nat) (v1 v2 : Value) (l : List One) (s : Bool) (x : Int) (hn : l.length ≤ 1000000) (w : World) (hr : Rd w 3 A l.length (l.flatMap One.enc)) :
    Calls Try.prog 19 #[.agg #[.slice A l.length c, v1, v2], .bool s, .int .u8 x] w fun e w' => e = .returned (.int .i64 (stateR l s x)) ∧ Below w.heap.size w w' := by
  have HB := Lib.hid ((Below.refl w.heap.size w).alloc (Nat.le_refl _) (.cells #[.slice A l.length c, v1, v2] 29))
  have HR := Lib.hid (hr.alloc (.cells #[.slice A l.length c, v1, v2] 29))
  clear hr
  go_enter Try.func19, Try.ntmps19
  go_wp2
  go_loop [7] (fun v => ∃ k : Nat, k ≤ l.length ∧ v = .int .i64 k ∧ Hid (∀ i a, i < k → l[i]? = some a → (a.ours == s && a.opt == x) = false)) (fun v => l.length - (intOf v).toNat)
  case atStart => exact ⟨0, Nat.zero_le _, rfl, fun i a hi => absurd hi (by omega)⟩
  case round =>
    obtain ⟨k, hk, rfl, H⟩ := hrel
    by_cases hlt : k < l.length
    · obtain ⟨a, ha⟩ : ∃ a, l[k]? = some a := ⟨_, List.getElem?_eq_getElem hlt⟩
      obtain ⟨b, o, rfl, hc⟩ := HR.out.elem One.enc (fun _ => rfl) hlt ha
      have c0 := hc 0 _ rfl
      have c1 := hc 1 _ rfl
      have c2 := hc 2 _ rfl
      simp only [Nat.add_zero] at c0
      clear hc
      have HA := Lib.hid ha
      clear ha
      by_cases h1 : (a.ours == s) = true
      · by_cases h2 : (a.opt == x) = true
        · have HF := Lib.hid (show stateR l s x = a.st from by
            unfold stateR
            rw [List.find?_eq_some_iff_getElem.2 ⟨by rw [h1, h2]; rfl, k, hlt, by
              have := HA.out; rw [List.getElem?_eq_getElem hlt] at this; exact Option.some.inj this, fun j hj => by
              have := H.out j l[j] hj (List.getElem?_eq_getElem _)
              rw [this]; rfl⟩]
            rfl)
          go_wp2
          go_ret
          exact ⟨by rw [HF.out]; rfl, HB.out⟩
        · have h2' : (a.opt == x) = false := by simpa using h2
          clear h2
          have HN := Lib.hid (show ∀ i a, i < k + 1 → l[i]? = some a → (a.ours == s && a.opt == x) = false from fun i a' hi ha' => by
            rcases Nat.lt_or_ge i k with h | h
            · exact H.out i a' h ha'
            · have : i = k := by omega
              subst this
              rw [HA.out] at ha'
              cases ha'
              rw [h1, h2']; rfl)
          go_wp2
          go_round
          case rel => exact ⟨k + 1, by omega, by go_num, HN.out⟩
          case measure => simp [intOf]; omega
      · have h1' : (a.ours == s) = false := by simpa using h1
        clear h1
        have HN := Lib.hid (show ∀ i a, i < k + 1 → l[i]? = some a → (a.ours == s && a.opt == x) = false from fun i a' hi ha' => by
            rcases Nat.lt_or_ge i k with h | h
            · exact H.out i a' h ha'
            · have : i = k := by omega
              subst this
              rw [HA.out] at ha'
              cases ha'
              rw [h1']; rfl)
        go_wp2
        go_round
        case rel => exact ⟨k + 1, by omega, by go_num, HN.out⟩
        case measure => simp [intOf]; omega
    · have : k = l.length := by omega
      subst this
      have HF := Lib.hid (show stateR l s x = 0 from by
        unfold stateR
        rw [List.find?_eq_none.2 (fun a ha => by
          obtain ⟨i, hi, rfl⟩ := List.getElem_of_mem ha
          have := H.out i _ hi (List.getElem?_eq_getElem hi)
          simpa using this)]
        rfl)
      go_wp2
      go_ret
      exact ⟨by rw [HF.out]; rfl, HB.out⟩

/-! ### set -/
def setR (l : List One) (s : Bool) (x st : Int) : List One := (l.filter fun a => a.ours != s || a.opt != x) ++ (if st != 0 then [⟨s, x, st⟩] else [])
theorem infoOne : (Try.prog.info? 108).map (fun i => (i.zero, i.size, i.bytes)) = some (some (.agg #[.bool false, .int .u8 0, .int .i64 0]), 3, 16) := by kernel_rfl

def SetP (w : World) (v1 v2 : Value) (l : List One) (e : Ending) (w' : World) : Prop :=
  ∃ v, e = .returned (.agg #[v, v1, v2]) ∧ OwnL One.enc 3 108 w.heap.size w' v l ∧ Below w.heap.size w w'

set_option maxRecDepth 100000 in
set_option maxHeartbeats 2000000 in
theorem ref_set (A A1 A2 : Option Addr) (c n1 c1 n2 c2 : Nat) (l : List One) (s : Bool) (x st : Int) (hn : l.length ≤ 100000) (w : World) (hr : Rd w 3 A l.length (l.flatMap One.enc)) :
    Calls Try.prog 47 #[.agg #[.slice A l.length c, .slice A1 n1 c1, .slice A2 n2 c2], .bool s, .int .u8 x, .int .i64 st] w (SetP w (.slice A1 n1 c1) (.slice A2 n2 c2) (setR l s x st)) := by
  obtain ⟨i0, hi, hz0, hz1, hz2⟩ := info_parts infoOne
  have hb1 := Blk.new w 29 #[.slice A l.length c, .slice A1 n1 c1, .slice A2 n2 c2]
  have hb2 := Blk.new (w.alloc (.cells #[.slice A l.length c, .slice A1 n1 c1, .slice A2 n2 c2] 29)) 29 #[.slice none 0 0, .slice none 0 0, .slice none 0 0]
  have hb3 := Blk.new ((w.alloc (.cells #[.slice A l.length c, .slice A1 n1 c1, .slice A2 n2 c2] 29)).alloc (.cells #[.slice none 0 0, .slice none 0 0, .slice none 0 0] 29)) 108 #[]
  rw [World.size_alloc] at hb2
  rw [World.size_alloc, World.size_alloc] at hb3
  have hB : Below w.heap.size w (((w.alloc (.cells #[.slice A l.length c, .slice A1 n1 c1, .slice A2 n2 c2] 29)).alloc (.cells #[.slice none 0 0, .slice none 0 0, .slice none 0 0] 29)).alloc (.cells #[] 108)) :=
    (((Below.refl w.heap.size w).alloc (Nat.le_refl _) _).alloc (by simp) _).alloc (by simp; omega) _
  have HST := Lib.hid (And.intro ((hb1.alloc (.cells #[.slice none 0 0, .slice none 0 0, .slice none 0 0] 29)).alloc (.cells #[] 108)) (And.intro (hb2.alloc (.cells #[] 108)) (And.intro hb3 hB)))
  clear hb1 hb2 hb3 hB
  have HR := Lib.hid hr
  clear hr
  go_enter Try.func47, Try.ntmps47
  go_wp2
  go_loopw [9, 10] (fun v9 v10 wr => ∃ k : Nat, k ≤ l.length ∧ v10 = .int .i64 k ∧ Hid (OwnL One.enc 3 108 w.heap.size wr v9 ((l.take k).filter fun a => a.ours != s || a.opt != x)) ∧
      Hid (Blk wr w.heap.size 29 #[.slice A l.length c, .slice A1 n1 c1, .slice A2 n2 c2]) ∧ Hid (Blk wr (w.heap.size + 1) 29 #[.slice none 0 0, .slice none 0 0, .slice none 0 0]) ∧ Hid (Below w.heap.size w wr)) (fun _ v _ => l.length - (intOf v).toNat)
  case atStart =>
    obtain ⟨q1, q2, q3, q4⟩ := HST.out
    exact ⟨0, Nat.zero_le _, rfl, ⟨rfl, .inr ⟨_, 0, #[], rfl, by omega, q3, Nat.le_refl _, Nat.zero_le _, rfl, rfl⟩⟩, q1, q2, q4⟩
  case round =>
    obtain ⟨k, hk, rfl, HO, H1, H2, HB⟩ := hrel
    have q0 := H1.out.cell 0
    have q1 := H1.out.cell 1
    have q2 := H1.out.cell 2
    simp only [List.getElem?_toArray, List.getElem?_cons_zero, List.getElem?_cons_succ] at q0 q1 q2
    have htk : ((l.take k).filter fun a => a.ours != s || a.opt != x).length ≤ k := Nat.le_trans (List.length_filter_le _ _) (List.length_take_le _ _)
    by_cases hlt : k < l.length
    · obtain ⟨a, ha⟩ : ∃ a, l[k]? = some a := ⟨_, List.getElem?_eq_getElem hlt⟩
      have HT := Lib.hid (show l.take (k + 1) = l.take k ++ [a] by rw [List.take_add_one, ha]; rfl)
      obtain ⟨b, o, rfl, hc⟩ := (HR.out.below HB.out).elem One.enc (fun _ => rfl) hlt ha
      have c0 := hc 0 _ rfl
      have c1 := hc 1 _ rfl
      have c2 := hc 2 _ rfl
      simp only [Nat.add_zero] at c0
      clear hc ha
      obtain ⟨ao, ax, ast⟩ := a
      dsimp only at c0 c1 c2
      have hmx : ((l.take k).filter fun a => a.ours != s || a.opt != x).length + 1 ≤ maxLen := by unfold maxLen; omega
      have HMX := Lib.hid hmx
      clear hmx
      by_cases h1 : (ao != s) = true
      · have HF := Lib.hid (show ((l.take (k + 1)).filter fun a => a.ours != s || a.opt != x) = ((l.take k).filter fun a => a.ours != s || a.opt != x) ++ [⟨ao, ax, ast⟩] by rw [HT.out, List.filter_append, List.filter_cons, if_pos (by simp only [h1, Bool.true_or])]; rfl)
        obtain ⟨A9, c9, h9⟩ := own_slice HO.out
        subst h9
        have h1b : (ao == s) = false := by simpa [bne] using h1
        have h1c : ¬ ao = s := by simpa using h1b
        go_wp2_with (at_builtin; go_loud (refine append_one w.heap.size rfl (.tmp 37) (.tmp 43) 27 108 (.agg #[.bool false, .int .u8 0, .int .i64 0]) 3 16 rfl Try.underlying27 infoOne rfl (by decide) (.slice A9 _ c9) _ _ (One.enc ⟨ao, ax, ast⟩) HO.out (by rfl) (by rfl) rfl rfl (by rfl) (by omega) HMX.out HB.out.size ?_); intro g9 c9 w1 hown hg hge; have HO1 := Lib.hid hown; have HG1 := Lib.hid hg; clear hown hg)
        go_roundw
        case rel =>
          exact ⟨k + 1, by omega, by go_num, by rw [HF.out]; exact OwnL.snoc HO1.out, H1.out.grown HG1.out (H1.out.not_row (by decide) HO.out), H2.out.grown HG1.out (H2.out.not_row (by decide) HO.out),
            HB.out.grown HG1.out HB.out.size (fun g hg => (own_base HO.out g hg).1)⟩
        case measure => simp [intOf]; omega
      · have e1 : ao = s := by simpa using h1
        subst e1
        clear h1
        by_cases h2 : (ax != x) = true
        · have HF := Lib.hid (show ((l.take (k + 1)).filter fun a => a.ours != ao || a.opt != x) = ((l.take k).filter fun a => a.ours != ao || a.opt != x) ++ [⟨ao, ax, ast⟩] by rw [HT.out, List.filter_append, List.filter_cons, if_pos (by simp only [h2, Bool.or_true])]; rfl)
          obtain ⟨A9, c9, h9⟩ := own_slice HO.out
          subst h9
          have h2b : (ax == x) = false := by simpa [bne] using h2
          have h2c : ¬ ax = x := by simpa using h2b
          go_wp2_with (at_builtin; refine append_one w.heap.size rfl (.tmp 37) (.tmp 43) 27 108 (.agg #[.bool false, .int .u8 0, .int .i64 0]) 3 16 rfl Try.underlying27 infoOne rfl (by decide) (.slice A9 _ c9) _ _ (One.enc ⟨ao, ax, ast⟩) HO.out (by rfl) (by rfl) rfl rfl (by rfl) (by omega) HMX.out HB.out.size ?_; intro g9 c9 w1 hown hg hge; have HO1 := Lib.hid hown; have HG1 := Lib.hid hg; clear hown hg)
          go_roundw
          case rel =>
            exact ⟨k + 1, by omega, by go_num, by rw [HF.out]; exact OwnL.snoc HO1.out, H1.out.grown HG1.out (H1.out.not_row (by decide) HO.out), H2.out.grown HG1.out (H2.out.not_row (by decide) HO.out),
              HB.out.grown HG1.out HB.out.size (fun g hg => (own_base HO.out g hg).1)⟩
          case measure => simp [intOf]; omega
        · have e2 : ax = x := by simpa using h2
          subst e2
          clear h2
          have HF := Lib.hid (show ((l.take (k + 1)).filter fun a => a.ours != ao || a.opt != ax) = ((l.take k).filter fun a => a.ours != ao || a.opt != ax) by rw [HT.out, List.filter_append, List.filter_cons, if_neg (by simp)]; simp)
          go_wp2
          go_roundw
          case rel => exact ⟨k + 1, by omega, by go_num, by rw [HF.out]; exact HO.out, H1.out, H2.out, HB.out⟩
          case measure => simp [intOf]; omega
    · have : k = l.length := by omega
      subst this
      have HO2 := Lib.hid (show OwnL One.enc 3 108 w.heap.size wr u9 (l.filter fun a => a.ours != s || a.opt != x) from by have := HO.out; rwa [List.take_length] at this)
      clear HO
      have hfl : (l.filter fun a => a.ours != s || a.opt != x).length ≤ l.length := List.length_filter_le _ _
      have HMX := Lib.hid (show (l.filter fun a => a.ours != s || a.opt != x).length + 1 ≤ maxLen by unfold maxLen; omega)
      obtain ⟨A9, c9, h9⟩ := own_slice HO2.out
      subst h9
      have f0 := H1.out.free 0
      have f1 := H2.out.free 0
      have f2 := H2.out.free 1
      have f3 := H2.out.free 2
      have r0 := H2.out.cell 0
      have r1 := H2.out.cell 1
      have r2 := H2.out.cell 2
      simp only [List.getElem?_toArray, List.getElem?_cons_zero, List.getElem?_cons_succ] at r0 r1 r2
      by_cases h0 : (st != 0) = true
      · have h0b : (st == 0) = false := by simpa [bne] using h0
        have h0c : ¬ st = 0 := by simpa using h0b
        go_wp2_with (at_builtin; refine append_one w.heap.size rfl (.tmp 47) (.tmp 52) 27 108 (.agg #[.bool false, .int .u8 0, .int .i64 0]) 3 16 rfl Try.underlying27 infoOne rfl (by decide) (.slice A9 _ c9) _ _ (One.enc ⟨s, x, st⟩) HO2.out (by rfl) (by rfl) rfl rfl (by rfl) (by omega) HMX.out HB.out.size ?_; intro g9 c9 w1 hown hg hge; have HO1 := Lib.hid hown; have HG1 := Lib.hid hg; have H1n := Lib.hid (H1.out.grown hg (H1.out.not_row (by decide) HO2.out)); have H2n := Lib.hid (H2.out.grown hg (H2.out.not_row (by decide) HO2.out)); have f0 := H1n.out.free 0; have f1 := H2n.out.free 0; have f2 := H2n.out.free 1; have f3 := H2n.out.free 2; have q0 := H1n.out.cell 0; have q1 := H1n.out.cell 1; have q2 := H1n.out.cell 2; have r0 := H2n.out.cell 0; have r1 := H2n.out.cell 1; have r2 := H2n.out.cell 2; simp only [List.getElem?_toArray, List.getElem?_cons_zero, List.getElem?_cons_succ] at q0 q1 q2 r0 r1 r2; clear hown hg)
        refine bodyPost_ret (v := .agg #[.slice (some ⟨g9, 0, none⟩) ((l.filter fun a => a.ours != s || a.opt != x).length + 1) c9, .slice A1 n1 c1, .slice A2 n2 c2]) (by simp [results, Try.results47, go_sem, *]) rfl ⟨_, rfl, ?_, ?_⟩
        · have k1 := H1n.out.not_row (by decide) HO1.out
          have k2 := H2n.out.not_row (by decide) HO1.out
          rw [show setR l s x st = (l.filter fun a => a.ours != s || a.opt != x) ++ [⟨s, x, st⟩] from by unfold setR; rw [if_pos h0]]
          refine OwnL.snoc (ownsRow_setCell_other (ownsRow_setCell_other (ownsRow_setCell_other (ownsRow_setCell_other HO1.out k1.symm _) k2.symm _) k2.symm _) k2.symm _)
        · exact ((((HB.out.grown HG1.out HB.out.size (fun g hg => (own_base HO2.out g hg).1)).setCell (p := ⟨w.heap.size, 0, none⟩) (Nat.le_refl _) _).setCell (p := ⟨w.heap.size + 1, 0, none⟩) (by simp) _).setCell (p := ⟨w.heap.size + 1, 1, none⟩) (by simp) _).setCell (p := ⟨w.heap.size + 1, 2, none⟩) (by simp) _
      · have h0b : st = 0 := by simpa using h0
        subst h0b
        go_wp2
        refine bodyPost_ret (v := .agg #[.slice A9 (l.filter fun a => a.ours != s || a.opt != x).length c9, .slice A1 n1 c1, .slice A2 n2 c2]) (by simp [results, Try.results47, go_sem, *]) rfl ⟨_, rfl, ?_, ?_⟩
        · have k1 := H1.out.not_row (by decide) HO2.out
          have k2 := H2.out.not_row (by decide) HO2.out
          rw [show setR l s x 0 = (l.filter fun a => a.ours != s || a.opt != x) from by unfold setR; simp]
          exact (ownsRow_setCell_other (ownsRow_setCell_other (ownsRow_setCell_other (ownsRow_setCell_other HO2.out k1.symm _) k2.symm _) k2.symm _) k2.symm _)
        · exact (((HB.out.setCell (p := ⟨w.heap.size, 0, none⟩) (Nat.le_refl _) _).setCell (p := ⟨w.heap.size + 1, 0, none⟩) (by simp) _).setCell (p := ⟨w.heap.size + 1, 1, none⟩) (by simp) _).setCell (p := ⟨w.heap.size + 1, 2, none⟩) (by simp) _

/-! ### what is said; what may be on; what is on its way -/
def wordL (s : Bool) (x : Int) (say : Int) : List Int := if say = 0 then [] else [255, (if s then 250 + say else 252 + say), x]
def BtsP (w : World) (l : List Int) (e : Ending) (w' : World) : Prop := ∃ v, e = .returned v ∧ Bts w.heap.size w' v l ∧ Below w.heap.size w w'
theorem ref_word (s : Bool) (x say : Int) (h0 : 0 ≤ say) (h2 : say ≤ 2) (w : World) :
    Calls Try.prog 48 #[.bool s, .int .u8 x, .int .i64 say] w (BtsP w (wordL s x say)) := by
  have hb := Lib.hid (fun l : List Int => Bts.new w l)
  have hB := Lib.hid (fun o : Obj => (Below.refl w.heap.size w).alloc (Nat.le_refl _) o)
  have hc : say = 0 ∨ say = 1 ∨ say = 2 := by omega
  rcases hc with rfl | rfl | rfl
  · go_enter Try.func48, Try.ntmps48
    go_wp2
    go_ret
    exact ⟨_, rfl, Bts.nil _ _, Below.refl _ _⟩
  all_goals
    cases s
    all_goals
      go_enter Try.func48, Try.ntmps48
      go_wp2
      go_ret
      exact ⟨_, rfl, hb.out [255, _, x], hB.out _⟩

def BoolR (p : Bool) (w : World) (e : Ending) (w' : World) : Prop := e = .returned (.bool p) ∧ Below w.heap.size w w'
def hasL (l : List Int) (x : Int) : Bool := l.contains x
theorem drop_get {α : Type} {l : List α} {k : Nat} {a : α} (h : l[k]? = some a) : l.drop k = a :: l.drop (k + 1) := by
  have hlt := (List.getElem?_eq_some_iff.1 h).1
  rw [List.drop_eq_getElem_cons hlt]
  rw [List.getElem?_eq_getElem hlt] at h
  rw [Option.some.inj h]
def mayL (l m : List Int) (s : Bool) (x : Int) : Bool := hasL (if s then l else m) x
set_option maxHeartbeats 1000000 in
theorem ref_May (A0 A B : Option Addr) (n0 c0 c d : Nat) (l m : List Int) (s : Bool) (x : Int) (hn : l.length ≤ 1000000) (hn' : m.length ≤ 1000000) (w : World) (hl : Rd w 1 A l.length (u8s l)) (hm : Rd w 1 B m.length (u8s m)) :
    Calls Try.prog 26 #[.agg #[.slice A0 n0 c0, .slice A l.length c, .slice B m.length d], .bool s, .int .u8 x] w (BoolR (mayL l m s x) w) := by
  have HB := Lib.hid ((Below.refl w.heap.size w).alloc (Nat.le_refl _) (.cells #[.slice A0 n0 c0, .slice A l.length c, .slice B m.length d] 29))
  have HL := Lib.hid (hl.alloc (.cells #[.slice A0 n0 c0, .slice A l.length c, .slice B m.length d] 29))
  have HM := Lib.hid (hm.alloc (.cells #[.slice A0 n0 c0, .slice A l.length c, .slice B m.length d] 29))
  clear hl hm
  cases s
  · go_enter Try.func26, Try.ntmps26
    go_wp2
    go_loop [8] (fun v => ∃ k : Nat, k ≤ m.length ∧ v = .int .i64 k ∧ Hid (hasL (m.drop k) x = hasL m x)) (fun v => m.length - (intOf v).toNat)
    case atStart => exact ⟨0, Nat.zero_le _, rfl, rfl⟩
    case round =>
      obtain ⟨k, hk, rfl, H⟩ := hrel
      by_cases hlt : k < m.length
      · obtain ⟨a, ha⟩ : ∃ a, m[k]? = some a := ⟨_, List.getElem?_eq_getElem hlt⟩
        obtain ⟨b, o, u, rfl, hu, hc⟩ := HM.out.at1 hlt
        rw [u8s_get, ha] at hu
        obtain rfl : Value.int .u8 a = u := by simpa using hu
        have HD := Lib.hid (drop_get ha)
        clear ha hu
        by_cases h1 : a = x
        · subst h1
          have HF := Lib.hid (show hasL m a = true by rw [← H.out, HD.out]; simp [hasL])
          go_wp2
          go_ret
          exact ⟨by rw [show mayL l m false _ = hasL m _ from rfl, HF.out]; rfl, HB.out⟩
        · have HF := Lib.hid (show hasL (m.drop (k + 1)) x = hasL m x by rw [← H.out, HD.out]; simp [hasL, Ne.symm h1])
          have h1' : (a == x) = false := by simpa using h1
          clear h1
          go_wp2
          go_round
          case rel => exact ⟨k + 1, by omega, by go_num, HF.out⟩
          case measure => simp [intOf]; omega
      · have : k = m.length := by omega
        subst this
        have HF := Lib.hid (show hasL m x = false by rw [← H.out, List.drop_length]; rfl)
        go_wp2
        go_ret
        exact ⟨by rw [show mayL l m false _ = hasL m _ from rfl, HF.out]; rfl, HB.out⟩
  · go_enter Try.func26, Try.ntmps26
    go_wp2
    go_loop [8] (fun v => ∃ k : Nat, k ≤ l.length ∧ v = .int .i64 k ∧ Hid (hasL (l.drop k) x = hasL l x)) (fun v => l.length - (intOf v).toNat)
    case atStart => exact ⟨0, Nat.zero_le _, rfl, rfl⟩
    case round =>
      obtain ⟨k, hk, rfl, H⟩ := hrel
      by_cases hlt : k < l.length
      · obtain ⟨a, ha⟩ : ∃ a, l[k]? = some a := ⟨_, List.getElem?_eq_getElem hlt⟩
        obtain ⟨b, o, u, rfl, hu, hc⟩ := HL.out.at1 hlt
        rw [u8s_get, ha] at hu
        obtain rfl : Value.int .u8 a = u := by simpa using hu
        have HD := Lib.hid (drop_get ha)
        clear ha hu
        by_cases h1 : a = x
        · subst h1
          have HF := Lib.hid (show hasL l a = true by rw [← H.out, HD.out]; simp [hasL])
          go_wp2
          go_ret
          exact ⟨by rw [show mayL l m true _ = hasL l _ from rfl, HF.out]; rfl, HB.out⟩
        · have HF := Lib.hid (show hasL (l.drop (k + 1)) x = hasL l x by rw [← H.out, HD.out]; simp [hasL, Ne.symm h1])
          have h1' : (a == x) = false := by simpa using h1
          clear h1
          go_wp2
          go_round
          case rel => exact ⟨k + 1, by omega, by go_num, HF.out⟩
          case measure => simp [intOf]; omega
      · have : k = l.length := by omega
        subst this
        have HF := Lib.hid (show hasL l x = false by rw [← H.out, List.drop_length]; rfl)
        go_wp2
        go_ret
        exact ⟨by rw [show mayL l m true _ = hasL l _ from rfl, HF.out]; rfl, HB.out⟩

set_option maxHeartbeats 1000000 in
theorem ref_Busy (A : Option Addr) (c : Nat) (v1 v2 : Value) (l : List One) (hn : l.length ≤ 1000000) (w : World) (hr : Rd w 3 A l.length (l.flatMap One.enc)) :
    Calls Try.prog 18 #[.agg #[.slice A l.length c, v1, v2]] w (BoolR (l.any fun a => 1 < a.st) w) := by
  have HB := Lib.hid ((Below.refl w.heap.size w).alloc (Nat.le_refl _) (.cells #[.slice A l.length c, v1, v2] 29))
  have HR := Lib.hid (hr.alloc (.cells #[.slice A l.length c, v1, v2] 29))
  clear hr
  go_enter Try.func18, Try.ntmps18
  go_wp2
  go_loop [3] (fun v => ∃ k : Nat, k ≤ l.length ∧ v = .int .i64 k ∧ Hid ((l.drop k).any (fun a => 1 < a.st) = l.any (fun a => 1 < a.st))) (fun v => l.length - (intOf v).toNat)
  case atStart => exact ⟨0, Nat.zero_le _, rfl, rfl⟩
  case round =>
    obtain ⟨k, hk, rfl, H⟩ := hrel
    by_cases hlt : k < l.length
    · obtain ⟨a, ha⟩ : ∃ a, l[k]? = some a := ⟨_, List.getElem?_eq_getElem hlt⟩
      obtain ⟨b, o, rfl, hc⟩ := HR.out.elem One.enc (fun _ => rfl) hlt ha
      have c2 := hc 2 _ rfl
      clear hc
      have HD := Lib.hid (show l.drop k = a :: l.drop (k + 1) by rw [List.drop_eq_getElem_cons hlt]; rw [List.getElem?_eq_getElem hlt] at ha; rw [Option.some.inj ha])
      clear ha
      by_cases h1 : 1 < a.st
      · have HF := Lib.hid (show l.any (fun a => 1 < a.st) = true by rw [← H.out, HD.out]; simp [h1])
        go_wp2
        go_ret
        exact ⟨by rw [HF.out]; rfl, HB.out⟩
      · have HF := Lib.hid (show (l.drop (k + 1)).any (fun a => 1 < a.st) = l.any (fun a => 1 < a.st) by rw [← H.out, HD.out]; simp [h1])
        have h1' : a.st ≤ 1 := by omega
        clear h1
        go_wp2
        go_round
        case rel => exact ⟨k + 1, by omega, by go_num, HF.out⟩
        case measure => simp [intOf]; omega
    · have : k = l.length := by omega
      subst this
      have HF := Lib.hid (show l.any (fun a => 1 < a.st) = false by rw [← H.out, List.drop_length]; rfl)
      go_wp2
      go_ret
      exact ⟨by rw [HF.out]; rfl, HB.out⟩
end Go.Proofs.Ytioaenidkieiiaa
