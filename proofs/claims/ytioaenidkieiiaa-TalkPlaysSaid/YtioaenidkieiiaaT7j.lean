/- Events that come in; few, as; the document's New. -/
import Derived.Test.YtioaenidkieiiaaT7f
import Derived.Test.YtioaenidkieiiaaA
import Derived.Test.YtioaenidkieiiaaT7h
import Derived.LoopN
namespace Go.Proofs.Ytioaenidkieiiaa
set_option linter.unusedVariables false
set_option linter.unusedSimpArgs false
open Go.RowKit Go.Shelf Go.Proofs.YtioaenidkieiiaaW.PrintWords

/-- an event in memory: where its bytes lie -/
structure Em where
  e : Ev
  A : Option Addr
  c : Nat
def Em.enc (m : Em) : List Value := [.int .i64 m.e.kind, .int .u8 m.e.code, .int .u8 (m.e.opt : Int), .slice m.A m.e.bytes.length m.c]
def Em.ok (w : World) (m : Em) : Prop := m.e.opt < 256 ∧ (0 ≤ m.e.code ∧ m.e.code < 256) ∧ m.e.bytes.length ≤ m.c ∧ m.e.bytes.length ≤ maxLen ∧ Rd w 1 m.A m.e.bytes.length (u8s m.e.bytes) ∧ ∀ x ∈ m.e.bytes, 0 ≤ x ∧ x < 256
theorem Em.ok.ext {w w' : World} {m : Em} (h : m.ok w) (hx : Ext w w') : m.ok w' := ⟨h.1, h.2.1, h.2.2.1, h.2.2.2.1, Rd_ext hx h.2.2.2.2.1, h.2.2.2.2.2⟩

theorem field_bytes {H : Type} {enc : TypeId × Value → H} {W : World} {base : Nat} {sp : Nat → Bool} {held : Bool} {v : Value} {q : Nat} {z : DataW H × List MemPlace} (h : DataW.trod enc Try.prog W base sp held q 22 [v] = some z) :
    ∃ A n c, ∃ l : List Int, v = .slice A n c ∧ l.length = n ∧ n ≤ c ∧ n ≤ maxLen ∧ Rd W 1 A n (u8s l) ∧ ∀ x ∈ l, 0 ≤ x ∧ x < 256 := by
  have hv : ∃ A n c, v = .slice A n c := by
    rcases Go.Deep.open_slice Try.underlying22 h with ⟨hcs, _⟩ | ⟨a, len, cap, m, n, D, Pl, hcs, _⟩
    · exact ⟨none, 0, 0, by simpa using hcs⟩
    · exact ⟨some a, len, cap, by simpa using hcs⟩
  obtain ⟨A, n, c, rfl⟩ := hv
  obtain ⟨d, ps⟩ := z
  obtain ⟨l, h1, h2, h3, h4, h5⟩ := arg_bytes (A := A) (n := n) (c := c) (d := d) (ps := ps) Try.underlying22 Try.underlying5 (by kernel_rfl) ⟨q, h⟩
  exact ⟨A, n, c, l, rfl, h1, h2, h3, h4, h5⟩
theorem ev_rows {H : Type} {w : World} {A : Option Addr} {n c : Nat} (h : Handed Try.prog H w 64 (.slice A n c)) :
    ∃ ms : List Em, ms.length = n ∧ n ≤ c ∧ n ≤ maxLen ∧ Rd w 4 A n (ms.flatMap Em.enc) ∧ ∀ m ∈ ms, m.ok w := by
  obtain ⟨enc, d, ps, h⟩ := h
  refine arg_structs Em.enc (fun m => m.ok w) Try.underlying64 (e := 72) (k := 4) (by kernel_rfl) (by omega) h (fun r m y hl hy => ?_)
  obtain ⟨v0, v1, v2, v3, rfl⟩ : ∃ v0 v1 v2 v3, r = [v0, v1, v2, v3] := by
    match r, hl with
    | [a, b, c, d], _ => exact ⟨a, b, c, d, rfl⟩
  have he := Try.underlying72
  obtain ⟨q0, z0, h0⟩ := row_field he (by kernel_rfl) hy 0 _ rfl v0 rfl
  obtain ⟨q1, z1, h1⟩ := row_field he (by kernel_rfl) hy 1 _ rfl v1 rfl
  obtain ⟨q2, z2, h2⟩ := row_field he (by kernel_rfl) hy 2 _ rfl v2 rfl
  obtain ⟨q3, z3, h3⟩ := row_field he (by kernel_rfl) hy 3 _ rfl v3 rfl
  obtain ⟨k, rfl, _⟩ := field_int Try.underlying3 h0
  obtain ⟨co, rfl, hc⟩ := field_int Try.underlying5 h1
  obtain ⟨x, rfl, hx⟩ := field_int Try.underlying5 h2
  obtain ⟨A3, n3, c3, l, rfl, rfl, hb1, hb2, hb3, hb4⟩ := field_bytes h3
  have hc' := u8_wf hc
  obtain ⟨hx0, hx1⟩ := u8_wf hx
  obtain ⟨x, rfl⟩ := Int.eq_ofNat_of_zero_le hx0
  exact ⟨⟨⟨k, co, x, l⟩, A3, c3⟩, rfl, by simp only; omega, hc', hb1, hb2, hb3, hb4⟩

def fewB (ms : List Em) : Bool := ms.all (fun m => decide (m.e.bytes.length ≤ 300)) && decide (ms.length ≤ 60)
set_option maxRecDepth 100000 in
set_option maxHeartbeats 2000000 in
theorem few_any (A : Option Addr) (c : Nat) (ms : List Em) (hn : ms.length ≤ maxLen) (w : World) (hr : Rd w 4 A ms.length (ms.flatMap Em.enc)) (hm : ∀ m ∈ ms, m.ok w) :
    Calls Try.prog 28 #[.slice A ms.length c] w (Ret (.bool (fewB ms)) w) := by
  unfold maxLen at hn
  have HR := Lib.hid (fun w' (h : Ext w w') => Rd_ext h hr)
  have HM := Lib.hid hm
  clear hr hm
  go_enter Try.func28, Try.ntmps28
  go_wp2_with fail
  go_loopw [4, 7] (fun _ v wr => ∃ k : Nat, k ≤ ms.length ∧ v = .int .i64 k ∧ Hid ((ms.take k).all (fun m => decide (m.e.bytes.length ≤ 300)) = true) ∧ Hid (Ext w wr)) (fun _ v _ => ms.length - (intOf v).toNat)
  case atStart => exact ⟨0, Nat.zero_le _, rfl, rfl, Ext_refl w⟩
  case round =>
    obtain ⟨k, hk, rfl, HA, HX⟩ := hrel
    by_cases hlt : k < ms.length
    · obtain ⟨g, q, rfl, hc⟩ := (HR.out _ HX.out).elem Em.enc (fun _ => rfl) hlt (List.getElem?_eq_getElem hlt)
      have hmk := HM.out ms[k] (List.getElem_mem hlt)
      have HE := Lib.hid (take_get (List.getElem?_eq_getElem hlt))
      have HIn := Lib.hid (List.getElem_mem hlt)
      generalize ms[k] = m at hc hmk HE HIn
      obtain ⟨⟨kd, co, x, l⟩, A3, c3⟩ := m
      have c0 := hc 0 _ rfl
      have c1 := hc 1 _ rfl
      have c2 := hc 2 _ rfl
      have c3' := hc 3 _ rfl
      simp only [Nat.add_zero] at c0 c1 c2 c3'
      have hll : l.length ≤ maxLen := hmk.2.2.2.1
      unfold maxLen at hll
      clear hc hmk
      by_cases h3 : 300 < l.length
      · have HF : Hid (fewB ms = false) := Lib.hid (by
          unfold fewB
          rw [Bool.and_eq_false_iff]
          left
          rw [List.all_eq_false]
          refine ⟨_, HIn.out, ?_⟩
          simp only [decide_eq_true_eq]; omega)
        rw [HF.out]
        go_wp2_with fail
        go_ret
        exact ⟨rfl, Ext_alloc HX.out⟩
      · have h3' : l.length ≤ 300 := by omega
        clear h3
        go_wp2_with fail
        go_roundw
        case rel => exact ⟨k + 1, by omega, by go_num, Lib.hid (by rw [HE.out, List.all_append, HA.out]; simp [h3']), Ext_alloc HX.out⟩
        case measure => simp [intOf]; omega
    · have : k = ms.length := by omega
      subst this
      have HF : Hid (fewB ms = decide (ms.length ≤ 60)) := Lib.hid (by
        have := HA.out
        rw [List.take_length] at this
        unfold fewB
        rw [this]; rfl)
      go_wp2_with fail
      go_ret
      exact ⟨by rw [HF.out]; simp; omega, HX.out⟩

set_option maxRecDepth 100000 in
set_option maxHeartbeats 1000000 in
theorem as_any (k co x : Int) (A : Option Addr) (n c : Nat) (w : World) :
    Calls Try.prog 33 #[.agg #[.int .i64 k, .int .u8 co, .int .u8 x, .slice A n c]] w (Ret (.agg #[.int .i64 k, .int .u8 co, .int .u8 x, .slice A n c]) w) := by
  go_enter Try.func33, Try.ntmps33
  go_wp2_with fail
  refine bodyPost_ret (v := .agg #[.int .i64 k, .int .u8 co, .int .u8 x, .slice A n c]) (by simp [results, Try.results33, go_sem]) rfl ⟨rfl, ?_⟩
  repeat' (first | exact Ext_refl _ | (apply Ext_alloc) | (refine Ext_set ?_ ?_) | (simp; done) | (simp; omega))
/-! ### the document's New -/
theorem bt_nums {s : ByteArray} {i : Nat} (h : i < s.size) : ∃ x, (numsOf s)[i]? = some x ∧ bt s (i : Int) = x ∧ 0 ≤ x ∧ x < 256 ∧ numsOf (s.extract i (i + 1)) = [x] := by
  have hx : (numsOf s)[i]? = some _ := List.getElem?_eq_getElem (by rw [numsOf_length]; exact h)
  refine ⟨_, hx, ?_, (numsOf_bd hx).1, (numsOf_bd hx).2, ?_⟩
  · unfold bt
    rw [dif_pos (by simpa using h)]
    unfold numsOf
    simp
    rfl
  · unfold numsOf
    rw [ByteArray.data_extract, Array.toList_extract, List.extract_eq_take_drop]
    have h2 : i < s.data.toList.length := by rw [Array.length_toList]; exact h
    rw [List.map_take, List.map_drop, show i + 1 - i = 1 from by omega]
    rw [List.drop_eq_getElem_cons (by rw [List.length_map]; exact h2)]
    rfl
theorem numsOf_append (a b : ByteArray) : numsOf (a ++ b) = numsOf a ++ numsOf b := by
  unfold numsOf
  rw [ByteArray.data_append, Array.toList_append, List.map_append]
theorem numsOf_inj {a b : ByteArray} (h : numsOf a = numsOf b) : a = b := by
  have h1 : a.data.toList = b.data.toList := by
    unfold numsOf at h
    have := List.map_inj_right (l := a.data.toList) (l' := b.data.toList) (f := fun b : UInt8 => (b.toNat : Int)) (fun x y e => by
      have e2 : (x.toNat : Int) = (y.toNat : Int) := e
      have e' : x.toNat = y.toNat := by omega
      exact UInt8.toNat_inj.1 e')
    exact this.1 h
  have h2 : a.data = b.data := Array.toList_inj.1 h1
  cases a; cases b; cases h2; rfl
theorem name_loop (s : ByteArray) (hs : s.size ≤ 1000) : ∀ (d i k : Nat) (acc : ByteArray), 16 = i + d → 2 * d + 2 ≤ k → numsOf acc = ((numsOf s).take i).map seeB → ∃ r, PTalkPlays.greenscreenref07_Name.l0 k s acc (i : Int) = some r ∧ numsOf r = cleanL s := by
  intro d
  induction d with
  | zero =>
    intro i k acc hi hk ha
    obtain ⟨k, rfl⟩ : ∃ m, k = m + 2 := ⟨k - 2, by omega⟩
    have hi' : i = 16 := by omega
    subst hi'
    refine ⟨acc, ?_, ha⟩
    simp only [PTalkPlays.greenscreenref07_Name.l0]
    by_cases hlt : ((16 : Nat) : Int) < (s.size : Int)
    · rw [if_pos hlt, show decide (((16 : Nat) : Int) < 16) = false from by decide]
      simp only [PTalkPlays.greenscreenref07_Name.j1]
      simp
    · rw [if_neg hlt]
      simp only [PTalkPlays.greenscreenref07_Name.j1]
      simp
  | succ d ih =>
    intro i k acc hi hk ha
    obtain ⟨k, rfl⟩ : ∃ m, k = m + 2 := ⟨k - 2, by omega⟩
    by_cases hlt : i < s.size
    · obtain ⟨x, hx, hb, hx0, hx1, hxe⟩ := bt_nums hlt
      have hw : wrap64 ((i : Int) + 1) = ((i + 1 : Nat) : Int) := by unfold wrap64; omega
      have hsz : acc.size ≤ 16 := by rw [← numsOf_length, ha, List.length_map, List.length_take]; omega
      have hse : (s.extract i (i + 1)).size = 1 := by rw [← numsOf_length, hxe]; rfl
      have ht : ((numsOf s).take (i + 1)).map seeB = ((numsOf s).take i).map seeB ++ [seeB x] := by rw [take_get hx, List.map_append]; rfl
      simp only [PTalkPlays.greenscreenref07_Name.l0]
      rw [if_pos (by omega), decide_eq_true (show ((i : Nat) : Int) < 16 by omega)]
      simp only [PTalkPlays.greenscreenref07_Name.j1, if_true]
      rw [if_pos (by omega), if_pos (by omega), hb, hw]
      have hto : ((i : Nat) : Int).toNat = i := by omega
      have hto2 : (((i + 1 : Nat)) : Int).toNat = i + 1 := by omega
      rw [hto, hto2]
      by_cases h33 : x ≥ 33
      · rw [if_pos h33]
        by_cases h126 : x ≤ 126
        · rw [if_pos h126, if_pos (by omega), if_pos (by omega), if_pos (by rw [hse]; omega)]
          exact ih (i + 1) k _ (by omega) (by omega) (by rw [numsOf_append, ha, hxe, ht, show seeB x = x from if_neg (by omega)])
        · rw [if_neg h126, if_pos (by omega)]
          exact ih (i + 1) k _ (by omega) (by omega) (by rw [numsOf_append, ha, ht, show seeB x = 63 from if_pos (by omega)]; rfl)
      · rw [if_neg h33, if_pos (by omega)]
        exact ih (i + 1) k _ (by omega) (by omega) (by rw [numsOf_append, ha, ht, show seeB x = 63 from if_pos (by omega)]; rfl)
    · refine ⟨acc, ?_, ?_⟩
      · simp only [PTalkPlays.greenscreenref07_Name.l0]
        rw [if_neg (by omega)]
        simp only [PTalkPlays.greenscreenref07_Name.j1]
        simp
      · rw [ha]
        unfold cleanL
        rw [List.take_of_length_le (by rw [numsOf_length]; omega), List.take_of_length_le (by rw [numsOf_length]; omega)]
theorem name_f (s : ByteArray) (hs : s.size ≤ 1000) : PTalkPlays.greenscreenref07_Name.f 40 s = some (cleanS s) := by
  obtain ⟨r, h1, h2⟩ := name_loop s hs 16 0 40 ⟨#[]⟩ (by omega) (by omega) rfl
  have : r = cleanS s := numsOf_inj (by rw [h2, numsOf_cleanS])
  unfold PTalkPlays.greenscreenref07_Name.f
  rw [← this]; exact h1
theorem refNew_any (s : ByteArray) (hs : s.size ≤ 1000) (ext : Bool) (w : World) :
    Calls Try.prog 30 #[.string s, .bool ext] w fun e w' => ∃ A c A1 c1 A2 c2, e = .returned (.agg #[.string (cleanS s), .slice A 0 c, .slice A1 (oursL ext).length c1, .slice A2 2 c2, .bool false]) ∧ Rd w' 1 A1 (oursL ext).length (u8s (oursL ext)) ∧ Rd w' 1 A2 2 (u8s [0, 25]) ∧ Fresh w.heap.size A ∧ Fresh w.heap.size A1 ∧ Fresh w.heap.size A2 ∧ Ext w w' := by
  refine (PTalkPlays.greenscreenref07_New.calls 40 s ext (cleanS s) [] (oursL ext) [0, 25] false w ?_).mono ?_
  · unfold PTalkPlays.greenscreenref07_New.f oursL
    rw [name_f s hs]
    cases ext <;> rfl
  · rintro e w' ⟨v1, v2, v3, rfl, h1, h2, h3, hb⟩
    obtain ⟨A1, c1, rfl, _, r1, f1⟩ := Bts_of_R h2
    obtain ⟨A2, c2, rfl, _, r2, f2⟩ := Bts_of_R h3
    obtain ⟨_, inner, ho, _⟩ := h1
    have hf : ∃ A c, v1 = .slice A 0 c ∧ Fresh w.heap.size A := by
      rcases ho.2 with ⟨rfl, _⟩ | ⟨g, cap, cur, rfl, hg, _⟩
      · exact ⟨none, 0, rfl, Fresh.none_ _⟩
      · exact ⟨_, _, rfl, Fresh.some_ hg⟩
    obtain ⟨A, c, rfl, hfA⟩ := hf
    exact ⟨A, c, A1, c1, A2, c2, rfl, r1, r2, hfA, f1, f2, hb⟩
end Go.Proofs.Ytioaenidkieiiaa
