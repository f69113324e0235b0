/- The names of talk: a name as it can be told. -/
import Derived.Test.YtioaenidkieiiaaL6b
import Derived.Lib.ConvBytes
import Derived.Laws.BytesArg
import Derived.LoopN
namespace Go.Proofs.Ytioaenidkieiiaa
set_option linter.unusedVariables false
set_option linter.unusedSimpArgs false
open Go.RowKit Go.Shelf

def seeB (c : Int) : Int := if c < 33 ∨ 126 < c then 63 else c
def numsOf (s : ByteArray) : List Int := s.data.toList.map fun b => (b.toNat : Int)
def cleanL (s : ByteArray) : List Int := ((numsOf s).take 16).map seeB
def cleanS (s : ByteArray) : ByteArray := strOfNums (cleanL s)
theorem numsOf_length (s : ByteArray) : (numsOf s).length = s.size := by simp [numsOf]
theorem numsOf_bd {s : ByteArray} {k : Nat} {x : Int} (h : (numsOf s)[k]? = some x) : 0 ≤ x ∧ x < 256 := by
  unfold numsOf at h
  rw [List.getElem?_map] at h
  cases hb : s.data.toList[k]? with
  | none => rw [hb] at h; cases h
  | some b =>
    rw [hb] at h
    simp only [Option.map_some, Option.some.injEq] at h
    have := b.toNat_lt
    omega

/-- bytes that lie in a block from its head, and may be written -/
def RwB (w : World) (g : Nat) (l : List Int) : Prop := ∀ j x, l[j]? = some x → w.cell? ⟨g, j, none⟩ = some (.int .u8 x) ∧ w.frozen? ⟨g, j, none⟩ = false
theorem RwB.put {w : World} {g k : Nat} {l l' : List Int} {x : Int} (h : RwB w g l) (hl : l' = l.set k x) (hk : k < l.length) : RwB (w.setCell ⟨g, k, none⟩ (.int .u8 x)) g l' := by
  subst hl
  intro j y hj
  rw [List.getElem?_set] at hj
  by_cases e : k = j
  · subst e
    rw [if_pos rfl, if_pos hk] at hj
    obtain ⟨y0, hy0⟩ : ∃ y0, l[k]? = some y0 := ⟨_, List.getElem?_eq_getElem hk⟩
    have h0 := h k y0 hy0
    cases hj
    exact ⟨World.cell?_setCell_same _ _ _ h0.1, by rw [World.frozen?_setCell]; exact h0.2⟩
  · rw [if_neg e] at hj
    have h0 := h j y hj
    exact ⟨(World.cell?_setCell_other (w := w) (v := .int .u8 x) (a := ⟨g, k, none⟩) (b := ⟨g, j, none⟩) (fun he => e (by injection he))).trans h0.1, by rw [World.frozen?_setCell]; exact h0.2⟩
theorem RwB.same {w : World} {g k : Nat} {l : List Int} {x : Int} (h : RwB w g l) (hx : l[k]? = some x) : RwB w g (l.set k x) := by
  have : l.set k x = l := by
    apply List.ext_getElem?
    intro j
    rw [List.getElem?_set]
    by_cases e : k = j
    · subst e
      rw [if_pos rfl, hx]
      rw [if_pos (List.getElem?_eq_some_iff.1 hx).1]
    · rw [if_neg e]
  rw [this]; exact h
def mixL (k : Nat) (l : List Int) : List Int := (l.take k).map seeB ++ l.drop k
theorem mixL_length (k : Nat) (l : List Int) : (mixL k l).length = l.length := by unfold mixL; simp; omega
theorem mixL_get (k : Nat) (l : List Int) (j : Nat) : (mixL k l)[j]? = if j < k then (l[j]?).map seeB else l[j]? := by
  unfold mixL
  by_cases hk : k ≤ l.length
  · by_cases h : j < k
    · rw [if_pos h, List.getElem?_append_left (by simp; omega), List.getElem?_map, List.getElem?_take, if_pos h]
    · rw [if_neg h, List.getElem?_append_right (by simp; omega), List.getElem?_drop]
      congr 1
      simp
      omega
  · rw [List.drop_of_length_le (by omega), List.append_nil, List.take_of_length_le (by omega), List.getElem?_map]
    split
    · rfl
    · rw [List.getElem?_eq_none (by omega)]; rfl
theorem mixL_set {k : Nat} {l : List Int} {x : Int} (hx : l[k]? = some x) (hk : k < l.length) : mixL (k + 1) l = (mixL k l).set k (seeB x) := by
  apply List.ext_getElem?
  intro j
  rw [mixL_get, List.getElem?_set, mixL_get, mixL_length]
  by_cases e : k = j
  · subst e
    rw [if_pos (by omega), if_pos rfl, if_pos hk, hx]; rfl
  · rw [if_neg e]
    by_cases h : j < k
    · rw [if_pos (by omega), if_pos h]
    · rw [if_neg (by omega), if_neg h]

set_option maxRecDepth 100000 in
set_option maxHeartbeats 4000000 in
theorem clean_any (s : ByteArray) (hs : s.size ≤ 140737488351232) (w : World) : Calls Try.prog 54 #[.string s] w (Ret (.string (cleanS s)) w) := by
  have kb := fun (u : ByteArray) (W : World) => Lib.run_convert_string_bytes (P := Try.prog) W 9 22 5 u Try.underlying9 Try.underlying22 Try.underlying5
  by_cases h16 : s.size ≤ 16
  · go_enter Try.func54, Try.ntmps54
    go_wp2_with fail
    have HCL : Hid (strOfNums ((numsOf s).map seeB) = cleanS s) := Lib.hid (by unfold cleanS cleanL; rw [List.take_of_length_le (by rw [numsOf_length]; exact h16)])
    generalize grownCap w s.size 0 5 = cap at *
    have hE : Ext w (Lib.bytesWorld w 5 s) := ⟨rfl, rfl, rfl, by rw [Lib.bytesWorld_size]; omega, fun i hi => Lib.bytesWorld_at_old w 5 s i hi⟩
    have hR : RwB (Lib.bytesWorld w 5 s) w.heap.size (mixL 0 (numsOf s)) := by
      intro j x hj
      have hjl : j < s.size := by rw [← numsOf_length]; exact (List.getElem?_eq_some_iff.1 hj).1
      refine ⟨?_, ?_⟩
      · rw [Lib.bytesWorld_cell w 5 s j hjl]
        have h2 : j < s.data.toList.length := by rw [Array.length_toList]; exact hjl
        unfold mixL numsOf at hj
        simp only [List.take_zero, List.map_nil, List.drop_zero, List.nil_append, List.getElem?_map, List.getElem?_eq_getElem h2, Option.map_some, Option.some.injEq] at hj
        rw [List.getD_eq_getElem?_getD, List.getElem?_eq_getElem h2]
        subst hj
        rfl
      · have h3 := Lib.bytesWorld_at_new w 5 s
        have h4 : (Lib.bytesCells w 5 s).size = s.size + (grownCap w s.size 0 5 - s.size) := by
          unfold Lib.bytesCells
          rw [Array.size_append, Array.size_map, Array.size_replicate]
          rfl
        unfold World.frozen?
        simp only [h3]
        simp
        omega
    have HE := Lib.hid hE
    have HR := Lib.hid hR
    have hg : w.heap.size ≤ w.heap.size := Nat.le_refl _
    clear hE hR kb
    generalize Lib.bytesWorld w 5 s = W0 at *
    go_loopw [4, 5, 14] (fun _ _ v wr => ∃ k : Nat, k ≤ s.size ∧ v = .int .i64 k ∧ Hid (RwB wr w.heap.size (mixL k (numsOf s))) ∧ Hid (Ext w wr)) (fun _ _ v _ => s.size - (intOf v).toNat)
    case atStart => exact ⟨0, Nat.zero_le _, rfl, HR.out, HE.out⟩
    case round =>
      clear HR HE
      obtain ⟨k, hk, rfl, HR, HX⟩ := hrel
      by_cases hlt : k < s.size
      · have hkn : k < (numsOf s).length := by rw [numsOf_length]; exact hlt
        obtain ⟨x, hx⟩ : ∃ x, (numsOf s)[k]? = some x := ⟨_, List.getElem?_eq_getElem hkn⟩
        have hr := HR.out k x (by rw [mixL_get, if_neg (by omega)]; exact hx)
        have hx0 := numsOf_bd hx
        have H2 := Lib.hid (mixL_set hx (show k < (numsOf s).length from hkn))
        have HX0 := Lib.hid hx
        obtain ⟨hr1, hr2⟩ := hr
        clear hx
        by_cases hsx : x < 33 ∨ 126 < x
        · have hse := Lib.hid (show seeB x = 63 from if_pos hsx)
          by_cases h1 : x < 33
          · go_wp2_with fail
            go_roundw
            case rel => exact ⟨k + 1, by omega, by go_num, RwB.put HR.out (by rw [← hse.out]; exact H2.out) (by rw [mixL_length]; exact hkn), Ext_set HX.out (Nat.le_refl _)⟩
            case measure => simp [intOf]; omega
          · have h2 : 126 < x := by omega
            go_wp2_with fail
            go_roundw
            case rel => exact ⟨k + 1, by omega, by go_num, RwB.put HR.out (by rw [← hse.out]; exact H2.out) (by rw [mixL_length]; exact hkn), Ext_set HX.out (Nat.le_refl _)⟩
            case measure => simp [intOf]; omega
        · have hse := Lib.hid (show seeB x = x from if_neg hsx)
          have h1 : ¬ x < 33 := by omega
          have h2 : ¬ 126 < x := by omega
          clear hsx
          go_wp2_with fail
          go_roundw
          case rel => exact ⟨k + 1, by omega, by go_num, by rw [H2.out, hse.out]; exact RwB.same HR.out (by rw [mixL_get, if_neg (by omega)]; exact HX0.out), HX.out⟩
          case measure => simp [intOf]; omega
      · have hk2 : k = s.size := by omega
        subst hk2
        have hm : mixL s.size (numsOf s) = (numsOf s).map seeB := by unfold mixL; rw [← numsOf_length, List.take_length, List.drop_length, List.append_nil]
        have hc : ∀ i, i < s.size → wr.cell? ⟨w.heap.size, 0 + i, none⟩ = some (.int .u8 (((numsOf s).map seeB).getD i 0)) := by
          intro i hi
          have hil : i < ((numsOf s).map seeB).length := by rw [List.length_map, numsOf_length]; exact hi
          rw [Nat.zero_add, (HR.out i (((numsOf s).map seeB).getD i 0) (by rw [hm, List.getD_eq_getElem?_getD, List.getElem?_eq_getElem hil]; rfl)).1]
        have hcv := run_convert_bytes_arg (P := Try.prog) wr 22 5 Try.underlying22 Try.underlying5 w.heap.size 0 s.size cap _ (by rw [List.length_map, numsOf_length]) hc 9 Try.underlying9
        clear hc hm
        rw [HCL.out] at hcv
        go_wp2_with fail
        go_ret
        exact ⟨rfl, HX.out⟩
  · go_enter Try.func54, Try.ntmps54
    go_wp2_with fail
    have hmin : min 16 s.size = (s.extract 0 16).size := by rw [ByteArray.size_extract]; omega
    have h0 : numsOf (s.extract 0 16) = (numsOf s).take 16 := by unfold numsOf; rw [ByteArray.data_extract, Array.toList_extract, List.extract_eq_take_drop]; simp [List.map_take]
    rw [hmin]
    have HCL : Hid (strOfNums ((numsOf (s.extract 0 16)).map seeB) = cleanS s) := Lib.hid (by unfold cleanS cleanL; rw [h0])
    have hu : (s.extract 0 16).size ≤ 16 := by rw [ByteArray.size_extract]; omega
    clear hmin h0
    generalize s.extract 0 16 = u at *
    generalize grownCap w u.size 0 5 = cap at *
    have hE : Ext w (Lib.bytesWorld w 5 u) := ⟨rfl, rfl, rfl, by rw [Lib.bytesWorld_size]; omega, fun i hi => Lib.bytesWorld_at_old w 5 u i hi⟩
    have hR : RwB (Lib.bytesWorld w 5 u) w.heap.size (mixL 0 (numsOf u)) := by
      intro j x hj
      have hjl : j < u.size := by rw [← numsOf_length]; exact (List.getElem?_eq_some_iff.1 hj).1
      refine ⟨?_, ?_⟩
      · rw [Lib.bytesWorld_cell w 5 u j hjl]
        have h2 : j < u.data.toList.length := by rw [Array.length_toList]; exact hjl
        unfold mixL numsOf at hj
        simp only [List.take_zero, List.map_nil, List.drop_zero, List.nil_append, List.getElem?_map, List.getElem?_eq_getElem h2, Option.map_some, Option.some.injEq] at hj
        rw [List.getD_eq_getElem?_getD, List.getElem?_eq_getElem h2]
        subst hj
        rfl
      · have h3 := Lib.bytesWorld_at_new w 5 u
        have h4 : (Lib.bytesCells w 5 u).size = u.size + (grownCap w u.size 0 5 - u.size) := by
          unfold Lib.bytesCells
          rw [Array.size_append, Array.size_map, Array.size_replicate]
          rfl
        unfold World.frozen?
        simp only [h3]
        simp
        omega
    have HE := Lib.hid hE
    have HR := Lib.hid hR
    have hg : w.heap.size ≤ w.heap.size := Nat.le_refl _
    clear hE hR kb
    generalize Lib.bytesWorld w 5 u = W0 at *
    go_loopw [4, 5, 14] (fun _ _ v wr => ∃ k : Nat, k ≤ u.size ∧ v = .int .i64 k ∧ Hid (RwB wr w.heap.size (mixL k (numsOf u))) ∧ Hid (Ext w wr)) (fun _ _ v _ => u.size - (intOf v).toNat)
    case atStart => exact ⟨0, Nat.zero_le _, rfl, HR.out, HE.out⟩
    case round =>
      clear HR HE
      obtain ⟨k, hk, rfl, HR, HX⟩ := hrel
      by_cases hlt : k < u.size
      · have hkn : k < (numsOf u).length := by rw [numsOf_length]; exact hlt
        obtain ⟨x, hx⟩ : ∃ x, (numsOf u)[k]? = some x := ⟨_, List.getElem?_eq_getElem hkn⟩
        have hr := HR.out k x (by rw [mixL_get, if_neg (by omega)]; exact hx)
        have hx0 := numsOf_bd hx
        have H2 := Lib.hid (mixL_set hx (show k < (numsOf u).length from hkn))
        have HX0 := Lib.hid hx
        obtain ⟨hr1, hr2⟩ := hr
        clear hx
        by_cases hsx : x < 33 ∨ 126 < x
        · have hse := Lib.hid (show seeB x = 63 from if_pos hsx)
          by_cases h1 : x < 33
          · go_wp2_with fail
            go_roundw
            case rel => exact ⟨k + 1, by omega, by go_num, RwB.put HR.out (by rw [← hse.out]; exact H2.out) (by rw [mixL_length]; exact hkn), Ext_set HX.out (Nat.le_refl _)⟩
            case measure => simp [intOf]; omega
          · have h2 : 126 < x := by omega
            go_wp2_with fail
            go_roundw
            case rel => exact ⟨k + 1, by omega, by go_num, RwB.put HR.out (by rw [← hse.out]; exact H2.out) (by rw [mixL_length]; exact hkn), Ext_set HX.out (Nat.le_refl _)⟩
            case measure => simp [intOf]; omega
        · have hse := Lib.hid (show seeB x = x from if_neg hsx)
          have h1 : ¬ x < 33 := by omega
          have h2 : ¬ 126 < x := by omega
          clear hsx
          go_wp2_with fail
          go_roundw
          case rel => exact ⟨k + 1, by omega, by go_num, by rw [H2.out, hse.out]; exact RwB.same HR.out (by rw [mixL_get, if_neg (by omega)]; exact HX0.out), HX.out⟩
          case measure => simp [intOf]; omega
      · have hk2 : k = u.size := by omega
        subst hk2
        have hm : mixL u.size (numsOf u) = (numsOf u).map seeB := by unfold mixL; rw [← numsOf_length, List.take_length, List.drop_length, List.append_nil]
        have hc : ∀ i, i < u.size → wr.cell? ⟨w.heap.size, 0 + i, none⟩ = some (.int .u8 (((numsOf u).map seeB).getD i 0)) := by
          intro i hi
          have hil : i < ((numsOf u).map seeB).length := by rw [List.length_map, numsOf_length]; exact hi
          rw [Nat.zero_add, (HR.out i (((numsOf u).map seeB).getD i 0) (by rw [hm, List.getD_eq_getElem?_getD, List.getElem?_eq_getElem hil]; rfl)).1]
        have hcv := run_convert_bytes_arg (P := Try.prog) wr 22 5 Try.underlying22 Try.underlying5 w.heap.size 0 u.size cap _ (by rw [List.length_map, numsOf_length]) hc 9 Try.underlying9
        clear hc hm
        rw [HCL.out] at hcv
        go_wp2_with fail
        go_ret
        exact ⟨rfl, HX.out⟩
theorem cleanL_length (s : ByteArray) : (cleanL s).length = min 16 s.size := by unfold cleanL; rw [List.length_map, List.length_take, numsOf_length]
theorem cleanS_size (s : ByteArray) : (cleanS s).size = min 16 s.size := by unfold cleanS; rw [strOfNums_size, cleanL_length]
end Go.Proofs.Ytioaenidkieiiaa
