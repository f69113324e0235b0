/- A drawn region: its first operations read and call what lays blocks alone; the rest follow one by one. -/
import Derived.Test.YtmldhgebbgalbaaRL
import Derived.Lib.QuietBelow
import Derived.BigQuiet
import Derived.StillTail
namespace Go.Proofs.Ytmldhgebbgalbaa
set_option linter.unusedVariables false
set_option linter.unusedSimpArgs false
open Go.Sort Go.RowKit
section
variable {P : Program} {ops : Array Oper} {md : Region.Mode} {C : World → Prop}
theorem lexQp {Q : Act → Prop} (hs : Region.noSelect ops = true) : ∀ (l : List Oper) (k : Nat) (listed : Array Bool) (a : Act), (∀ j o, l[j]? = some o → ops[k + j]? = some o) →
    Region.lexFrom md ops l.length k listed = true → wpQuiet P ops C Q l a → wpAnyQ P md ops C Q l.length listed a
  | [], _, _, _, _, hB, h => ⟨by simpa [Region.lexFrom] using hB, h⟩
  | o :: l, k, listed, a, hl, hB, h => by
    have h0 : ops[k]? = some o := by simpa using hl 0 o rfl
    simp only [List.length_cons, Region.lexFrom, Bool.and_eq_true] at hB
    obtain ⟨⟨hr, hf⟩, hB'⟩ := hB
    have hst : qOp P ops C k (wpQuiet P ops C Q l) a := by unfold qOp; simp only [h0]; exact h
    obtain ⟨v, hy, hK⟩ := yieldsIn_of_qOp h0 hst
    exact wpAnyQ_first h0 (Region.noSelect_spec hs) l.length listed a (Region.free_spec h0 hf) (by simpa using hr) hy
      (lexQp hs l (k + 1) _ _ (fun j p hp => by have := hl (j + 1) p (by simpa using hp); simpa [Nat.add_assoc, Nat.add_comm 1 j] using this) hB' hK)
theorem chainP {Q : Exit → Act → World → Prop} : ∀ (m : List Oper) (k : Nat) (listed : Array Bool) (a : Act) (w : World), (∀ j o, m[j]? = some o → ops[k + j]? = some o) →
    chainB md ops m.length k listed = true → wpList P ops Q m a w → wpAny P md ops Q m.length listed a w
  | [], k, listed, a, w, hl, hB, h => ⟨by simpa [chainB] using hB, h⟩
  | o :: m, k, listed, a, w, hl, hB, h => by
    have h0 : ops[k]? = some o := by simpa using hl 0 o rfl
    simp only [List.length_cons, chainB, Bool.and_eq_true, decide_eq_true_eq] at hB
    obtain ⟨hr, hB'⟩ := hB
    have hl' : ∀ j p, m[j]? = some p → ops[k + 1 + j]? = some p := fun j p hp => by have := hl (j + 1) p (by simpa using hp); simpa [Nat.add_assoc, Nat.add_comm 1 j] using this
    refine ⟨fun h1 => (by rw [hr] at h1; cases h1), fun i hi => ?_⟩
    rw [hr] at hi
    rw [List.mem_singleton.1 hi]
    unfold wpOp
    simp only [h0]
    unfold wpList at h
    split
    · rename_i hw
      rw [if_pos hw] at h
      exact h.imp (fun h => Oper.wp_mono (fun a w hh => chainP m (k + 1) _ a w hl' hB' hh) h) id
    · rename_i hw
      rw [if_neg hw] at h
      exact chainP m (k + 1) _ _ w hl' hB' h
theorem moreP1 {Q : Exit → Act → World → Prop} : ∀ (m : Nat) (listed : Array Bool) (a : Act) (w : World), wpAny P md ops Q m listed a w → wpAny P md ops Q (m + 1) listed a w
  | 0, listed, a, w, h => ⟨fun _ => h.2, fun i hi => by rw [h.1] at hi; cases hi⟩
  | m + 1, listed, a, w, h => ⟨h.1, fun i hi => wpOp_mono (fun a w hh => moreP1 m _ a w hh) (h.2 i hi)⟩
theorem moreP {Q : Exit → Act → World → Prop} : ∀ (x m : Nat) (listed : Array Bool) (a : Act) (w : World), wpAny P md ops Q m listed a w → wpAny P md ops Q (m + x) listed a w
  | 0, m, listed, a, w, h => h
  | x + 1, m, listed, a, w, h => moreP1 _ _ _ _ (moreP x m listed a w h)
theorem quiet_chainP {Qm : Act → Prop} {Q' : Exit → Act → World → Prop} (k m : Nat) (hb : backB ops = true) (hk : k + m = ops.size) (hkk : k < ops.size) (hws : Region.sinkB md ops k = true) (hwc : Region.chainB md ops k = true)
    (hQ : ∀ a w, C w → Qm a → wpAny P md ops Q' m ((Array.replicate k true) ++ (Array.replicate m false)) a w) :
    ∀ (fuel : Nat) (listed marked : Array Bool) (a : Act) (w : World), C w → HeadInv md ops k listed → listed.size = ops.size → marked.size = ops.size → (∀ j, k ≤ j → j < ops.size → listed.getD j true = false ∧ marked.getD j true = true) → (∀ j, j < k → listed.getD j true = marked.getD j true) →
      wpAnyQ P md ops C Qm fuel marked a → wpAny P md ops Q' (fuel + m) listed a w := by
  have eqL : ∀ (listed : Array Bool), listed.size = ops.size → (∀ j, k ≤ j → j < ops.size → listed.getD j true = false) → (∀ j, j < k → listed.getD j true = true) → listed = (Array.replicate k true) ++ (Array.replicate m false) := fun listed hs h1 h2 => by
    refine Array.ext (by simp; omega) (fun i hi hi2 => ?_)
    have hg : listed.getD i true = listed[i] := by simp [hi]
    rw [← hg]
    by_cases h : i < k
    · rw [h2 i h, Array.getElem_append_left (by simpa using h)]
      simp
    · rw [h1 i (by omega) (by omega), Array.getElem_append_right (by simp; omega)]
      simp
  intro fuel
  induction fuel with
  | zero =>
    intro listed marked a w hC inv hs1 hs2 hL hM h
    rw [Nat.zero_add]
    have hall : ∀ j, j < k → marked.getD j true = true := fun j hj => by
      rcases Bool.eq_false_or_eq_true (marked.getD j true) with h1 | h1
      · exact h1
      · obtain ⟨i, _, hi⟩ := ready_some (md := md) hb hs2 h1
        rw [h.1] at hi
        cases hi
    rw [eqL listed hs1 (fun j h1 h2 => (hL j h1 h2).1) (fun j hj => (hM j hj).trans (hall j hj))]
    exact hQ a w hC h.2
  | succ fuel ih =>
    intro listed marked a w hC inv hs1 hs2 hL hM h
    by_cases hall : ∀ j, j < k → marked.getD j true = true
    · have hr : Region.ready md ops marked = [] := by
        cases hr : Region.ready md ops marked with
        | nil => rfl
        | cons i r =>
          have hi : i ∈ Region.ready md ops marked := by rw [hr]; exact List.mem_cons_self
          obtain ⟨h0, o, ho, _⟩ := mem_ready.1 hi
          have hio := (Array.getElem?_eq_some_iff.1 ho).1
          by_cases hik : i < k
          · rw [hall i hik] at h0; cases h0
          · rw [(hL i (by omega) hio).2] at h0; cases h0
      rw [eqL listed hs1 (fun j h1 h2 => (hL j h1 h2).1) (fun j hj => (hM j hj).trans (hall j hj))]
      have := hQ a w hC (h.1 hr)
      rw [show fuel + 1 + m = m + (fuel + 1) by omega]
      exact moreP (fuel + 1) m _ a w this
    · obtain ⟨j, hn⟩ := Classical.not_forall.1 hall
      obtain ⟨hj, hn⟩ := Classical.not_imp.1 hn
      have hjf : marked.getD j true = false := by simpa using hn
      have hlf : listed.getD j true = false := (hM j hj).trans hjf
      rw [show fuel + 1 + m = (fuel + m) + 1 by omega]
      refine ⟨fun h0 => ?_, fun i hi => ?_⟩
      · obtain ⟨i, _, hi⟩ := ready_some (md := md) hb hs1 hlf
        rw [h0] at hi
        cases hi
      · obtain ⟨h0, o, ho, hwait⟩ := mem_ready.1 hi
        have hio := (Array.getElem?_eq_some_iff.1 ho).1
        have hgd : ∀ (x : Nat), x < ops.size → listed.getD x true = false → listed.getD x false = false := fun x hx hf => by
          have hx2 : x < listed.size := by omega
          simp [hx2] at hf ⊢
          exact hf
        have hik : i < k := by
          rcases Nat.lt_or_ge i k with h1 | h1
          · exact h1
          · exact absurd hi (tail_waits hws hwc hkk inv (k - j) j rfl hj hlf i h1)
        have hi2 : i ∈ Region.ready md ops marked := mem_ready.2 ⟨(hM i hik).symm.trans h0, o, ho, fun e he hbd => by
          have h1 := hwait e he hbd
          have h2 := (backB_spec hb ho).1 e he
          have h3 := hM e.on (by omega)
          have x1 : e.on < listed.size := by omega
          have x2 : e.on < marked.size := by omega
          simp [x1, x2] at h1 h3 ⊢
          rw [← h3]; exact h1⟩
        refine wpOp_of_qOp (C := C) hC (fun a' w' hw' hq => ih (listed.setIfInBounds i true) (marked.setIfInBounds i true) a' w' hw' (inv.set hi hik) (by simp [hs1]) (by simp [hs2]) ?_ ?_ hq) (h.2 i hi2)
        · intro j' h1 h2
          rw [getD_set_ne true (by omega), getD_set_ne true (by omega)]
          exact hL j' h1 h2
        · intro j' h1
          by_cases e : i = j'
          · subst e
            have x1 : i < listed.size := by omega
            have x2 : i < marked.size := by omega
            simp [x1, x2]
          · rw [getD_set_ne true e, getD_set_ne true e]
            exact hM j' h1
/-- the law: the first k operations only read; the others follow one by one -/
theorem wp_region_chain_below {id : Nat} {Q : Exit → Act → World → Prop} {a : Act} {w : World} {l : List Oper} (k : Nat) (hm : P.follows .mixedOrders = true)
    (hB : (Region.noSelect l.toArray && backB l.toArray && Region.sinkB .any l.toArray k && Region.chainB .any l.toArray k && decide (k < l.length) &&
      Region.lexFrom .any l.toArray k 0 ((Array.replicate k false) ++ (Array.replicate (l.length - k) true)) && chainB .any l.toArray (l.length - k) k ((Array.replicate k true) ++ (Array.replicate (l.length - k) false))) = true)
    (h : wpQuiet P l.toArray (fun w' => ∃ p : Regrown, w' = grow (redrawn w p.d) p.os) (fun a' => ∀ w', (∃ p : Regrown, w' = grow (redrawn w p.d) p.os) → wpList P l.toArray Q (l.drop k) a' w') (l.take k) a) : (Code.region id l.toArray true).wp P Q a w := by
  simp only [Bool.and_eq_true, decide_eq_true_eq] at hB
  obtain ⟨⟨⟨⟨⟨⟨h1, h2⟩, h3⟩, h3'⟩, h4⟩, h5⟩, h6⟩ := hB
  refine wp_region_any hm ?_
  have hl : (l.take k).length = k := by rw [List.length_take]; omega
  have hl2 : (l.drop k).length = l.length - k := List.length_drop ..
  have hq := lexQp (C := fun w' => ∃ p : Regrown, w' = grow (redrawn w p.d) p.os) (md := .any) h1 (l.take k) 0 ((Array.replicate k false) ++ (Array.replicate (l.length - k) true)) a
    (fun j o ho => by
      rw [List.getElem?_take] at ho
      split at ho
      · simpa using ho
      · cases ho) (by rw [hl]; exact h5) h
  have hz : l.toArray.size = k + (l.length - k) := by simp; omega
  rw [hl] at hq
  rw [hz]
  have hr : Array.replicate (k + (l.length - k)) false = (Array.replicate k false) ++ (Array.replicate (l.length - k) false) := by
    refine Array.ext (by simp) (fun i hi hi2 => ?_)
    by_cases hc : i < k
    · rw [Array.getElem_append_left (by simpa using hc)]; simp
    · rw [Array.getElem_append_right (by simp; omega)]; simp
  refine quiet_chainP k (l.length - k) h2 (by simp; omega) (by simpa using h4) h3 h3' (Qm := fun a' => ∀ w', (∃ p : Regrown, w' = grow (redrawn w p.d) p.os) → wpList P l.toArray Q (l.drop k) a' w') (fun a w' hw' hh => ?_) k _ _ a _ ⟨⟨w.drawn + 1, #[]⟩, by rw [grow_empty]; rfl⟩ ⟨by simp; omega, fun j oj hj hl => ?_, fun t h1 h2 => ?_⟩ (by simp; omega) (by simp; omega) ?_ ?_ hq
  · have := chainP (md := .any) (ops := l.toArray) (Q := Q) (l.drop k) k ((Array.replicate k true) ++ (Array.replicate (l.length - k) false)) a w' (fun j o ho => by
      rw [List.getElem?_drop] at ho
      simpa using ho) (by rw [hl2]; exact h6) (hh w' hw')
    rw [hl2] at this
    exact this
  · rw [getD_replicate_false] at hl
    cases hl
  · have : t < (Array.replicate (k + (l.length - k)) false).size := by simp at h2; simp; omega
    rw [Array.getD, dif_pos this]
    show (Array.replicate (k + (l.length - k)) false)[t] = false
    simp
  · intro j hj1 hj2
    simp at hj2
    refine ⟨?_, ?_⟩
    · have : j < (Array.replicate (k + (l.length - k)) false).size := by simp; omega
      rw [Array.getD, dif_pos this]; simp
    · have : j < ((Array.replicate k false) ++ (Array.replicate (l.length - k) true)).size := by simp; omega
      rw [Array.getD, dif_pos this]
      show ((Array.replicate k false) ++ (Array.replicate (l.length - k) true))[j] = true
      rw [Array.getElem_append_right (by simp; omega)]; simp
  · intro j hj
    have x1 : j < (Array.replicate (k + (l.length - k)) false).size := by simp; omega
    have x2 : j < ((Array.replicate k false) ++ (Array.replicate (l.length - k) true)).size := by simp; omega
    rw [Array.getD, dif_pos x1, Array.getD, dif_pos x2]
    show (Array.replicate (k + (l.length - k)) false)[j] = ((Array.replicate k false) ++ (Array.replicate (l.length - k) true))[j]
    rw [Array.getElem_append_left (by simpa using hj)]; simp
end
end Go.Proofs.Ytmldhgebbgalbaa
