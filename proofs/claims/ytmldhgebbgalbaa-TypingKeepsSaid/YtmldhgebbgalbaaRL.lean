/- A drawn region inside a round: its first operations only read, the rest follow one by one. -/
import Derived.Sort.QuietTacIn
import Derived.OwnWalkIn
namespace Go.Proofs.Ytmldhgebbgalbaa
set_option linter.unusedVariables false
set_option linter.unusedSimpArgs false
section
variable {F : Fence} {n : Nat} {P : Program} {ops : Array Oper} {md : Region.Mode} {C : World → Prop}
theorem wpOpIn_quiet {i : Nat} {a : Act} {K : Act → Prop} {K' : Act → World → Prop} {Q' : Exit → Act → World → Prop} {w : World} (hd : ∀ o, ops[i]? = some o → ∀ c, o.op ≠ .defer c) (hC : C w) (h : ∀ a w', C w' → K a → K' a w')
    (hh : qOpIn F n P ops C i K a) : wpOpIn F n P ops Q' i K' a w := by
  unfold qOpIn at hh
  unfold wpOpIn
  split
  · rename_i ho; simp only [ho] at hh; exact h _ _ hC hh
  · rename_i o ho
    simp only [ho] at hh
    obtain ⟨ha, hh⟩ := hh
    split
    · rename_i hw
      simp only [hw, if_true] at hh
      obtain ⟨v, h1, h2⟩ := hh
      have h3 := h1 w hC
      unfold Oper.quietAtIn at h3
      unfold Oper.wpIn
      refine ⟨ha w hC, ?_⟩
      rw [Oper.semAt_plain F _ _ (hd o ho)]
      generalize (execOp a.eval o).run P w = r at *
      cases r with
      | ok x w' =>
        cases x <;> simp only [Oper.quietUponIn] at h3 <;> simp only [Oper.uponIn]
        case value u =>
          obtain ⟨e1, e2⟩ := h3
          rw [e1, e2]
          exact h _ _ hC h2
        case skip =>
          obtain ⟨e1, e2⟩ := h3
          rw [e1, ← e2]
          exact h _ _ hC h2
        case enter f args =>
          obtain ⟨e1, hd, hc⟩ := h3
          rw [e1]
          exact ⟨hd, hc.mono fun e w'' ⟨he, hw''⟩ => by subst he; exact h _ _ hw'' h2⟩
      | halt x w' => simp only [Oper.quietUponIn] at h3
    · rename_i hw; simp only [hw] at hh; exact ⟨ha w hC, h _ _ hC hh⟩
theorem lexQ {Q : Act → Prop} (hs : Region.noSelect ops = true) : ∀ (l : List Oper) (k : Nat) (listed : Array Bool) (a : Act), (∀ j o, l[j]? = some o → ops[k + j]? = some o) →
    Region.lexFrom md ops l.length k listed = true → wpQuietIn F n P ops C Q l a → wpAnyQIn F n P md ops C Q l.length listed a
  | [], _, _, _, _, hB, h => ⟨by simpa [Region.lexFrom] using hB, h⟩
  | o :: l, k, listed, a, hl, hB, h => by
    have h0 : ops[k]? = some o := by simpa using hl 0 o rfl
    simp only [List.length_cons, Region.lexFrom, Bool.and_eq_true] at hB
    obtain ⟨⟨hr, hf⟩, hB'⟩ := hB
    have hst : qOpIn F n P ops C k (wpQuietIn F n P ops C Q l) a := by unfold qOpIn; simp only [h0]; exact h
    obtain ⟨v, hy, hK⟩ := yieldsQuiet_of_qOpIn h0 hst
    exact wpAnyQIn_first h0 (Region.noSelect_spec hs) l.length listed a (Region.free_spec h0 hf) (by simpa using hr) hy
      (lexQ hs l (k + 1) _ _ (fun j p hp => by have := hl (j + 1) p (by simpa using hp); simpa [Nat.add_assoc, Nat.add_comm 1 j] using this) hB' hK)
/-- one by one -/
def chainB (md : Region.Mode) (ops : Array Oper) : Nat → Nat → Array Bool → Bool
  | 0, _, listed => decide (Region.ready md ops listed = [])
  | m + 1, k, listed => decide (Region.ready md ops listed = [k]) && chainB md ops m (k + 1) (listed.setIfInBounds k true)
theorem chainIn {Q : Exit → Act → World → Prop} : ∀ (m : List Oper) (k : Nat) (listed : Array Bool) (a : Act) (w : World), (∀ j o, m[j]? = some o → ops[k + j]? = some o) →
    chainB md ops m.length k listed = true → wpListIn F n P ops Q m a w → wpAnyIn F n P md ops Q m.length listed a w
  | [], k, listed, a, w, hl, hB, h => ⟨by simpa [chainB] using hB, h⟩
  | o :: m, k, listed, a, w, hl, hB, h => by
    have h0 : ops[k]? = some o := by simpa using hl 0 o rfl
    simp only [List.length_cons, chainB, Bool.and_eq_true, decide_eq_true_eq] at hB
    obtain ⟨hr, hB'⟩ := hB
    have hl' : ∀ j p, m[j]? = some p → ops[k + 1 + j]? = some p := fun j p hp => by have := hl (j + 1) p (by simpa using hp); simpa [Nat.add_assoc, Nat.add_comm 1 j] using this
    refine ⟨fun h1 => (by rw [hr] at h1; cases h1), fun i hi => ?_⟩
    rw [hr] at hi
    rw [List.mem_singleton.1 hi]
    unfold wpOpIn
    simp only [h0]
    unfold wpListIn at h
    split
    · rename_i hw
      rw [if_pos hw] at h
      exact Oper.wpIn_mono (fun a w hh => chainIn m (k + 1) _ a w hl' hB' hh) h
    · rename_i hw
      rw [if_neg hw] at h
      exact ⟨h.1, chainIn m (k + 1) _ _ w hl' hB' h.2⟩
/-- the checks -/
def backB (ops : Array Oper) : Bool := (List.range ops.size).all fun i => match ops[i]? with
  | some o => o.after.toList.all (fun e => decide (e.on < i)) && (match o.op with
    | .defer _ => false
    | _ => true)
  | none => true
def waitB (md : Region.Mode) (ops : Array Oper) (k : Nat) : Bool := (match ops[k]? with
  | some o => (List.range k).all fun i => o.after.toList.any fun e => Region.binds md e && decide (e.on = i)
  | none => false) && (List.range ops.size).all fun j => decide (j ≤ k) || (match ops[j]? with
  | some o => o.after.toList.any fun e => Region.binds md e && decide (e.on = k)
  | none => false)
theorem backB_spec (h : backB ops = true) {i : Nat} {o : Oper} (ho : ops[i]? = some o) : (∀ e ∈ o.after, e.on < i) ∧ ∀ c, o.op ≠ .defer c := by
  unfold backB at h
  rw [List.all_eq_true] at h
  have := h i (List.mem_range.2 (Array.getElem?_eq_some_iff.1 ho).1)
  simp only [ho, Bool.and_eq_true, List.all_eq_true, decide_eq_true_eq] at this
  refine ⟨fun e he => this.1 e (Array.mem_toList_iff.2 he), fun c hc => ?_⟩
  rw [hc] at this
  exact absurd this.2 (by simp)
theorem ready_some (h : backB ops = true) {listed : Array Bool} (hsz : listed.size = ops.size) {j : Nat} (hj : listed.getD j true = false) : ∃ i, i ≤ j ∧ i ∈ Region.ready md ops listed := by
  induction j using Nat.strongRecOn with
  | _ j ih =>
    have hjs : j < listed.size := by
      rcases Nat.lt_or_ge j listed.size with h1 | h1
      · exact h1
      · simp [Array.getElem?_eq_none h1] at hj
    obtain ⟨o, ho⟩ : ∃ o, ops[j]? = some o := ⟨_, Array.getElem?_eq_getElem (by omega)⟩
    by_cases hall : ∀ e ∈ o.after, Region.binds md e = true → listed.getD e.on false = true
    · exact ⟨j, Nat.le_refl _, mem_ready.2 ⟨hj, o, ho, hall⟩⟩
    · obtain ⟨e, hn⟩ := Classical.not_forall.1 hall
      obtain ⟨he, hn⟩ := Classical.not_imp.1 hn
      obtain ⟨hb, hn⟩ := Classical.not_imp.1 hn
      have hlt := (backB_spec h ho).1 e he
      obtain ⟨i, hi, hr⟩ := ih e.on hlt (by
        have h2 : e.on < listed.size := by omega
        simp [h2] at hn ⊢
        exact hn)
      exact ⟨i, by omega, hr⟩
theorem moreIn1 {Q : Exit → Act → World → Prop} : ∀ (m : Nat) (listed : Array Bool) (a : Act) (w : World), wpAnyIn F n P md ops Q m listed a w → wpAnyIn F n P md ops Q (m + 1) listed a w
  | 0, listed, a, w, h => ⟨fun _ => h.2, fun i hi => by rw [h.1] at hi; cases hi⟩
  | m + 1, listed, a, w, h => ⟨h.1, fun i hi => wpOpIn_mono (fun a w hh => moreIn1 m _ a w hh) (h.2 i hi)⟩
theorem moreIn {Q : Exit → Act → World → Prop} : ∀ (x m : Nat) (listed : Array Bool) (a : Act) (w : World), wpAnyIn F n P md ops Q m listed a w → wpAnyIn F n P md ops Q (m + x) listed a w
  | 0, m, listed, a, w, h => h
  | x + 1, m, listed, a, w, h => moreIn1 _ _ _ _ (moreIn x m listed a w h)
theorem quiet_chain {Qm : Act → Prop} {Q' : Exit → Act → World → Prop} (k m : Nat) (hb : backB ops = true) (hk : k + m = ops.size) (hw : waitB md ops k = true)
    (hQ : ∀ a w, C w → Qm a → wpAnyIn F n P md ops Q' m ((Array.replicate k true) ++ (Array.replicate m false)) a w) :
    ∀ (fuel : Nat) (listed marked : Array Bool) (a : Act) (w : World), C w → listed.size = ops.size → marked.size = ops.size → (∀ j, k ≤ j → j < ops.size → listed.getD j true = false ∧ marked.getD j true = true) → (∀ j, j < k → listed.getD j true = marked.getD j true) →
      wpAnyQIn F n P md ops C Qm fuel marked a → wpAnyIn F n P md ops Q' (fuel + m) listed a w := by
  unfold waitB at hw
  simp only [Bool.and_eq_true, List.all_eq_true, List.mem_range, Bool.or_eq_true, decide_eq_true_eq] at hw
  obtain ⟨hw1, hw2⟩ := hw
  have hkk : k < ops.size := by
    rcases Nat.lt_or_ge k ops.size with h | h
    · exact h
    · rw [Array.getElem?_eq_none h] at hw1
      cases hw1
  have hwk : ∀ o, ops[k]? = some o → ∀ i, i < k → ∃ e ∈ o.after, Region.binds md e = true ∧ e.on = i := fun o ho i hi => by
    rw [ho] at hw1
    simp only [List.all_eq_true, List.mem_range, List.any_eq_true, Bool.and_eq_true, decide_eq_true_eq] at hw1
    obtain ⟨e, he, h1, h2⟩ := hw1 i hi
    exact ⟨e, Array.mem_toList_iff.1 he, h1, h2⟩
  have hwj : ∀ j o, ops[j]? = some o → k < j → ∃ e ∈ o.after, Region.binds md e = true ∧ e.on = k := fun j o ho hj => by
    have := hw2 j (Array.getElem?_eq_some_iff.1 ho).1
    rw [ho] at this
    simp only [List.any_eq_true, Bool.and_eq_true, decide_eq_true_eq] at this
    rcases this with h | ⟨e, he, h1, h2⟩
    · omega
    · exact ⟨e, Array.mem_toList_iff.1 he, h1, h2⟩
  have eqL : ∀ (listed : Array Bool), listed.size = ops.size → (∀ j, k ≤ j → j < ops.size → listed.getD j true = false) → (∀ j, j < k → listed.getD j true = true) → listed = (Array.replicate k true) ++ (Array.replicate m false) := fun listed hs h1 h2 => by
    refine Array.ext (by simp; omega) (fun i hi hi2 => ?_)
    have hg : listed.getD i true = listed[i] := by simp [hi]
    rw [← hg]
    by_cases h : i < k
    · rw [h2 i h, Array.getElem_append_left (by simpa using h)]
      simp
    · rw [h1 i (by omega) (by omega), Array.getElem_append_right (by simp; omega)]
      simp
  intro fuel
  induction fuel with
  | zero =>
    intro listed marked a w hC hs1 hs2 hL hM h
    rw [Nat.zero_add]
    have hall : ∀ j, j < k → marked.getD j true = true := fun j hj => by
      rcases Bool.eq_false_or_eq_true (marked.getD j true) with h1 | h1
      · exact h1
      · obtain ⟨i, _, hi⟩ := ready_some (md := md) hb hs2 h1
        rw [h.1] at hi
        cases hi
    rw [eqL listed hs1 (fun j h1 h2 => (hL j h1 h2).1) (fun j hj => (hM j hj).trans (hall j hj))]
    exact hQ a w hC h.2
  | succ fuel ih =>
    intro listed marked a w hC hs1 hs2 hL hM h
    by_cases hall : ∀ j, j < k → marked.getD j true = true
    · have hr : Region.ready md ops marked = [] := by
        cases hr : Region.ready md ops marked with
        | nil => rfl
        | cons i r =>
          have hi : i ∈ Region.ready md ops marked := by rw [hr]; exact List.mem_cons_self
          obtain ⟨h0, o, ho, _⟩ := mem_ready.1 hi
          have hio := (Array.getElem?_eq_some_iff.1 ho).1
          by_cases hik : i < k
          · rw [hall i hik] at h0; cases h0
          · rw [(hL i (by omega) hio).2] at h0; cases h0
      rw [eqL listed hs1 (fun j h1 h2 => (hL j h1 h2).1) (fun j hj => (hM j hj).trans (hall j hj))]
      have := hQ a w hC (h.1 hr)
      rw [show fuel + 1 + m = m + (fuel + 1) by omega]
      exact moreIn (fuel + 1) m _ a w this
    · obtain ⟨j, hn⟩ := Classical.not_forall.1 hall
      obtain ⟨hj, hn⟩ := Classical.not_imp.1 hn
      have hjf : marked.getD j true = false := by simpa using hn
      have hlf : listed.getD j true = false := (hM j hj).trans hjf
      rw [show fuel + 1 + m = (fuel + m) + 1 by omega]
      refine ⟨fun h0 => ?_, fun i hi => ?_⟩
      · obtain ⟨i, _, hi⟩ := ready_some (md := md) hb hs1 hlf
        rw [h0] at hi
        cases hi
      · obtain ⟨h0, o, ho, hwait⟩ := mem_ready.1 hi
        have hio := (Array.getElem?_eq_some_iff.1 ho).1
        have hgd : ∀ (x : Nat), x < ops.size → listed.getD x true = false → listed.getD x false = false := fun x hx hf => by
          have hx2 : x < listed.size := by omega
          simp [hx2] at hf ⊢
          exact hf
        have hik : i < k := by
          rcases Nat.lt_trichotomy i k with h1 | h1 | h1
          · exact h1
          · subst h1
            obtain ⟨e, he, hbd, rfl⟩ := hwk o ho j hj
            have := hwait e he hbd
            rw [hgd _ (by omega) hlf] at this
            cases this
          · obtain ⟨e, he, hbd, h2⟩ := hwj i o ho h1
            have := hwait e he hbd
            rw [h2, hgd k hkk (hL k (Nat.le_refl _) hkk).1] at this
            cases this
        have hi2 : i ∈ Region.ready md ops marked := mem_ready.2 ⟨(hM i hik).symm.trans h0, o, ho, fun e he hbd => by
          have h1 := hwait e he hbd
          have h2 := (backB_spec hb ho).1 e he
          have h3 := hM e.on (by omega)
          have x1 : e.on < listed.size := by omega
          have x2 : e.on < marked.size := by omega
          simp [x1, x2] at h1 h3 ⊢
          rw [← h3]; exact h1⟩
        refine wpOpIn_quiet (C := C) (fun o' ho' => (backB_spec hb ho').2) hC (fun a' w' hw' hq => ih (listed.setIfInBounds i true) (marked.setIfInBounds i true) a' w' hw' (by simp [hs1]) (by simp [hs2]) ?_ ?_ hq) (h.2 i hi2)
        · intro j' h1 h2
          rw [getD_set_ne true (by omega), getD_set_ne true (by omega)]
          exact hL j' h1 h2
        · intro j' h1
          by_cases e : i = j'
          · subst e
            have x1 : i < listed.size := by omega
            have x2 : i < marked.size := by omega
            simp [x1, x2]
          · rw [getD_set_ne true e, getD_set_ne true e]
            exact hM j' h1
/-- the law: the first k operations only read; the others follow one by one -/
theorem wpIn_round_chain {id : Nat} {Q : Exit → Act → World → Prop} {a : Act} {w : World} {l : List Oper} (k : Nat) (hm : P.follows .mixedOrders = true)
    (hB : (Region.noSelect l.toArray && backB l.toArray && waitB .any l.toArray k && decide (k ≤ l.length) &&
      Region.lexFrom .any l.toArray k 0 ((Array.replicate k false) ++ (Array.replicate (l.length - k) true)) && chainB .any l.toArray (l.length - k) k ((Array.replicate k true) ++ (Array.replicate (l.length - k) false))) = true)
    (h : wpQuietIn F n P l.toArray (fun w' => ∃ n, w' = w.drewN n) (fun a' => ∀ w', (∃ n, w' = w.drewN n) → wpListIn F n P l.toArray Q (l.drop k) a' w') (l.take k) a) : (Code.region id l.toArray true).wpIn F n P Q a w := by
  simp only [Bool.and_eq_true, decide_eq_true_eq] at hB
  obtain ⟨⟨⟨⟨⟨h1, h2⟩, h3⟩, h4⟩, h5⟩, h6⟩ := hB
  refine wpIn_region_any hm ?_
  have hl : (l.take k).length = k := by rw [List.length_take]; omega
  have hl2 : (l.drop k).length = l.length - k := List.length_drop ..
  have hq := lexQ (F := F) (n := n) (C := fun w' => ∃ n, w' = w.drewN n) (md := .any) h1 (l.take k) 0 ((Array.replicate k false) ++ (Array.replicate (l.length - k) true)) a
    (fun j o ho => by
      rw [List.getElem?_take] at ho
      split at ho
      · simpa using ho
      · cases ho) (by rw [hl]; exact h5) h
  have hz : l.toArray.size = k + (l.length - k) := by simp; omega
  rw [hl] at hq
  rw [hz]
  have hr : Array.replicate (k + (l.length - k)) false = (Array.replicate k false) ++ (Array.replicate (l.length - k) false) := by
    refine Array.ext (by simp) (fun i hi hi2 => ?_)
    by_cases hc : i < k
    · rw [Array.getElem_append_left (by simpa using hc)]; simp
    · rw [Array.getElem_append_right (by simp; omega)]; simp
  refine quiet_chain k (l.length - k) h2 (by simp; omega) h3 (Qm := fun a' => ∀ w', (∃ n, w' = w.drewN n) → wpListIn F n P l.toArray Q (l.drop k) a' w') (fun a w' hw' hh => ?_) k _ _ a _ ⟨1, rfl⟩ (by simp; omega) (by simp; omega) ?_ ?_ hq
  · have := chainIn (F := F) (n := n) (md := .any) (ops := l.toArray) (Q := Q) (l.drop k) k ((Array.replicate k true) ++ (Array.replicate (l.length - k) false)) a w' (fun j o ho => by
      rw [List.getElem?_drop] at ho
      simpa using ho) (by rw [hl2]; exact h6) (hh w' hw')
    rw [hl2] at this
    exact this
  · intro j hj1 hj2
    simp at hj2
    refine ⟨?_, ?_⟩
    · have : j < (Array.replicate (k + (l.length - k)) false).size := by simp; omega
      rw [Array.getD, dif_pos this]; simp
    · have : j < ((Array.replicate k false) ++ (Array.replicate (l.length - k) true)).size := by simp; omega
      rw [Array.getD, dif_pos this]
      show ((Array.replicate k false) ++ (Array.replicate (l.length - k) true))[j] = true
      rw [Array.getElem_append_right (by simp; omega)]; simp
  · intro j hj
    have x1 : j < (Array.replicate (k + (l.length - k)) false).size := by simp; omega
    have x2 : j < ((Array.replicate k false) ++ (Array.replicate (l.length - k) true)).size := by simp; omega
    rw [Array.getD, dif_pos x1, Array.getD, dif_pos x2]
    show (Array.replicate (k + (l.length - k)) false)[j] = ((Array.replicate k false) ++ (Array.replicate (l.length - k) true))[j]
    rw [Array.getElem_append_left (by simpa using hj)]; simp
end
end Go.Proofs.Ytmldhgebbgalbaa
