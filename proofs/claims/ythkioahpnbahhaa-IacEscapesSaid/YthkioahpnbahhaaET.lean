/- A drawn region, walked in one order where it has but one: at each step one operation alone may come up, or a move (which nothing turns). -/
import Derived.WalkKit
import Derived.Orders
namespace Go.Proofs.Ythkioahpnbahhaa
set_option linter.unusedVariables false
set_option linter.unusedSimpArgs false
section
variable {P : Program} {ops : Array Oper} {Q : Exit → Act → World → Prop} {K : Act → World → Prop}
theorem upon_then {o : Oper} {a : Act} {next : Act → World → Prop} {r : Result Next} (h : o.upon P a next (Exit.then K Q) r) : o.upon P a next Q r := by
  cases r with
  | ok n w => cases n <;> exact h
  | halt x w => cases x <;> exact h
theorem wpOp_then {i : Nat} {a : Act} {w : World} {K' : Act → World → Prop} (h : wpOp P ops (Exit.then K Q) i K' a w) : wpOp P ops Q i K' a w := by
  unfold wpOp at *
  cases ho : ops[i]? with
  | none => simp only [ho] at h ⊢; exact h
  | some o =>
    simp only [ho] at h ⊢
    by_cases hw : Region.wanted o (yielded ops a.tmps) = true
    · rw [if_pos hw] at h ⊢
      rcases h with h | ⟨h1, h2⟩
      · exact .inl (upon_then h)
      · exact .inr ⟨h1, h2⟩
    · rw [if_neg hw] at h ⊢
      exact h
def isMove (ops : Array Oper) (k : Nat) : Bool := match ops[k]? with
  | some o => match o.op with
    | .move _ => true
    | .assign _ => true
    | _ => false
  | none => false
def partB (md : Region.Mode) (ops : Array Oper) (st : List Nat) : List Nat → Array Bool → Bool
  | [], _ => true
  | k :: r, listed => (decide (Region.ready md ops listed = [k]) || ((isMove ops k || st.contains k) && Region.free md ops listed k && (Region.ready md ops listed).contains k)) && (ops[k]?).isSome && partB md ops st r (listed.setIfInBounds k true)
def marks (listed : Array Bool) (l : List Nat) : Array Bool := l.foldl (fun x k => x.setIfInBounds k true) listed
def Stays (P : Program) (o : Oper) : Prop := ∀ a : Act, ∃ v, ∀ w, (execOp a.eval o).run P w = .ok (.value v) w ∧ ¬ noRoomEvent ∈ ((execOp a.eval o).runT P w #[]).2
theorem stays_move {o : Oper} {x : Operand} (h : o.op = .move x ∨ o.op = .assign x) : Stays P o := fun a => by
  refine ⟨a.eval x, fun w => ?_⟩
  rcases h with h | h <;> (unfold execOp; rw [h]; exact ⟨rfl, fun h => by first | (simp at h; done) | exact absurd h (List.not_mem_nil) | exact absurd h (by show ¬ noRoomEvent ∈ (#[] : Array _); simp)⟩)
theorem stays_yields {o : Oper} (hs : Stays P o) {k : Nat} (hk : ops[k]? = some o) {a : Act} {w : World} {K' : Act → World → Prop} (h : wpOp P ops Q k K' a w) : ∃ v, Yields P ops o v a ∧ K' (a.put o.dst v) w := by
  unfold wpOp at h
  simp only [hk] at h
  by_cases hw : Region.wanted o (yielded ops a.tmps) = true
  · rw [if_pos hw] at h
    obtain ⟨v, hv⟩ := hs a
    have hr : ∀ w, (execOp a.eval o).run P w = .ok (.value v) w := fun w => (hv w).1
    refine ⟨v, .inl ⟨hw, hr⟩, ?_⟩
    rcases h with h | ⟨⟨h1, _⟩, _⟩
    · unfold Oper.wp at h
      rw [hr w] at h
      exact h
    · exact absurd h1 (hv w).2
  · rw [if_neg hw] at h
    exact ⟨undef, .inr ⟨by simpa using hw, rfl⟩, h⟩
theorem wpAny_part {md : Region.Mode} {st : List Nat} (hst : ∀ k ∈ st, ∀ o, ops[k]? = some o → Stays P o) (hs : Region.noSelect ops = true) (hQ : ∀ c a d v w, Q (.panic c) (Act.put a d v) w → Q (.panic c) a w) :
    ∀ (order : List Nat) (listed : Array Bool) (a : Act) (w : World) (fuel : Nat), partB md ops st order listed = true →
      wpList P ops (Exit.then (wpAny P md ops Q fuel (marks listed order)) Q) (order.filterMap fun k => ops[k]?) a w → wpAny P md ops Q (order.length + fuel) listed a w
  | [], listed, a, w, fuel, _, h => by
    rw [List.length_nil, Nat.zero_add]
    exact h
  | k :: r, listed, a, w, fuel, hb, h => by
    simp only [partB, Bool.and_eq_true, Bool.or_eq_true, decide_eq_true_eq] at hb
    obtain ⟨⟨h1, h2⟩, h3⟩ := hb
    obtain ⟨o, ho⟩ := Option.isSome_iff_exists.1 h2
    have hl : (k :: r).filterMap (fun k => ops[k]?) = o :: r.filterMap (fun k => ops[k]?) := by simp [ho]
    rw [hl] at h
    have hw : wpOp P ops (Exit.then (wpAny P md ops Q fuel (marks listed (k :: r))) Q) k (wpList P ops (Exit.then (wpAny P md ops Q fuel (marks listed (k :: r))) Q) (r.filterMap fun k => ops[k]?)) a w := by
      unfold wpOp
      simp only [ho]
      exact h
    have hw2 : wpOp P ops Q k (wpAny P md ops Q (r.length + fuel) (listed.setIfInBounds k true)) a w :=
      wpOp_mono (fun a' w' h' => wpAny_part hst hs hQ r (listed.setIfInBounds k true) a' w' fuel h3 h') (wpOp_then hw)
    have hlen : (k :: r).length + fuel = (r.length + fuel) + 1 := by simp; omega
    rw [hlen]
    rcases h1 with h1 | ⟨⟨h4, h5⟩, h6⟩
    · refine ⟨fun h0 => (by rw [h1] at h0; cases h0), fun i hi => ?_⟩
      rw [h1] at hi
      rw [List.mem_singleton.1 hi]
      exact hw2
    · have hstay : Stays P o := by
        rcases h4 with h4 | h4
        · unfold isMove at h4
          simp only [ho] at h4
          cases hop : o.op <;> simp only [hop] at h4 <;> first | (cases h4; done) | exact stays_move (.inl hop) | exact stays_move (.inr hop)
        · exact hst k (by simpa using h4) o ho
      obtain ⟨v, hy, hk⟩ := stays_yields hstay ho hw2
      exact wpAny_take ho hs h5 h6 (fun c a w => hQ c a _ _ w) hy hk
/-- what waits: each operation that isn't listed, with what it still waits for -/
def afterOf (md : Region.Mode) (ops : Array Oper) (i : Nat) : List Nat := match ops[i]? with
  | some o => (o.after.toList.filter (Region.binds md)).map (·.on)
  | none => []
def remOf (md : Region.Mode) (ops : Array Oper) (listed : Array Bool) : List (Nat × List Nat) :=
  ((List.range ops.size).filter fun i => !listed.getD i true).map fun i => (i, (afterOf md ops i).filter fun e => !listed.getD e false)
def upd (k : Nat) (rem : List (Nat × List Nat)) : List (Nat × List Nat) := (rem.filter fun x => x.1 != k).map fun x => (x.1, x.2.filter (· != k))
def readyOf (rem : List (Nat × List Nat)) : List Nat := (rem.filter fun x => x.2.isEmpty).map (·.1)
theorem ready_rem (md : Region.Mode) (ops : Array Oper) (listed : Array Bool) : Region.ready md ops listed = readyOf (remOf md ops listed) := by
  unfold readyOf remOf Region.ready
  rw [List.filter_map, List.map_map, List.filter_filter]
  have : ∀ l : List Nat, l.map ((fun x : Nat × List Nat => x.1) ∘ fun i => (i, (afterOf md ops i).filter fun e => !listed.getD e false)) = l := fun l => by
    rw [show ((fun x : Nat × List Nat => x.1) ∘ fun i => (i, (afterOf md ops i).filter fun e => !listed.getD e false)) = id from rfl, List.map_id]
  rw [this]
  refine List.filter_congr (fun i hi => ?_)
  have hi' : i < ops.size := List.mem_range.1 hi
  have ho : ops[i]? = some ops[i] := Array.getElem?_eq_getElem hi'
  have key : (((afterOf md ops i).filter fun e => !listed.getD e false).isEmpty) = (ops[i].after.all fun e => !Region.binds md e || listed.getD e.on false) := by
    unfold afterOf
    rw [ho]
    rw [Bool.eq_iff_iff, List.isEmpty_iff, List.filter_eq_nil_iff, Array.all_eq_true_iff_forall_mem]
    constructor
    · intro h e he
      by_cases hb : Region.binds md e = true
      · have := h e.on (List.mem_map.2 ⟨e, List.mem_filter.2 ⟨Array.mem_toList_iff.2 he, hb⟩, rfl⟩)
        simp at this
        simp [this]
      · simp [hb]
    · intro h x hx
      obtain ⟨e, he, rfl⟩ := List.mem_map.1 hx
      obtain ⟨h1, h2⟩ := List.mem_filter.1 he
      have := h e (Array.mem_toList_iff.1 h1)
      rw [h2] at this
      simp at this
      simp [this]
  simp only [Function.comp, ho, Option.map_some, Option.getD_some]
  rw [key, Bool.and_comm]
theorem upd_rem (md : Region.Mode) (ops : Array Oper) (listed : Array Bool) (k : Nat) (hk : k < listed.size) : upd k (remOf md ops listed) = remOf md ops (listed.setIfInBounds k true) := by
  have h1 : ∀ (i : Nat) (d : Bool), (listed.setIfInBounds k true).getD i d = if i = k then true else listed.getD i d := fun i d => by
    by_cases h : i = k
    · subst h
      simp [hk]
    · rw [if_neg h, getD_set_ne d (fun e => h e.symm)]
  unfold upd remOf
  rw [List.filter_map, List.map_map, List.filter_filter]
  have e1 : ((List.range ops.size).filter fun i => !(listed.setIfInBounds k true).getD i true) = (List.range ops.size).filter (fun a => ((fun x : Nat × List Nat => x.1 != k) ∘ fun i => (i, (afterOf md ops i).filter fun e => !listed.getD e false)) a && !listed.getD a true) := by
    refine List.filter_congr (fun i _ => ?_)
    rw [h1]
    by_cases h : i = k
    · simp [h]
    · simp [h]
  rw [e1]
  refine List.map_congr_left (fun i _ => ?_)
  simp only [Function.comp, List.filter_filter]
  congr 1
  refine List.filter_congr (fun e _ => ?_)
  rw [h1]
  by_cases h : e = k
  · simp [h]
  · simp [h]
def partR (md : Region.Mode) (ops : Array Oper) (n : Nat) : List Nat → List Nat → List (Nat × List Nat) → Bool
  | [], _, _ => true
  | k :: r, dn, rem => (match readyOf rem with
      | [j] => Nat.beq j k
      | l => isMove ops k && l.contains k && Region.free md ops (marks (Array.replicate n false) dn.reverse) k) && (ops[k]?).isSome && partR md ops n r (k :: dn) (upd k rem)
theorem marks_size (l : List Nat) : ∀ a : Array Bool, (marks a l).size = a.size := by
  induction l with
  | nil => intro a; rfl
  | cons k l ih => intro a; exact (ih _).trans (by simp)
theorem partR_partB {md : Region.Mode} : ∀ (order dn : List Nat), partR md ops ops.size order dn (remOf md ops (marks (Array.replicate ops.size false) dn.reverse)) = true → partB md ops [] order (marks (Array.replicate ops.size false) dn.reverse) = true
  | [], _, _ => rfl
  | k :: r, dn, h => by
    simp only [partR, Bool.and_eq_true] at h
    obtain ⟨⟨h1, h2⟩, h3⟩ := h
    have hk : k < ops.size := by
      obtain ⟨o, ho⟩ := Option.isSome_iff_exists.1 h2
      exact (Array.getElem?_eq_some_iff.1 ho).1
    have hm : (marks (Array.replicate ops.size false) dn.reverse).setIfInBounds k true = marks (Array.replicate ops.size false) (k :: dn).reverse := by
      unfold marks
      rw [List.reverse_cons, List.foldl_append]
      rfl
    rw [upd_rem md ops _ k (by rw [marks_size]; simpa using hk), hm] at h3
    have ih := partR_partB r (k :: dn) h3
    simp only [partB, Bool.and_eq_true, Bool.or_eq_true, decide_eq_true_eq]
    refine ⟨⟨?_, h2⟩, by rw [hm]; exact ih⟩
    rw [ready_rem]
    split at h1
    · rename_i j hj
      left
      rw [hj, Nat.eq_of_beq_eq_true h1]
    · right
      simp only [Bool.and_eq_true] at h1
      exact ⟨⟨.inl h1.1.1, h1.2⟩, h1.1.2⟩
theorem rem_fold (md : Region.Mode) (ops : Array Oper) : ∀ l : List Nat, l.all (fun k => decide (k < ops.size)) = true → l.foldr upd (remOf md ops (Array.replicate ops.size false)) = remOf md ops (marks (Array.replicate ops.size false) l.reverse) := by
  intro l
  induction l with
  | nil => intro _; rfl
  | cons k l ih =>
    intro hl
    simp only [List.all_cons, Bool.and_eq_true, decide_eq_true_eq] at hl
    rw [List.foldr_cons, ih hl.2, upd_rem md ops _ k (by rw [marks_size]; simpa using hl.1)]
    unfold marks
    rw [List.reverse_cons, List.foldl_append]
    rfl
/-- the walk of a part of a region, in the order that is named: dn: what is done already, the last one first; rem: what is left (by 'rfl') -/
theorem wpAny_text {md : Region.Mode} (order dn : List Nat) (fuel : Nat) {n : Nat} {a : Act} {w : World} (hn : n = order.length + fuel) (hd : dn.all (fun k => decide (k < ops.size)) = true) (hb : partR md ops ops.size order dn (dn.foldr upd (remOf md ops (Array.replicate ops.size false))) = true) (hs : Region.noSelect ops = true) (hQ : ∀ c a d v w, Q (.panic c) (Act.put a d v) w → Q (.panic c) a w)
    {l : List Oper} (hl : (order.filterMap fun k => ops[k]?) = l) (h : ∀ K : Act → World → Prop, (∀ a w, wpAny P md ops Q fuel (marks (Array.replicate ops.size false) (order.reverse ++ dn).reverse) a w → K a w) → wpList P ops (Exit.then K Q) l a w) : wpAny P md ops Q n (marks (Array.replicate ops.size false) dn.reverse) a w := by
  subst hn
  subst hl
  refine wpAny_part (fun k hk => by cases hk) hs hQ order _ a w fuel (partR_partB order dn (by rw [← rem_fold md ops dn hd]; exact hb)) (h _ (fun a w h => ?_))
  have e : marks (marks (Array.replicate ops.size false) dn.reverse) order = marks (Array.replicate ops.size false) (order.reverse ++ dn).reverse := by
    unfold marks
    rw [List.reverse_append, List.reverse_reverse, List.foldl_append]
  rw [e]
  exact h
/-- where more than one may come up -/
theorem wpAny_ways {md : Region.Mode} (rs dn : List Nat) {fuel : Nat} {a : Act} {w : World} (hr : readyOf (dn.foldr upd (remOf md ops (Array.replicate ops.size false))) = rs) (hd : dn.all (fun k => decide (k < ops.size)) = true) (hne : rs ≠ [])
    (h : ∀ i ∈ rs, wpOp P ops Q i (wpAny P md ops Q fuel (marks (Array.replicate ops.size false) (i :: dn).reverse)) a w) : wpAny P md ops Q (fuel + 1) (marks (Array.replicate ops.size false) dn.reverse) a w := by
  refine wpAny_all (rs := rs) (by rw [ready_rem, ← rem_fold md ops dn hd]; exact hr) hne (fun i hi => ?_)
  have e : (marks (Array.replicate ops.size false) dn.reverse).setIfInBounds i true = marks (Array.replicate ops.size false) (i :: dn).reverse := by
    unfold marks
    rw [List.reverse_cons, List.foldl_append]
    rfl
  rw [e]
  exact h i hi
theorem wpOp_list {i : Nat} {o : Oper} (hi : ops[i]? = some o) {a : Act} {w : World} (h : wpList P ops (Exit.then K Q) [o] a w) : wpOp P ops Q i K a w := by
  refine wpOp_then (K := K) ?_
  unfold wpOp
  simp only [hi]
  exact h
end
end Go.Proofs.Ythkioahpnbahhaa
