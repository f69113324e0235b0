/- The document's answer of chapter 6 for whatever verb; that it goes with the program's own model. -/
import Derived.Test.YtioaenidkieiiaaR06o
import Derived.Test.YtioaenidkieiiaaL6b
namespace Go.Proofs.Ytioaenidkieiiaa
set_option linter.unusedVariables false
set_option linter.unusedSimpArgs false
open Go.RowKit

def gotS (l : List One) (lo lt : List Int) (s on : Bool) (x : Int) : List One × List Int :=
  (setR l s x (gotR on (stateR l s x) (mayL lo lt s x)).1, wordL s x (gotR on (stateR l s x) (mayL lo lt s x)).2)
def gotL (l : List One) (lo lt : List Int) (c x : Int) : List One × List Int :=
  if c == 251 then gotS l lo lt false true x else if c == 252 then gotS l lo lt false false x else if c == 253 then gotS l lo lt true true x else if c == 254 then gotS l lo lt true false x else (l, [])
def wantS (l : List One) (s on : Bool) (x : Int) : List One × List Int × Int :=
  match wantR on (stateR l s x) with
  | some (st, say) => (setR l s x st, wordL s x say, 0)
  | none => (l, [], 5)
def wantL (l : List One) (c x : Int) : List One × List Int × Int :=
  if c == 251 then wantS l true true x else if c == 252 then wantS l true false x else if c == 253 then wantS l false true x else if c == 254 then wantS l false false x else (l, [], 1)

theorem GotP.ref {w : World} {A : Option Addr} {vA vB : Value} {l : List One} {said : List Int} {e : Ending} {w' : World} (h : GotP w vA vB l said e w') : RefP w A vA vB l said [] e w' := by
  obtain ⟨v, v3, rfl, ⟨A', c', rfl, _, hr, hf⟩, hb, hx⟩ := h
  exact ⟨A', c', v3, rfl, hr, fun b hb _ => hf.off hb, hb, hx⟩

set_option maxRecDepth 100000 in
set_option maxHeartbeats 4000000 in
theorem ref_Got_any (A A1 A2 : Option Addr) (c0 c1 c2 : Nat) (l : List One) (lo lt : List Int) (c x : Int) (hc : 0 ≤ c ∧ c < 256) (hn : l.length ≤ 100000) (hn1 : lo.length ≤ 1000000) (hn2 : lt.length ≤ 1000000) (w : World)
    (hr : Rd w 3 A l.length (l.flatMap One.enc)) (hr1 : Rd w 1 A1 lo.length (u8s lo)) (hr2 : Rd w 1 A2 lt.length (u8s lt)) (hst : ∀ s, 0 ≤ stateR l s x ∧ stateR l s x ≤ 5) :
    Calls Try.prog 15 #[.agg #[.slice A l.length c0, .slice A1 lo.length c1, .slice A2 lt.length c2], .int .u8 c, .int .u8 x] w
      (RefP w A (.slice A1 lo.length c1) (.slice A2 lt.length c2) (gotL l lo lt c x).1 (gotL l lo lt c x).2 []) := by
  unfold gotL
  by_cases h1 : c = 251
  · subst h1
    exact (ref_Got_251 A A1 A2 c0 c1 c2 l lo lt x _ _ hn hn1 hn2 w hr hr1 hr2 rfl rfl (hst _).1 (hst _).2).mono fun _ _ h => h.ref
  by_cases h2 : c = 252
  · subst h2
    exact (ref_Got_252 A A1 A2 c0 c1 c2 l lo lt x _ (mayL lo lt false x) hn hn1 hn2 w hr hr1 hr2 rfl rfl (hst _).1 (hst _).2).mono fun _ _ h => h.ref
  by_cases h3 : c = 253
  · subst h3
    exact (ref_Got_253 A A1 A2 c0 c1 c2 l lo lt x _ _ hn hn1 hn2 w hr hr1 hr2 rfl rfl (hst _).1 (hst _).2).mono fun _ _ h => h.ref
  by_cases h4 : c = 254
  · subst h4
    exact (ref_Got_254 A A1 A2 c0 c1 c2 l lo lt x _ (mayL lo lt true x) hn hn1 hn2 w hr hr1 hr2 rfl rfl (hst _).1 (hst _).2).mono fun _ _ h => h.ref
  rw [if_neg (by simpa using h1), if_neg (by simpa using h2), if_neg (by simpa using h3), if_neg (by simpa using h4)]
  have hE : ∀ W, Ext w W → RefP w A (.slice A1 lo.length c1) (.slice A2 lt.length c2) l [] [] (.returned (.tuple #[.agg #[.slice A l.length c0, .slice A1 lo.length c1, .slice A2 lt.length c2], .slice none 0 0])) W := fun W h => ⟨A, c0, _, rfl, Rd_ext h hr, fun b _ h => h, Bts.nil _ _, h⟩
  have HE := Lib.hid hE
  clear hE hr hr1 hr2 hst
  by_cases h5 : c < 251
  · go_enter Try.func15, Try.ntmps15
    go_wp2_with fail
    refine bodyPost_ret (v := .tuple #[.agg #[.slice A l.length c0, .slice A1 lo.length c1, .slice A2 lt.length c2], .slice none 0 0]) (by simp [results, Try.results15, go_sem, *]) rfl ?_
    exact HE.out _ (by repeat' (first | exact Ext_refl _ | (apply Ext_alloc) | (refine Ext_set ?_ ?_) | (simp; done) | (simp; omega)))
  · have h6 : c = 255 := by omega
    subst h6
    go_enter Try.func15, Try.ntmps15
    go_wp2_with fail
    refine bodyPost_ret (v := .tuple #[.agg #[.slice A l.length c0, .slice A1 lo.length c1, .slice A2 lt.length c2], .slice none 0 0]) (by simp [results, Try.results15, go_sem, *]) rfl ?_
    exact HE.out _ (by repeat' (first | exact Ext_refl _ | (apply Ext_alloc) | (refine Ext_set ?_ ?_) | (simp; done) | (simp; omega)))

theorem wantS_ref {f : Nat} {args : Array Value} {A : Option Addr} {vA vB : Value} {l : List One} {s on : Bool} {x : Int} {w : World}
    (h : Calls Try.prog f args w (match wantR on (stateR l s x) with
       | some (st, say) => RefP w A vA vB (setR l s x st) (wordL s x say) [.int .i64 0]
       | none => RefP w A vA vB l [] [.int .i64 5])) :
    Calls Try.prog f args w (RefP w A vA vB (wantS l s on x).1 (wantS l s on x).2.1 [.int .i64 (wantS l s on x).2.2]) := by
  unfold wantS
  revert h
  generalize wantR on (stateR l s x) = r
  intro h
  cases r <;> exact h

set_option maxRecDepth 100000 in
set_option maxHeartbeats 4000000 in
theorem ref_Want_any (A A1 A2 : Option Addr) (c0 n1 c1 n2 c2 : Nat) (l : List One) (c x : Int) (hc : 0 ≤ c ∧ c < 256) (hn : l.length ≤ 100000) (w : World)
    (hr : Rd w 3 A l.length (l.flatMap One.enc)) (hst : ∀ s, 0 ≤ stateR l s x ∧ stateR l s x ≤ 5) :
    Calls Try.prog 13 #[.agg #[.slice A l.length c0, .slice A1 n1 c1, .slice A2 n2 c2], .int .u8 c, .int .u8 x] w
      (RefP w A (.slice A1 n1 c1) (.slice A2 n2 c2) (wantL l c x).1 (wantL l c x).2.1 [.int .i64 (wantL l c x).2.2]) := by
  unfold wantL
  by_cases h1 : c = 251
  · subst h1
    exact wantS_ref (ref_Want_251 A A1 A2 c0 n1 c1 n2 c2 l x _ hn w hr rfl (hst _).1 (hst _).2)
  by_cases h2 : c = 252
  · subst h2
    exact wantS_ref (ref_Want_252 A A1 A2 c0 n1 c1 n2 c2 l x _ hn w hr rfl (hst _).1 (hst _).2)
  by_cases h3 : c = 253
  · subst h3
    exact wantS_ref (ref_Want_253 A A1 A2 c0 n1 c1 n2 c2 l x _ hn w hr rfl (hst _).1 (hst _).2)
  by_cases h4 : c = 254
  · subst h4
    exact wantS_ref (ref_Want_254 A A1 A2 c0 n1 c1 n2 c2 l x _ hn w hr rfl (hst _).1 (hst _).2)
  rw [if_neg (by simpa using h1), if_neg (by simpa using h2), if_neg (by simpa using h3), if_neg (by simpa using h4)]
  have hE : ∀ W, Ext w W → RefP w A (.slice A1 n1 c1) (.slice A2 n2 c2) l [] [.int .i64 1] (.returned (.tuple #[.agg #[.slice A l.length c0, .slice A1 n1 c1, .slice A2 n2 c2], .slice none 0 0, .int .i64 1])) W := fun W h => ⟨A, c0, _, rfl, Rd_ext h hr, fun b _ h => h, Bts.nil _ _, h⟩
  have HE := Lib.hid hE
  clear hE hr hst
  by_cases h5 : c < 251
  · go_enter Try.func13, Try.ntmps13
    go_wp2_with fail
    refine bodyPost_ret (v := .tuple #[.agg #[.slice A l.length c0, .slice A1 n1 c1, .slice A2 n2 c2], .slice none 0 0, .int .i64 1]) (by simp [results, Try.results13, go_sem, *]) rfl ?_
    exact HE.out _ (by repeat' (first | exact Ext_refl _ | (apply Ext_alloc) | (refine Ext_set ?_ ?_) | (simp; done) | (simp; omega)))
  · have h6 : c = 255 := by omega
    subst h6
    go_enter Try.func13, Try.ntmps13
    go_wp2_with fail
    refine bodyPost_ret (v := .tuple #[.agg #[.slice A l.length c0, .slice A1 n1 c1, .slice A2 n2 c2], .slice none 0 0, .int .i64 1]) (by simp [results, Try.results13, go_sem, *]) rfl ?_
    exact HE.out _ (by repeat' (first | exact Ext_refl _ | (apply Ext_alloc) | (refine Ext_set ?_ ?_) | (simp; done) | (simp; omega)))

/-- the document's list goes with the program's states -/
structure Rel (o : Opt) (l : List One) (lo lt : List Int) : Prop where
  st : ∀ s (y : Nat), y < 256 → stateR l s (y : Int) = o.st s y
  may : ∀ s (y : Nat), o.may s y = mayL lo lt s (y : Int)
  low : ∀ s y, 0 ≤ o.st s y ∧ o.st s y ≤ 5
  own : ∀ a ∈ l, 0 ≤ a.opt ∧ a.opt < 256 ∧ stateR l a.ours a.opt = a.st
theorem stateR_set (l : List One) (s : Bool) (x st : Int) (s' : Bool) (y : Int) : stateR (setR l s x st) s' y = if s' = s ∧ y = x then st else stateR l s' y := by
  unfold stateR setR
  rw [List.find?_append, List.find?_filter]
  by_cases e : s' = s ∧ y = x
  · obtain ⟨rfl, rfl⟩ := e
    rw [if_pos (⟨rfl, rfl⟩ : s' = s' ∧ y = y)]
    have : (l.find? fun a => decide ((a.ours != s' || a.opt != y) = true ∧ (a.ours == s' && a.opt == y) = true)) = none := by
      rw [List.find?_eq_none]
      intro a _
      cases h1 : (a.ours == s') <;> cases h2 : (a.opt == y) <;> simp_all
    rw [this]
    by_cases h0 : st = 0
    · subst h0; simp
    · simp [h0]
  · rw [if_neg e]
    have h1 : (l.find? fun a => decide ((a.ours != s || a.opt != x) = true ∧ (a.ours == s' && a.opt == y) = true)) = l.find? fun a => a.ours == s' && a.opt == y := by
      congr 1
      funext a
      cases h1 : (a.ours == s' && a.opt == y)
      · simp
      · simp only [Bool.and_eq_true, beq_iff_eq] at h1
        simp only [and_true, decide_eq_true_eq, Bool.or_eq_true, bne_iff_ne]
        rw [h1.1, h1.2]
        by_cases h : s' = s
        · exact .inr fun h' => e ⟨h, h'⟩
        · exact .inl h
    rw [h1]
    have h2 : (if (st != 0) = true then [(⟨s, x, st⟩ : One)] else []).find? (fun a => a.ours == s' && a.opt == y) = none := by
      rw [List.find?_eq_none]
      intro a ha
      split at ha
      · simp at ha
        subst ha
        simp only [Bool.and_eq_true, beq_iff_eq, not_and]
        intro h h'
        exact e ⟨h.symm, h'.symm⟩
      · cases ha
    rw [h2]
    cases l.find? (fun a => a.ours == s' && a.opt == y) <;> rfl
theorem setR_length (l : List One) (s : Bool) (x st : Int) : (setR l s x st).length ≤ l.length + 1 := by
  unfold setR
  rw [List.length_append]
  have := List.length_filter_le (fun a : One => a.ours != s || a.opt != x) l
  split <;> simp <;> omega
theorem Rel.put {o : Opt} {l : List One} {lo lt : List Int} (h : Rel o l lo lt) (s : Bool) {x : Nat} (hx : x < 256) {v : Int} (hv : 0 ≤ v ∧ v ≤ 5) : Rel (o.set s x v) (setR l s (x : Int) v) lo lt := by
  refine ⟨fun s' y hy => ?_, h.may, fun s' y => ?_, fun a ha => ?_⟩
  · rw [stateR_set, h.st s' y hy]
    simp only [Opt.set]
    have e : (s' = s ∧ (y : Int) = (x : Int)) ↔ (s' = s ∧ y = x) := by constructor <;> rintro ⟨a, b⟩ <;> exact ⟨a, by omega⟩
    simp only [e]
  · simp only [Opt.set]
    split
    · exact hv
    · exact h.low s' y
  · unfold setR at ha
    rcases List.mem_append.1 ha with ha | ha
    · obtain ⟨ha, hk⟩ := List.mem_filter.1 ha
      obtain ⟨h1, h2, h3⟩ := h.own a ha
      refine ⟨h1, h2, ?_⟩
      rw [stateR_set, if_neg ?_]
      · exact h3
      · rintro ⟨e1, e2⟩
        simp [e1, e2] at hk
    · split at ha
      · simp at ha
        subst ha
        refine ⟨by simp, by simp; omega, ?_⟩
        rw [stateR_set, if_pos ⟨rfl, rfl⟩]
      · cases ha
theorem Rel.low' {o : Opt} {l : List One} {lo lt : List Int} (h : Rel o l lo lt) {x : Nat} (hx : x < 256) (s : Bool) : 0 ≤ stateR l s (x : Int) ∧ stateR l s (x : Int) ≤ 5 := by
  rw [h.st s x hx]; exact h.low s x
theorem Rel.got1 {o : Opt} {l : List One} {lo lt : List Int} (h : Rel o l lo lt) {x : Nat} (hx : x < 256) (s on : Bool) :
    Rel (if on then o.gotOn s x else o.gotOff s x).1 (gotS l lo lt s on x).1 lo lt ∧ (if on then o.gotOn s x else o.gotOff s x).2 = (gotS l lo lt s on x).2 := by
  have e1 := h.st s x hx
  have e2 := h.may s x
  have e3 := h.low s x
  unfold Opt.gotOn Opt.gotOff Opt.put gotS
  rw [e1, ← e2]
  generalize hst : o.st s x = st at *
  generalize hmy : o.may s x = my at *
  have hc : st = 0 ∨ st = 1 ∨ st = 2 ∨ st = 3 ∨ st = 4 ∨ st = 5 := by omega
  rcases hc with rfl | rfl | rfl | rfl | rfl | rfl <;> cases on <;> cases my <;> cases s <;> exact ⟨h.put _ hx (by decide), rfl⟩
theorem Rel.want1 {o : Opt} {l : List One} {lo lt : List Int} (h : Rel o l lo lt) {x : Nat} (hx : x < 256) (s on : Bool) :
    Rel (if on then o.wantOn s x else o.wantOff s x).1 (wantS l s on x).1 lo lt ∧ (if on then o.wantOn s x else o.wantOff s x).2 = (wantS l s on x).2 := by
  have e1 := h.st s x hx
  have e3 := h.low s x
  unfold Opt.wantOn Opt.wantOff Opt.wish wantS
  rw [e1]
  generalize hst : o.st s x = st at *
  have hc : st = 0 ∨ st = 1 ∨ st = 2 ∨ st = 3 ∨ st = 4 ∨ st = 5 := by omega
  rcases hc with rfl | rfl | rfl | rfl | rfl | rfl <;> cases on <;> cases s <;> first | exact ⟨h.put _ hx (by decide), rfl⟩ | exact ⟨h, rfl⟩
theorem Rel.got {o : Opt} {l : List One} {lo lt : List Int} (h : Rel o l lo lt) {x : Nat} (hx : x < 256) (c : Int) : Rel (o.got c x).1 (gotL l lo lt c x).1 lo lt ∧ (o.got c x).2 = (gotL l lo lt c x).2 := by
  unfold Opt.got gotL
  split
  · exact h.got1 hx false true
  split
  · exact h.got1 hx false false
  split
  · exact h.got1 hx true true
  split
  · exact h.got1 hx true false
  exact ⟨h, rfl⟩
theorem Rel.want {o : Opt} {l : List One} {lo lt : List Int} (h : Rel o l lo lt) {x : Nat} (hx : x < 256) (c : Int) : Rel (o.want c x).1 (wantL l c x).1 lo lt ∧ (o.want c x).2 = (wantL l c x).2 := by
  unfold Opt.want wantL
  split
  · exact h.want1 hx true true
  split
  · exact h.want1 hx true false
  split
  · exact h.want1 hx false true
  split
  · exact h.want1 hx false false
  exact ⟨h, rfl⟩
theorem gotL_length (l : List One) (lo lt : List Int) (c x : Int) : (gotL l lo lt c x).1.length ≤ l.length + 1 := by
  unfold gotL gotS
  repeat' split
  all_goals first | exact setR_length _ _ _ _ | (simp; done)
theorem wantL_length (l : List One) (c x : Int) : (wantL l c x).1.length ≤ l.length + 1 := by
  unfold wantL wantS
  repeat' split
  all_goals first | exact setR_length _ _ _ _ | (simp; done)
theorem Rel.busy {o : Opt} {l : List One} {lo lt : List Int} (h : Rel o l lo lt) : busyL o = l.any fun a => decide (1 < a.st) := by
  rw [Bool.eq_iff_iff, ← busy_iff, List.any_eq_true]
  constructor
  · rintro ⟨s, i, hi, hst⟩
    rw [← h.st s i hi] at hst
    unfold stateR at hst
    cases hf : l.find? (fun a => a.ours == s && a.opt == (i : Int)) with
    | none => rw [hf] at hst; simp at hst
    | some a =>
      rw [hf] at hst
      exact ⟨a, List.mem_of_find?_eq_some hf, by simpa using hst⟩
  · rintro ⟨a, ha, hst⟩
    obtain ⟨h1, h2, h3⟩ := h.own a ha
    obtain ⟨y, hy⟩ := Int.eq_ofNat_of_zero_le h1
    rw [hy] at h3
    refine ⟨a.ours, y, by omega, ?_⟩
    rw [← h.st a.ours y (by omega)]
    show 1 < stateR l a.ours ((y : Nat) : Int)
    rw [h3]
    simpa using hst
theorem Rel.ons {o : Opt} {l : List One} {lo lt : List Int} (h : Rel o l lo lt) (s : Bool) : onsR l s 256 = ons o s 256 := by
  unfold onsR Go.Proofs.Ytioaenidkieiiaa.ons
  congr 1
  refine List.filter_congr fun x hx => ?_
  rw [h.st s x (List.mem_range.1 hx)]
theorem Rel.new (lo lt : List Int) : Rel (Opt.new lo lt) [] lo lt := by
  refine ⟨fun s y _ => rfl, fun s y => ?_, fun s y => ⟨Int.le_refl 0, show (0 : Int) ≤ 5 by decide⟩, fun a ha => by cases ha⟩
  unfold Opt.new Opt.allow Opt.zero mayL hasL
  cases s <;> simp
end Go.Proofs.Ytioaenidkieiiaa
