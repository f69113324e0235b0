/- OptionRests: the plain law, of all options and both sides at once. -/
import Derived.Test.YtioaenidkieiiaaT6r
namespace Go.Proofs.Ytioaenidkieiiaa
set_option linter.unusedVariables false
set_option linter.unusedSimpArgs false
open Go.RowKit

structure Ln where
  o : Bool → Opt
  q : Bool → List (Int × Nat)
  n : Nat
def fA (x : Nat) (p : Int × Nat) : Option Bool := if p.2 = x then (if p.1 = 251 then some true else if p.1 = 252 then some false else none) else none
def fB (x : Nat) (p : Int × Nat) : Option Bool := if p.2 = x then (if p.1 = 253 then some true else if p.1 = 254 then some false else none) else none
def cf (L : Ln) (s : Bool) (x : Nat) : Cf := ((L.o s).st true x, (L.o (!s)).st false x, (L.q (!s)).filterMap (fA x), (L.q s).filterMap (fB x))
/-- bits as words of an option of one's own, or of the other one's -/
def wds (own : Bool) (x : Nat) (l : List Bool) : List (Int × Nat) := l.map fun w => (if own then (if w then 251 else 252) else (if w then 253 else 254), x)
theorem wds_A_own (x : Nat) (l : List Bool) : (wds true x l).filterMap (fA x) = l := by
  unfold wds
  rw [List.filterMap_map]
  induction l with
  | nil => rfl
  | cons w l ih => cases w <;> simp [fA, ih] <;> exact ih
theorem wds_B_other (x : Nat) (l : List Bool) : (wds false x l).filterMap (fB x) = l := by
  unfold wds
  rw [List.filterMap_map]
  induction l with
  | nil => rfl
  | cons w l ih => cases w <;> simp [fB, ih] <;> exact ih
theorem wds_A_other (x y : Nat) (l : List Bool) : (wds false x l).filterMap (fA y) = [] := by
  rw [List.filterMap_eq_nil_iff]
  intro p hp
  unfold wds at hp
  obtain ⟨w, _, rfl⟩ := List.mem_map.1 hp
  cases w <;> simp [fA]
theorem wds_B_own (x y : Nat) (l : List Bool) : (wds true x l).filterMap (fB y) = [] := by
  rw [List.filterMap_eq_nil_iff]
  intro p hp
  unfold wds at hp
  obtain ⟨w, _, rfl⟩ := List.mem_map.1 hp
  cases w <;> simp [fB]
theorem wds_A_ne (own : Bool) {x y : Nat} (h : x ≠ y) (l : List Bool) : (wds own x l).filterMap (fA y) = [] := by
  rw [List.filterMap_eq_nil_iff]
  intro p hp
  unfold wds at hp
  obtain ⟨w, _, rfl⟩ := List.mem_map.1 hp
  simp [fA, h]
theorem wds_B_ne (own : Bool) {x y : Nat} (h : x ≠ y) (l : List Bool) : (wds own x l).filterMap (fB y) = [] := by
  rw [List.filterMap_eq_nil_iff]
  intro p hp
  unfold wds at hp
  obtain ⟨w, _, rfl⟩ := List.mem_map.1 hp
  simp [fB, h]
/-- one side's option turns, words go to the other side, and the first one that came is gone -/
def Ln.turn (L : Ln) (sd : Bool) (own : Bool) (x : Nat) (r : Int × List Bool) (rest : List (Int × Nat)) : Ln :=
  ⟨fun s => if s = sd then (L.o sd).set own x r.1 else L.o s, fun s => if s = sd then rest else L.q s ++ wds own x r.2, L.n + r.2.length⟩
theorem Opt.set_st (o : Opt) (own : Bool) (x : Nat) (v : Int) (s : Bool) (y : Nat) : (o.set own x v).st s y = if s = own ∧ y = x then v else o.st s y := rfl
theorem bne_not (s : Bool) : (!s) ≠ s := by cases s <;> decide
theorem not_bne (s : Bool) : s ≠ !s := by cases s <;> decide
/-- what turns of what is between the sides -/
theorem turn_cf_A (L : Ln) (sd : Bool) (x : Nat) (r : Int × List Bool) (rest : List (Int × Nat)) (hA : ∀ y, rest.filterMap (fA y) = (L.q sd).filterMap (fA y)) (hB : ∀ y, y ≠ x → rest.filterMap (fB y) = (L.q sd).filterMap (fB y)) (s : Bool) (y : Nat) :
    cf (L.turn sd true x r rest) s y = if s = sd ∧ y = x then (r.1, (L.o (!sd)).st false x, (L.q (!sd)).filterMap (fA x) ++ r.2, rest.filterMap (fB x)) else cf L s y := by
  unfold cf Ln.turn
  by_cases hs : s = sd
  · subst hs
    by_cases hy : y = x
    · subst hy
      simp only [if_pos rfl, and_self, if_true, Opt.set_st, if_neg (bne_not s), List.filterMap_append, wds_A_own]
    · simp only [hy, and_false, if_false, if_true, Opt.set_st, if_neg (bne_not s), List.filterMap_append, wds_A_ne true (Ne.symm hy), List.append_nil, hB y hy]
  · have hs' : s = !sd := by cases s <;> cases sd <;> simp_all
    subst hs'
    simp only [hs, false_and, if_false, Bool.not_not, if_true, Opt.set_st, Bool.false_eq_true, List.filterMap_append, wds_B_own, List.append_nil, hA y]
theorem turn_cf_B (L : Ln) (sd : Bool) (x : Nat) (r : Int × List Bool) (rest : List (Int × Nat)) (hB : ∀ y, rest.filterMap (fB y) = (L.q sd).filterMap (fB y)) (hA : ∀ y, y ≠ x → rest.filterMap (fA y) = (L.q sd).filterMap (fA y)) (s : Bool) (y : Nat) :
    cf (L.turn sd false x r rest) s y = if s = (!sd) ∧ y = x then ((L.o (!sd)).st true x, r.1, rest.filterMap (fA x), (L.q (!sd)).filterMap (fB x) ++ r.2) else cf L s y := by
  unfold cf Ln.turn
  by_cases hs : s = !sd
  · subst hs
    by_cases hy : y = x
    · subst hy
      simp only [if_pos rfl, and_self, if_true, Bool.not_not, Opt.set_st, if_neg (bne_not sd), List.filterMap_append, wds_B_other]
    · simp only [hy, and_false, if_false, Bool.not_not, if_true, Opt.set_st, if_neg (bne_not sd), List.filterMap_append, wds_B_ne false (Ne.symm hy), List.append_nil, hA y hy]
  · have hs' : s = sd := by cases s <;> cases sd <;> simp_all
    subst hs'
    simp only [hs, false_and, if_false, if_true, Opt.set_st, Bool.true_eq_false, if_neg (bne_not s), List.filterMap_append, wds_A_other, List.append_nil, hB y]

/-! ### the sum over all options of both sides -/
def idx : List (Bool × Nat) := (List.range 256).map (fun x => (false, x)) ++ (List.range 256).map (fun x => (true, x))
theorem idx_mem {s : Bool} {x : Nat} (h : x < 256) : (s, x) ∈ idx := by unfold idx; cases s <;> simp [h]
theorem idx_lt {p : Bool × Nat} (h : p ∈ idx) : p.2 < 256 := by
  unfold idx at h
  rcases List.mem_append.1 h with h | h <;> (obtain ⟨x, hx, rfl⟩ := List.mem_map.1 h; exact List.mem_range.1 hx)
theorem idx_nodup : idx.Nodup := by
  unfold idx
  rw [List.nodup_append]
  refine ⟨?_, ?_, ?_⟩
  · exact List.Pairwise.map _ (fun a b h => by simpa using h) List.nodup_range
  · exact List.Pairwise.map _ (fun a b h => by simpa using h) List.nodup_range
  · intro a ha b hb
    obtain ⟨x, _, rfl⟩ := List.mem_map.1 ha
    obtain ⟨y, _, rfl⟩ := List.mem_map.1 hb
    simp
theorem sum_turn {α : Type} [DecidableEq α] (f g : α → Nat) (p : α) : ∀ (l : List α), l.Nodup → p ∈ l → (∀ a ∈ l, a ≠ p → g a = f a) → (l.map g).sum + f p = (l.map f).sum + g p
  | [], _, h, _ => by cases h
  | a :: l, hn, h, hf => by
    obtain ⟨h1, h2⟩ := List.nodup_cons.1 hn
    simp only [List.map_cons, List.sum_cons]
    by_cases e : a = p
    · subst e
      have : l.map g = l.map f := List.map_congr_left fun b hb => hf b (List.mem_cons_of_mem _ hb) (fun e => h1 (e ▸ hb))
      rw [this]; omega
    · have hp : p ∈ l := by
        rcases List.mem_cons.1 h with h | h
        · exact absurd h.symm e
        · exact h
      have := sum_turn f g p l h2 hp (fun b hb => hf b (List.mem_cons_of_mem _ hb))
      rw [hf a List.mem_cons_self e]; omega
def potD (c : Cf) : Nat := (potC c).getD 0
def tot (L : Ln) : Nat := (idx.map fun p => potD (cf L p.1 p.2)).sum
/-- after so many wishes -/
structure LnI (L : Ln) (m : Nat) : Prop where
  pot : ∀ s x, x < 256 → ∃ v, potC (cf L s x) = some v
  wd : ∀ s, ∀ p ∈ L.q s, (251 ≤ p.1 ∧ p.1 ≤ 254) ∧ p.2 < 256
  sum : L.n + tot L ≤ 2 * m
theorem LnI.turn {L L' : Ln} {m m' : Nat} (h : LnI L m) {s : Bool} {x : Nat} (hx : x < 256) {c' : Cf × Nat} (hc : cf L' s x = c'.1) (hn : L'.n = L.n + c'.2) (ho : ∀ s' y, ¬ (s' = s ∧ y = x) → cf L' s' y = cf L s' y)
    (hp : ∀ v, potC (cf L s x) = some v → ∃ v', potC c'.1 = some v' ∧ v' + c'.2 ≤ v + 2 * (m' - m)) (hm : m ≤ m') (hw : ∀ s, ∀ p ∈ L'.q s, (251 ≤ p.1 ∧ p.1 ≤ 254) ∧ p.2 < 256) : LnI L' m' := by
  obtain ⟨v, hv⟩ := h.pot s x hx
  obtain ⟨v', hv', hle⟩ := hp v hv
  refine ⟨fun s' y hy => ?_, hw, ?_⟩
  · by_cases e : s' = s ∧ y = x
    · obtain ⟨rfl, rfl⟩ := e
      rw [hc]; exact ⟨v', hv'⟩
    · rw [ho s' y e]; exact h.pot s' y hy
  · have hs := sum_turn (fun p => potD (cf L p.1 p.2)) (fun p => potD (cf L' p.1 p.2)) (s, x) idx idx_nodup (idx_mem hx) (fun a _ hne => by
      show potD (cf L' a.1 a.2) = potD (cf L a.1 a.2)
      rw [ho a.1 a.2 (fun e => hne (by rw [← e.1, ← e.2]))])
    simp only at hs
    rw [hc] at hs
    have e1 : potD (cf L s x) = v := by unfold potD; rw [hv]; rfl
    have e2 : potD c'.1 = v' := by unfold potD; rw [hv']; rfl
    rw [e1, e2] at hs
    have := h.sum
    unfold tot at this ⊢
    omega
/-! ### what comes, and what is wanted -/
def saidW (own : Bool) (x : Nat) (l : List Bool) : List Int := match l with
  | [] => []
  | w :: _ => [255, if own then (if w then 251 else 252) else (if w then 253 else 254), (x : Int)]
theorem gotC_len (s : Int) (m w : Bool) : (gotC s m w).2.length ≤ 1 := by
  unfold gotC onC offC
  repeat' split
  all_goals simp
theorem wishC_len (s : Int) (w : Bool) : (wishC s w).2.length ≤ 1 := by
  unfold wishC
  repeat' split
  all_goals simp
theorem gotOn_turn (o : Opt) (s : Bool) (x : Nat) : o.gotOn s x = (o.set s x (gotC (o.st s x) (o.may s x) true).1, saidW s x (gotC (o.st s x) (o.may s x) true).2) := by
  unfold Opt.gotOn Opt.put gotC onC onM
  generalize o.st s x = st
  generalize o.may s x = my
  by_cases h0 : (st == 0) = true
  · simp only [h0, if_true]; cases my <;> cases s <;> rfl
  by_cases h1 : (st == 2) = true
  · simp only [h0, h1, if_true, Bool.false_eq_true, if_false]; cases s <;> rfl
  by_cases h2 : (st == 5) = true
  · simp only [h0, h1, h2, if_true, Bool.false_eq_true, if_false]; cases s <;> rfl
  simp only [h0, h1, h2, if_true, Bool.false_eq_true, if_false]
  cases s <;> rfl
theorem gotOff_turn (o : Opt) (s : Bool) (x : Nat) : o.gotOff s x = (o.set s x (gotC (o.st s x) (o.may s x) false).1, saidW s x (gotC (o.st s x) (o.may s x) false).2) := by
  unfold Opt.gotOff Opt.put gotC offC offM
  generalize o.st s x = st
  by_cases h0 : (st == 1) = true
  · simp only [h0, if_true, Bool.false_eq_true, if_false]; cases s <;> rfl
  by_cases h1 : (st == 4) = true
  · simp only [h0, h1, if_true, Bool.false_eq_true, if_false]; cases s <;> rfl
  simp only [h0, h1, if_true, Bool.false_eq_true, if_false]
  cases s <;> rfl
def ownG (c : Int) : Bool := decide (c = 253 ∨ c = 254)
def wordG (c : Int) : Bool := decide (c = 251 ∨ c = 253)
theorem got_turn (o : Opt) {c : Int} (hc : 251 ≤ c ∧ c ≤ 254) (x : Nat) : o.got c x = (o.set (ownG c) x (gotC (o.st (ownG c) x) (o.may (ownG c) x) (wordG c)).1, saidW (ownG c) x (gotC (o.st (ownG c) x) (o.may (ownG c) x) (wordG c)).2) := by
  have h : c = 251 ∨ c = 252 ∨ c = 253 ∨ c = 254 := by omega
  rcases h with rfl | rfl | rfl | rfl
  · exact gotOn_turn o false x
  · exact gotOff_turn o false x
  · exact gotOn_turn o true x
  · exact gotOff_turn o true x
theorem set_self (o : Opt) (s : Bool) (x : Nat) : o.set s x (o.st s x) = o := by
  unfold Opt.set
  have : (fun s' y => if s' = s ∧ y = x then o.st s x else o.st s' y) = o.st := by
    funext s' y
    split
    · rename_i h; rw [h.1, h.2]
    · rfl
  rw [this]
theorem wantOn_turn (o : Opt) (s : Bool) (x : Nat) : (o.wantOn s x).1 = o.set s x (wishC (o.st s x) true).1 ∧ (o.wantOn s x).2.1 = saidW s x (wishC (o.st s x) true).2 := by
  have hs := set_self o s x
  unfold Opt.wantOn wishC wishOn
  generalize o.st s x = st at *
  by_cases h0 : (st == 0) = true
  · simp only [h0, if_true, Bool.false_eq_true, if_false]; cases s <;> exact ⟨rfl, rfl⟩
  by_cases h1 : (st == 2) = true
  · simp only [h0, h1, if_true, Bool.false_eq_true, if_false]; cases s <;> exact ⟨rfl, rfl⟩
  by_cases h2 : (st == 5) = true
  · simp only [h0, h1, h2, if_true, Bool.false_eq_true, if_false]; cases s <;> exact ⟨rfl, rfl⟩
  simp only [h0, h1, h2, if_true, Bool.false_eq_true, if_false]
  exact ⟨hs.symm, rfl⟩
theorem wantOff_turn (o : Opt) (s : Bool) (x : Nat) : (o.wantOff s x).1 = o.set s x (wishC (o.st s x) false).1 ∧ (o.wantOff s x).2.1 = saidW s x (wishC (o.st s x) false).2 := by
  have hs := set_self o s x
  unfold Opt.wantOff wishC wishOff
  generalize o.st s x = st at *
  by_cases h0 : (st == 1) = true
  · simp only [h0, if_true, Bool.false_eq_true, if_false]; cases s <;> exact ⟨rfl, rfl⟩
  by_cases h1 : (st == 3) = true
  · simp only [h0, h1, if_true, Bool.false_eq_true, if_false]; cases s <;> exact ⟨rfl, rfl⟩
  by_cases h2 : (st == 4) = true
  · simp only [h0, h1, h2, if_true, Bool.false_eq_true, if_false]; cases s <;> exact ⟨rfl, rfl⟩
  simp only [h0, h1, h2, if_true, Bool.false_eq_true, if_false]
  exact ⟨hs.symm, rfl⟩
def ownW (c : Int) : Bool := decide (c = 251 ∨ c = 252)
theorem want_turn (o : Opt) {c : Int} (hc : 251 ≤ c ∧ c ≤ 254) (x : Nat) : (o.want c x).1 = o.set (ownW c) x (wishC (o.st (ownW c) x) (wordG c)).1 ∧ (o.want c x).2.1 = saidW (ownW c) x (wishC (o.st (ownW c) x) (wordG c)).2 := by
  have h : c = 251 ∨ c = 252 ∨ c = 253 ∨ c = 254 := by omega
  rcases h with rfl | rfl | rfl | rfl
  · exact wantOn_turn o true x
  · exact wantOff_turn o true x
  · exact wantOn_turn o false x
  · exact wantOff_turn o false x
theorem want_none (o : Opt) {c : Int} (hc : ¬ (251 ≤ c ∧ c ≤ 254)) (x : Nat) : (o.want c x).1 = o ∧ (o.want c x).2.1 = [] := by
  unfold Opt.want
  rw [if_neg (by simp; omega), if_neg (by simp; omega), if_neg (by simp; omega), if_neg (by simp; omega)]
  exact ⟨rfl, rfl⟩
/-- the first word comes to a side -/
def Ln.come (L : Ln) (sd : Bool) : Ln := match L.q sd with
  | [] => L
  | (c, x) :: rest => L.turn sd (ownG c) x (gotC ((L.o sd).st (ownG c) x) ((L.o sd).may (ownG c) x) (wordG c)) rest
def Ln.wish (L : Ln) (sd : Bool) (c : Int) (x : Nat) : Ln := if 251 ≤ c ∧ c ≤ 254 then L.turn sd (ownW c) x (wishC ((L.o sd).st (ownW c) x) (wordG c)) (L.q sd) else L
theorem turn_wd {L : Ln} {sd own : Bool} {x : Nat} {r : Int × List Bool} {rest : List (Int × Nat)} (hx : x < 256) (h : ∀ s, ∀ p ∈ L.q s, (251 ≤ p.1 ∧ p.1 ≤ 254) ∧ p.2 < 256) (hr : ∀ p ∈ rest, (251 ≤ p.1 ∧ p.1 ≤ 254) ∧ p.2 < 256) :
    ∀ s, ∀ p ∈ (L.turn sd own x r rest).q s, (251 ≤ p.1 ∧ p.1 ≤ 254) ∧ p.2 < 256 := by
  intro s p hp
  unfold Ln.turn at hp
  simp only at hp
  split at hp
  · exact hr p hp
  · rcases List.mem_append.1 hp with hp | hp
    · exact h s p hp
    · unfold wds at hp
      obtain ⟨w, _, rfl⟩ := List.mem_map.1 hp
      cases own <;> cases w <;> simp [hx]
theorem LnI.come {L : Ln} {m : Nat} (h : LnI L m) (sd : Bool) : LnI (L.come sd) m := by
  unfold Ln.come
  cases hq : L.q sd with
  | nil => exact h
  | cons p rest =>
    obtain ⟨c, x⟩ := p
    obtain ⟨hc, hx⟩ := h.wd sd (c, x) (by rw [hq]; exact List.mem_cons_self)
    simp only at hc hx ⊢
    have hrest : ∀ p ∈ rest, (251 ≤ p.1 ∧ p.1 ≤ 254) ∧ p.2 < 256 := fun p hp => h.wd sd p (by rw [hq]; exact List.mem_cons_of_mem _ hp)
    have hcc : c = 251 ∨ c = 252 ∨ c = 253 ∨ c = 254 := by omega
    by_cases ho : c = 253 ∨ c = 254
    · have e1 : ownG c = true := by unfold ownG; exact decide_eq_true ho
      rw [e1]
      have hA : ∀ y, rest.filterMap (fA y) = (L.q sd).filterMap (fA y) := by
        intro y
        rw [hq, List.filterMap_cons]
        have : fA y (c, x) = none := by unfold fA; rcases ho with rfl | rfl <;> simp
        rw [this]
      have hB : ∀ y, y ≠ x → rest.filterMap (fB y) = (L.q sd).filterMap (fB y) := by
        intro y hy
        rw [hq, List.filterMap_cons]
        have : fB y (c, x) = none := by unfold fB; rw [if_neg (fun e => hy e.symm)]
        rw [this]
      have hB0 : (L.q sd).filterMap (fB x) = wordG c :: rest.filterMap (fB x) := by
        rw [hq, List.filterMap_cons]
        have : fB x (c, x) = some (wordG c) := by unfold fB wordG; rcases ho with rfl | rfl <;> simp
        rw [this]
      have ht := turn_cf_A L sd x (gotC ((L.o sd).st true x) ((L.o sd).may true x) (wordG c)) rest hA hB
      have hc2 : comeA (cf L sd x) ((L.o sd).may true x) = (((gotC ((L.o sd).st true x) ((L.o sd).may true x) (wordG c)).1, (L.o (!sd)).st false x, (L.q (!sd)).filterMap (fA x) ++ (gotC ((L.o sd).st true x) ((L.o sd).may true x) (wordG c)).2, rest.filterMap (fB x)), (gotC ((L.o sd).st true x) ((L.o sd).may true x) (wordG c)).2.length) := by
        unfold comeA cf
        simp only [hB0]
      refine h.turn (s := sd) hx (c' := comeA (cf L sd x) ((L.o sd).may true x)) (by rw [ht, if_pos ⟨rfl, rfl⟩, hc2]) (by rw [hc2]; rfl) (fun s' y e => by rw [ht, if_neg e]) (fun v hv => ?_) (Nat.le_refl _) (turn_wd hx h.wd hrest)
      obtain ⟨v', h1, h2⟩ := pot_cA hv ((L.o sd).may true x)
      exact ⟨v', h1, by omega⟩
    · have e1 : ownG c = false := by unfold ownG; exact decide_eq_false ho
      rw [e1]
      have hB : ∀ y, rest.filterMap (fB y) = (L.q sd).filterMap (fB y) := by
        intro y
        rw [hq, List.filterMap_cons]
        have : fB y (c, x) = none := by unfold fB; rcases hcc with rfl | rfl | rfl | rfl <;> simp_all
        rw [this]
      have hA : ∀ y, y ≠ x → rest.filterMap (fA y) = (L.q sd).filterMap (fA y) := by
        intro y hy
        rw [hq, List.filterMap_cons]
        have : fA y (c, x) = none := by unfold fA; rw [if_neg (fun e => hy e.symm)]
        rw [this]
      have hA0 : (L.q sd).filterMap (fA x) = wordG c :: rest.filterMap (fA x) := by
        rw [hq, List.filterMap_cons]
        have : fA x (c, x) = some (wordG c) := by unfold fA wordG; rcases hcc with rfl | rfl | rfl | rfl <;> simp_all
        rw [this]
      have ht := turn_cf_B L sd x (gotC ((L.o sd).st false x) ((L.o sd).may false x) (wordG c)) rest hB hA
      have hc2 : comeB (cf L (!sd) x) ((L.o sd).may false x) = (((L.o (!sd)).st true x, (gotC ((L.o sd).st false x) ((L.o sd).may false x) (wordG c)).1, rest.filterMap (fA x), (L.q (!sd)).filterMap (fB x) ++ (gotC ((L.o sd).st false x) ((L.o sd).may false x) (wordG c)).2), (gotC ((L.o sd).st false x) ((L.o sd).may false x) (wordG c)).2.length) := by
        unfold comeB cf
        simp only [Bool.not_not, hA0]
      refine h.turn (s := !sd) hx (c' := comeB (cf L (!sd) x) ((L.o sd).may false x)) (by rw [ht, if_pos ⟨rfl, rfl⟩, hc2]) (by rw [hc2]; rfl) (fun s' y e => by rw [ht, if_neg e]) (fun v hv => ?_) (Nat.le_refl _) (turn_wd hx h.wd hrest)
      obtain ⟨v', h1, h2⟩ := pot_cB hv ((L.o sd).may false x)
      exact ⟨v', h1, by omega⟩
theorem LnI.wish {L : Ln} {m : Nat} (h : LnI L m) (sd : Bool) (c : Int) {x : Nat} (hx : x < 256) : LnI (L.wish sd c x) (m + 1) := by
  unfold Ln.wish
  by_cases hc : 251 ≤ c ∧ c ≤ 254
  · rw [if_pos hc]
    cases ho : ownW c
    · have ht := turn_cf_B L sd x (wishC ((L.o sd).st false x) (wordG c)) (L.q sd) (fun _ => rfl) (fun _ _ => rfl)
      have hc2 : stepB (cf L (!sd) x) (wordG c) = (((L.o (!sd)).st true x, (wishC ((L.o sd).st false x) (wordG c)).1, (L.q sd).filterMap (fA x), (L.q (!sd)).filterMap (fB x) ++ (wishC ((L.o sd).st false x) (wordG c)).2), (wishC ((L.o sd).st false x) (wordG c)).2.length) := by
        unfold stepB cf
        simp only [Bool.not_not]
      refine h.turn (s := !sd) hx (c' := stepB (cf L (!sd) x) (wordG c)) (by rw [ht, if_pos ⟨rfl, rfl⟩, hc2]) (by rw [hc2]; rfl) (fun s' y e => by rw [ht, if_neg e]) (fun v hv => ?_) (Nat.le_succ m) (turn_wd hx h.wd (h.wd sd))
      obtain ⟨v', h1, h2⟩ := pot_B hv (wordG c)
      exact ⟨v', h1, by omega⟩
    · have ht := turn_cf_A L sd x (wishC ((L.o sd).st true x) (wordG c)) (L.q sd) (fun _ => rfl) (fun _ _ => rfl)
      have hc2 : stepA (cf L sd x) (wordG c) = (((wishC ((L.o sd).st true x) (wordG c)).1, (L.o (!sd)).st false x, (L.q (!sd)).filterMap (fA x) ++ (wishC ((L.o sd).st true x) (wordG c)).2, (L.q sd).filterMap (fB x)), (wishC ((L.o sd).st true x) (wordG c)).2.length) := rfl
      refine h.turn (s := sd) hx (c' := stepA (cf L sd x) (wordG c)) (by rw [ht, if_pos ⟨rfl, rfl⟩, hc2]) (by rw [hc2]; rfl) (fun s' y e => by rw [ht, if_neg e]) (fun v hv => ?_) (Nat.le_succ m) (turn_wd hx h.wd (h.wd sd))
      obtain ⟨v', h1, h2⟩ := pot_A hv (wordG c)
      exact ⟨v', h1, by omega⟩
  · rw [if_neg hc]
    exact ⟨h.pot, h.wd, by have := h.sum; omega⟩
/-- how much is still to be done -/
def Ln.left (L : Ln) : Nat := (L.q false).length + (L.q true).length + tot L
theorem come_n (L : Ln) (sd : Bool) : (L.come sd).n + (L.q false).length + (L.q true).length = L.n + ((L.come sd).q false).length + ((L.come sd).q true).length + (if L.q sd = [] then 0 else 1) := by
  unfold Ln.come
  cases hq : L.q sd with
  | nil => simp
  | cons p rest =>
    obtain ⟨c, x⟩ := p
    simp only [List.cons_ne_nil, if_false]
    unfold Ln.turn
    cases sd
    · simp only [if_pos rfl, hq, List.length_cons, Bool.true_eq_false, if_false, List.length_append, wds, List.length_map]
      simp
      omega
    · simp only [if_pos rfl, hq, List.length_cons, Bool.false_eq_true, if_false, List.length_append, wds, List.length_map]
      simp
      omega
theorem LnI.new (a b c d : List Int) : LnI ⟨fun s => if s then Opt.new c d else Opt.new a b, fun _ => [], 0⟩ 0 := by
  have h0 : ∀ s x, potC (cf ⟨fun s => if s then Opt.new c d else Opt.new a b, fun _ => [], 0⟩ s x) = some 0 := by
    intro s x
    have : cf ⟨fun s => if s then Opt.new c d else Opt.new a b, fun _ => [], 0⟩ s x = (0, 0, [], []) := by
      unfold cf
      cases s <;> rfl
    rw [this]; decide
  refine ⟨fun s x _ => ⟨0, h0 s x⟩, fun s p hp => (by cases hp), ?_⟩
  show 0 + tot _ ≤ 0
  have : ∀ l : List (Bool × Nat), (l.map fun p => potD (cf ⟨fun s => if s then Opt.new c d else Opt.new a b, fun _ => [], 0⟩ p.1 p.2)).sum = 0 := by
    intro l
    induction l with
    | nil => rfl
    | cons p l ih =>
      rw [List.map_cons, List.sum_cons, ih]
      unfold potD
      rw [h0]; rfl
  unfold tot
  rw [this]
  exact Nat.le_refl _
/-- at rest both agree -/
theorem LnI.rest {L : Ln} {m : Nat} (h : LnI L m) (h0 : L.q false = []) (h1 : L.q true = []) (s : Bool) {x : Nat} (hx : x < 256) : (L.o s).st true x = (L.o (!s)).st false x ∧ ((L.o s).st true x = 0 ∨ (L.o s).st true x = 1) := by
  obtain ⟨v, hv⟩ := h.pot s x hx
  have hq : ∀ s, L.q s = [] := by intro s; cases s <;> assumption
  have : cf L s x = ((L.o s).st true x, (L.o (!s)).st false x, [], []) := by
    unfold cf
    rw [hq, hq]; rfl
  rw [this] at hv
  exact pot_rest hv
end Go.Proofs.Ytioaenidkieiiaa
