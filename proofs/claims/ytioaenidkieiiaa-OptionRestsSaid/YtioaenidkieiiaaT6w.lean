/- OptionRests: come, as the plain law has it. -/
import Derived.Test.YtioaenidkieiiaaT6v
namespace Go.Proofs.Ytioaenidkieiiaa
set_option linter.unusedVariables false
set_option linter.unusedSimpArgs false
open Go.RowKit Go.Shelf Go.Proofs.YtioaenidkieiiaaW.PrintWords

def sdI (s : Bool) : Int := if s then 1 else 0
/-- no more is on its way than was sent -/
def Ln.few (L : Ln) : Prop := (L.q false).length + (L.q true).length ≤ L.n
theorem few_come {L : Ln} (h : L.few) (sd : Bool) : (L.come sd).few := by
  have := come_n L sd
  unfold Ln.few at h ⊢
  split at this <;> omega
theorem few_turn {L : Ln} (h : L.few) (sd own : Bool) (x : Nat) (r : Int × List Bool) : (L.turn sd own x r (L.q sd)).few := by
  unfold Ln.few Ln.turn at *
  cases sd <;> simp [wds] <;> omega
theorem few_wish {L : Ln} (h : L.few) (sd : Bool) (c : Int) (x : Nat) : (L.wish sd c x).few := by
  unfold Ln.wish
  split
  · exact few_turn h _ _ _ _
  · exact h
theorem wds_head (own : Bool) (x : Nat) {l : List Bool} (h : l.length ≤ 1) : (wds own x l).head?.toList = wds own x l ∧ saidW own x l = optW (wds own x l).head? := by
  match l, h with
  | [], _ => exact ⟨rfl, rfl⟩
  | [w], _ => exact ⟨rfl, rfl⟩
def CameP (w W : World) (lb : Nat) (b : Bool → Nat) (L L' : Ln) (sd : Bool) (v : Bool → Value) (e : Ending) (W' : World) : Prop := e = .returned (.bool (!(L.q sd).isEmpty)) ∧ (∃ v' ms', LnAt w W' lb b L' v' ms') ∧ Kp lb b v W W'
theorem come_any (sd : Bool) (w W : World) (lb : Nat) (b : Bool → Nat) (L : Ln) (v : Bool → Value) (ms : Bool → List Wm) (k : Nat) (h : LnAt w W lb b L v ms) (hI : LnI L k) (hf : L.few) (hk : k ≤ 1000) :
    Calls Try.prog 24 #[.pointer (some ⟨lb, 0, none⟩), .int .i64 (sdI sd)] W (CameP w W lb b L (L.come sd) sd v) := by
  have hn : L.n ≤ 100000 := by have := hI.sum; omega
  have hms : ∀ s, (ms s).length ≤ 100000 := by
    intro s
    have h1 : (ms s).length = (L.q s).length := by rw [← h.q, List.length_map]
    unfold Ln.few at hf
    cases s <;> omega
  cases hq : L.q sd with
  | nil =>
    have hc : L.come sd = L := by unfold Ln.come; rw [hq]
    rw [hc]
    have hr : ∀ W', W' = W → CameP w W lb b L L sd v (.returned (.bool false)) W' := fun W' e => by subst e; exact ⟨by rw [hq]; rfl, ⟨v, ms, h⟩, fun i _ _ _ _ => rfl⟩
    cases sd
    · exact (come_none_false w W lb b L v ms h hq).mono fun e W' ⟨h1, h2⟩ => by subst h1; exact hr W' h2
    · exact (come_none_true w W lb b L v ms h hq).mono fun e W' ⟨h1, h2⟩ => by subst h1; exact hr W' h2
  | cons p rest =>
    have hm := h.q sd
    rw [hq] at hm
    cases hmm : ms sd with
    | nil => rw [hmm] at hm; cases hm
    | cons m rs =>
      rw [hmm, List.map_cons] at hm
      injection hm with hm1 hm2
      obtain ⟨hc, hx⟩ := hI.wd sd p (by rw [hq]; exact List.mem_cons_self)
      rw [← hm1] at hc hx
      have hg := got_turn (L.o sd) (c := m.p.1) hc m.p.2
      obtain ⟨w1, w2⟩ := wds_head (ownG m.p.1) m.p.2 (gotC_len ((L.o sd).st (ownG m.p.1) m.p.2) ((L.o sd).may (ownG m.p.1) m.p.2) (wordG m.p.1))
      have hcm : L.come sd = L.turn sd (ownG m.p.1) m.p.2 (gotC ((L.o sd).st (ownG m.p.1) m.p.2) ((L.o sd).may (ownG m.p.1) m.p.2) (wordG m.p.1)) rest := by
        unfold Ln.come
        rw [hq, ← hm1]
      have hL : ∀ sd', sd' = sd → L.come sd = ⟨fun s => if s = sd' then ((L.o sd').got m.p.1 m.p.2).1 else L.o s, fun s => if s = (!sd') then L.q s ++ (wds (ownG m.p.1) m.p.2 (gotC ((L.o sd').st (ownG m.p.1) m.p.2) ((L.o sd').may (ownG m.p.1) m.p.2) (wordG m.p.1)).2).head?.toList else if s = sd' then rs.map Wm.p else L.q s,
          L.n + (wds (ownG m.p.1) m.p.2 (gotC ((L.o sd').st (ownG m.p.1) m.p.2) ((L.o sd').may (ownG m.p.1) m.p.2) (wordG m.p.1)).2).head?.toList.length⟩ := by
        intro sd' e
        subst e
        rw [hcm, w1, hg]
        unfold Ln.turn
        congr 1
        · funext s
          cases s <;> cases sd' <;> simp [hm2]
        · simp [wds]
      have hfin : ∀ e W', ComeP w W lb b (L.come sd) v e W' → CameP w W lb b L (L.come sd) sd v e W' := fun e W' ⟨h1, h2, h3⟩ => ⟨by rw [h1, hq]; rfl, h2, h3⟩
      cases sd
      · exact (come_word_false w W lb b L v ms m rs h hmm hms hn hx _ _ rfl rfl _ (by rw [hg]; exact w2) _ (hL false rfl)).mono hfin
      · exact (come_word_true w W lb b L v ms m rs h hmm hms hn hx _ _ rfl rfl _ (by rw [hg]; exact w2) _ (hL true rfl)).mono hfin
theorem wish_eq (L : Ln) (sd : Bool) (c : Int) (x : Nat) : ∃ r : Option (Int × Nat), ((L.o sd).want c x).2.1 = optW r ∧ L.wish sd c x = ⟨fun s => if s = sd then ((L.o sd).want c x).1 else L.o s, fun s => if s = (!sd) then L.q s ++ r.toList else L.q s, L.n + r.toList.length⟩ := by
  by_cases hc : 251 ≤ c ∧ c ≤ 254
  · obtain ⟨h1, h2⟩ := want_turn (L.o sd) hc x
    obtain ⟨w1, w2⟩ := wds_head (ownW c) x (wishC_len ((L.o sd).st (ownW c) x) (wordG c))
    refine ⟨_, by rw [h2]; exact w2, ?_⟩
    unfold Ln.wish
    rw [if_pos hc, h1, w1]
    unfold Ln.turn
    congr 1
    · funext s
      cases s <;> cases sd <;> simp
    · simp [wds]
  · obtain ⟨h1, h2⟩ := want_none (L.o sd) hc x
    refine ⟨none, h2, ?_⟩
    unfold Ln.wish
    rw [if_neg hc, h1]
    cases L
    simp only [Option.toList_none, List.append_nil, ite_self, List.length_nil, Nat.add_zero]
    congr 1
    funext s
    split
    · rename_i e; rw [e]
    · rfl
/-- how many rounds are left -/
def Ln.mu (L : Ln) (m : Nat) : Nat := (L.q false).length + (L.q true).length + (2 * m - L.n)
theorem mu_come {L : Ln} {m : Nat} (h : LnI L m) (sd : Bool) (hq : L.q sd ≠ []) : (L.come sd).mu m + 1 = L.mu m := by
  have h1 := come_n L sd
  rw [if_neg hq] at h1
  have h2 := (h.come sd).sum
  have h3 := h.sum
  unfold Ln.mu
  omega
theorem come_nil {L : Ln} {sd : Bool} (hq : L.q sd = []) : L.come sd = L := by unfold Ln.come; rw [hq]
theorem rest_busy {L : Ln} {m : Nat} (h : LnI L m) (h0 : L.q false = []) (h1 : L.q true = []) (s : Bool) : busyL (L.o s) = false := by
  rw [Bool.eq_false_iff]
  intro hb
  obtain ⟨sd, i, hi, hst⟩ := (busy_iff (L.o s)).2 hb
  cases sd
  · obtain ⟨e, e2⟩ := h.rest h0 h1 (!s) hi
    rw [Bool.not_not] at e
    rw [← e] at hst
    omega
  · obtain ⟨e, e2⟩ := h.rest h0 h1 s hi
    omega
end Go.Proofs.Ytioaenidkieiiaa
