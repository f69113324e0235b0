/- A new decoder's Feed, what is told of a subnegotiation (as in D5k, D5o, D5t, for seat ra). -/
import Derived.Test.YtioaenidkieiiaaD5f
namespace Go.Proofs.Ytioaenidkieiiaa
set_option linter.unusedVariables false
set_option linter.unusedSimpArgs false
open Go.RowKit Go.Proofs.YtioaenidkieiiaaW.PrintWords
theorem take1 {d : Dec} (h : d.at_ = 1) (c : Int) : d.take c = d.command c := by unfold Dec.take; rw [if_pos h]
theorem take3 {d : Dec} (h : d.at_ = 3) (c : Int) : d.take c = d.first c := by unfold Dec.take; rw [if_neg (by omega), if_neg (by omega), if_pos h]
theorem take4 {d : Dec} (h : d.at_ = 4) (c : Int) : d.take c = d.second c := by unfold Dec.take; rw [if_neg (by omega), if_neg (by omega), if_neg (by omega), if_pos h]
theorem take5 {d : Dec} (h : d.at_ = 5) (c : Int) : d.take c = d.part c := by unfold Dec.take; rw [if_neg (by omega), if_neg (by omega), if_neg (by omega), if_neg (by omega), if_pos h]
theorem take6 {d : Dec} (h : d.at_ = 6) (c : Int) : d.take c = d.last c := by unfold Dec.take; rw [if_neg (by omega), if_neg (by omega), if_neg (by omega), if_neg (by omega), if_neg (by omega), if_pos h]
theorem take0 {d : Dec} (h : d.at_ = 0) (c : Int) : d.take c = d.outside c := by unfold Dec.take; rw [if_neg (by omega), if_neg (by omega), if_neg (by omega), if_neg (by omega), if_neg (by omega), if_neg (by omega)]
theorem takes_two (d : Dec) (a c : Int) : d.takes [a, c] = (d.take a).take c := rfl
theorem takes_one (d : Dec) (a : Int) : d.takes [a] = d.take a := rfl
/-- escaped bytes of a subnegotiation -/
theorem esc_sub : ∀ (l : List Int) (d : Dec), d.at_ = 5 → d.sub.length ≤ 256 → d.takes (escL l) = { d with sub := (d.sub ++ l).take 256, long := d.long || decide (256 < (d.sub ++ l).length) }
  | [], d, h5, hs => by
    rw [List.append_nil, List.take_of_length_le hs, decide_eq_false (by omega), Bool.or_false]; rfl
  | c :: l, d, h5, hs => by
    have e1 : escL (c :: l) = (if c = 255 then [255, 255] else [c]) ++ escL l := by simp [escL]
    have e2 : d.takes (if c = 255 then [255, 255] else [c]) = d.keep c := by
      by_cases h : c = 255
      · subst h
        rw [if_pos rfl, takes_two, take5 h5]
        unfold Dec.part
        rw [if_pos rfl, take6 rfl]
        unfold Dec.last
        rw [if_pos rfl]
        unfold Dec.keep
        rfl
      · rw [if_neg h, takes_one, take5 h5]
        unfold Dec.part
        rw [if_neg h]
    rw [e1, Dec.takes_append, e2]
    unfold Dec.keep
    by_cases hk : 256 ≤ d.sub.length
    · rw [if_pos hk, esc_sub l { d with at_ := 5, long := true } rfl hs]
      have : d.sub.length = 256 := by omega
      dsimp only
      rw [List.take_append_of_le_length (by omega), List.take_append_of_le_length (by omega), List.length_append, List.length_append, List.length_cons, decide_eq_true (p := 256 < d.sub.length + (l.length + 1)) (by omega), Bool.or_true, Bool.true_or, ← h5]
    · rw [if_neg hk, esc_sub l { d with at_ := 5, sub := d.sub ++ [c] } rfl (by simp; omega)]
      dsimp only
      rw [List.append_assoc, List.singleton_append, ← h5]
theorem tell_takes (d : Dec) (h0 : d.at_ = 0) (o : Int) (l : List Int) : d.takes (tellL o l) = { d with at_ := 0, opt := o, sub := [], long := decide (256 < l.length), out := d.out ++ [⟨if 256 < l.length then 6 else 5, 0, o, l.take 256⟩] } := by
  have e1 : d.takes [255, 250] = { d with at_ := 3, sub := [], long := false } := by
    rw [takes_two, take0 h0]
    unfold Dec.outside
    rw [if_pos rfl, take1 rfl]
    unfold Dec.command
    rfl
  have e2 : ({ d with at_ := 3, sub := [], long := false } : Dec).takes (escL [o]) = { d with at_ := 5, opt := o, sub := [], long := false } := by
    have : escL [o] = if o = 255 then [255, 255] else [o] := by simp [escL]
    rw [this]
    by_cases h : o = 255
    · subst h
      rw [if_pos rfl, takes_two, take3 (d := { d with at_ := 3, sub := [], long := false }) rfl]
      unfold Dec.first
      rw [if_pos rfl, take4 rfl]
      unfold Dec.second
      rw [if_pos rfl]
      rfl
    · rw [if_neg h, takes_one, take3 rfl]
      unfold Dec.first
      rw [if_neg h]
      rfl
  unfold tellL
  have e3 : ({ d with at_ := 5, opt := o, sub := [], long := false } : Dec).takes (escL l) = { d with at_ := 5, opt := o, sub := l.take 256, long := decide (256 < l.length) } := by
    rw [esc_sub l { d with at_ := 5, opt := o, sub := [], long := false } rfl (by simp)]
    simp only [List.nil_append, Bool.false_or]
  rw [Dec.takes_append, Dec.takes_append, Dec.takes_append, e1, e2, e3, takes_two, take5 (d := { d with at_ := 5, opt := o, sub := l.take 256, long := decide (256 < l.length) }) rfl]
  unfold Dec.part
  rw [if_pos rfl, take6 rfl]
  unfold Dec.last
  rw [if_neg (by decide), if_pos rfl]
  unfold Dec.end Dec.emit
  simp only [List.nil_append, Bool.false_or, decide_eq_true_eq]
theorem Rd.lt {w : World} {A : Option Addr} {n : Nat} {cs : List Value} (h : Rd w 1 A n cs) (hn : 0 < n) : ∀ ad, A = some ad → ad.block < w.heap.size := fun ad e => by
  obtain ⟨b, o, h2, h3⟩ := h.2 hn
  have hl := h.1
  have := World.block_lt_of_cell? w _ (h3 0 _ (List.getElem?_eq_getElem (by omega)))
  rw [e] at h2
  cases h2
  exact this
def Dec.zero : Dec := ⟨0, 0, 0, [], false, []⟩
/-- a new decoder's Feed -/
def FeedN (W : World) (db : Nat) (b : List Int) (e : Ending) (w : World) : Prop :=
  ∃ vo ms vs', e = .returned vo ∧ DecR w db { Dec.zero.takes b with out := [] } vs' ∧ EvsAt (Own W (.slice none 0 0)) w vo ms vs' ∧ ms.map Em.e = (Dec.zero.takes b).out ∧ (∀ g, vs'.ownBlock = some g → W.heap.size ≤ g) ∧ Mut db W w
theorem Feed_new {W : World} {db : Nat} (h : DecR W db Dec.zero (.slice none 0 0)) (A : Option Addr) (c : Nat) (b : List Int) (hb : b.length ≤ 40000) (hc : b.length ≤ c) (hr : Rd W 1 A b.length (u8s b)) (ho : 0 < b.length → Off db A) :
    Calls Try.prog 42 #[.pointer (some ⟨db, 0, none⟩), .slice A b.length c] W (FeedN W db b) :=
  (Feed_any h A c b hb hc hr ho (fun h0 ad e => ⟨Rd.lt hr h0 ad e, fun h => by cases h⟩)).mono fun e w ⟨vo, ms, vs', h1, h2, h3, h4, h5, h6⟩ => by
    have hown : ∀ g, Own W (.slice none 0 0) g → W.heap.size ≤ g := fun g h => by
      rcases h with h | h
      · exact h
      · cases h
    exact ⟨vo, ms, vs', h1, h2, h3, h4, fun g hg => hown g (h5 g hg), ⟨h6.os, h6.tape, h6.output, h6.size, fun i hi hne => h6.block i hi (fun e => hne (by rw [e])) (fun h => absurd (hown i h) (by omega))⟩⟩
theorem i64_mask (x : Int) (i : Nat) (hi : i ≤ 62) : bits .and .i64 x (((2 ^ i - 1 : Nat)) : Int) = x % ((2 ^ i : Nat) : Int) := by
  have hp : (2:Nat) ^ i ≤ 2 ^ 62 := Nat.pow_le_pow_right (by decide) hi
  have hpos : 0 < 2 ^ i := Nat.two_pow_pos i
  have h1 : ((2 ^ i - 1 : Nat) : Nat) % 2 ^ 64 = 2 ^ i - 1 := Nat.mod_eq_of_lt (by omega)
  simp only [bits, BitVec.ofInt_natCast, BitVec.toNat_and, BitVec.toNat_ofNat, BitVec.toNat_ofInt]
  rw [show IntKind.i64.bits = 64 from rfl]
  rw [h1, Nat.and_two_pow_sub_one_eq_mod]
  have h2 : ((x % ((2 ^ 64 : Nat) : Int)).toNat : Int) = x % ((2 ^ 64 : Nat) : Int) := Int.toNat_of_nonneg (Int.emod_nonneg _ (by decide))
  have h3 : (((x % ((2 ^ 64 : Nat) : Int)).toNat % 2 ^ i : Nat) : Int) = x % ((2 ^ i : Nat) : Int) := by
    rw [Int.natCast_emod, h2]
    apply Int.emod_emod_of_dvd
    exact_mod_cast Nat.pow_dvd_pow 2 (show i ≤ 64 by omega)
  rw [h3, IntKind.wrap_i64]
  have h4 : 0 ≤ x % ((2 ^ i : Nat) : Int) := Int.emod_nonneg _ (by omega)
  have h5 : x % ((2 ^ i : Nat) : Int) < ((2 ^ i : Nat) : Int) := Int.emod_lt_of_pos _ (by omega)
  omega
end Go.Proofs.Ytioaenidkieiiaa
