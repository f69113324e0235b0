/- The print's words and mine: a slice of bytes that is read, or one's own; escaped bytes. -/
import Derived.Test.YtioaenidkieiiaaE
import Derived.Test.YtioaenidkieiiaaPTalkPlaysx
namespace Go.Proofs.Ytioaenidkieiiaa
set_option linter.unusedVariables false
set_option linter.unusedSimpArgs false
open Go.RowKit Go.Proofs.YtioaenidkieiiaaW.PrintWords

theorem C_of_Rd {w : World} {A : Option Addr} {l : List Int} (h : Rd w 1 A l.length (u8s l)) (hl : l.length ≤ 1000000000) : Kd.C (Kd.int .u8) w A l.length l := by
  refine ⟨rfl, by omega, fun hn => ?_⟩
  obtain ⟨b, o, rfl, hc⟩ := h.2 hn
  refine ⟨_, rfl, fun j p hj => ⟨[.int .u8 p], rfl, rfl, fun i u hu => ?_⟩⟩
  have hi : i = 0 := by
    cases i with
    | zero => rfl
    | succ i => simp at hu
  subst hi
  simp at hu
  subst hu
  have := hc j (.int .u8 p) (by rw [u8s_get, hj]; rfl)
  have e : (⟨b, o, none⟩ : Addr).add (j * 1 + 0) = ⟨b, o + j, none⟩ := by
    unfold Addr.add
    split <;> simp_all
  exact e ▸ this
theorem own_of_R {w : World} {base : Nat} {ok : Nat → Prop} {v : Value} {l : List Int} (h : Kd.R (Kd.int .u8) 5 w base ok v l) : w.ownsRow base 5 1 v l.length (u8s l) := by
  obtain ⟨_, inner, ho, hr⟩ := h
  have : inner = u8s l := by
    apply List.ext_getElem?
    intro j
    rw [u8s_get]
    have hl : inner.length = l.length * 1 := hr.1
    cases hj : l[j]? with
    | none => rw [List.getElem?_eq_none]; rfl; have := List.getElem?_eq_none_iff.1 hj; omega
    | some p =>
      have h1 : (inner.drop (j * 1)).take 1 = [.int .u8 p] := hr.2 j p hj
      rw [Nat.mul_one] at h1
      have h2 : ((inner.drop j).take 1)[0]? = some (.int .u8 p) := by rw [h1]; rfl
      rw [List.getElem?_take, if_pos (by omega), List.getElem?_drop] at h2
      simpa using h2
  rw [← this]; exact ho
theorem Bts_of_R {w : World} {base : Nat} {ok : Nat → Prop} {v : Value} {l : List Int} (h : Kd.R (Kd.int .u8) 5 w base ok v l) : Bts base w v l := Bts.of_own (own_of_R h)

/-- bytes with each 255 twice -/
def escL (l : List Int) : List Int := l.flatMap fun c => if c = 255 then [255, 255] else [c]
theorem escL_append (l m : List Int) : escL (l ++ m) = escL l ++ escL m := by simp [escL]
theorem escL_length (l : List Int) : (escL l).length ≤ 2 * l.length := by
  induction l with
  | nil => simp [escL]
  | cons a l ih =>
    have : escL (a :: l) = (if a = 255 then [255, 255] else [a]) ++ escL l := by simp [escL]
    rw [this, List.length_append]
    split <;> simp <;> omega
theorem escL_plain {l : List Int} (h : ∀ x ∈ l, x ≠ 255) : escL l = l := by
  induction l with
  | nil => rfl
  | cons a l ih =>
    have : escL (a :: l) = (if a = 255 then [255, 255] else [a]) ++ escL l := by simp [escL]
    rw [this, if_neg (h a List.mem_cons_self), ih (fun x hx => h x (List.mem_cons_of_mem _ hx))]; rfl
theorem rd_get {l : List Int} {i : Nat} {x : Int} (h : l[i]? = some x) : rd l (i : Int) = x := by unfold rd; rw [List.getD_eq_getElem?_getD]; simp [h]
theorem esc_loop (l : List Int) (hl : l.length ≤ 1000000000) : ∀ (d k i : Nat) (acc : List Int), l.length = i + d → d < k → acc.length ≤ 2 * i → PTalkPlays.iac_Escape.l0 k acc l (l.length : Int) (i : Int) = some (acc ++ escL (l.drop i)) := by
  intro d
  induction d with
  | zero =>
    intro k i acc hi hk ha
    obtain ⟨k, rfl⟩ : ∃ m, k = m + 1 := ⟨k - 1, by omega⟩
    simp only [PTalkPlays.iac_Escape.l0]
    rw [if_neg (by omega), List.drop_of_length_le (by omega)]
    simp [escL]
  | succ d ih =>
    intro k i acc hi hk ha
    obtain ⟨k, rfl⟩ : ∃ m, k = m + 1 := ⟨k - 1, by omega⟩
    obtain ⟨x, hx⟩ : ∃ x, l[i]? = some x := ⟨_, List.getElem?_eq_getElem (by omega)⟩
    have hlt : i < l.length := by omega
    have hd : l.drop i = x :: l.drop (i + 1) := by
      rw [List.drop_eq_getElem_cons hlt]
      rw [List.getElem?_eq_getElem hlt] at hx
      cases hx; rfl
    have hw : wrap64 ((i : Int) + 1) = ((i + 1 : Nat) : Int) := by unfold wrap64; omega
    simp only [PTalkPlays.iac_Escape.l0]
    rw [if_pos (by omega), if_pos (by omega), if_pos (by omega), if_pos (by omega), rd_get hx, hw]
    simp only [Option.bind_some]
    rw [hd]
    by_cases e : x = 255
    · subst e
      rw [if_pos rfl, if_pos (by simp; omega), ih k (i + 1) _ (by omega) (by omega) (by simp; omega)]
      simp [escL]
    · rw [if_neg e, ih k (i + 1) _ (by omega) (by omega) (by simp; omega)]
      simp [escL, e]
theorem esc_f {l : List Int} (hl : l.length ≤ 1000000000) {k : Nat} (hk : l.length < k) : PTalkPlays.iac_Escape.f k l = some (escL l) := by
  unfold PTalkPlays.iac_Escape.f
  have := esc_loop l hl l.length k 0 [] (by omega) hk (by simp)
  simpa using this
theorem Escape_any (A : Option Addr) (c : Nat) (l : List Int) (hl : l.length ≤ 1000000000) (hc : l.length ≤ c) (w : World) (hr : Rd w 1 A l.length (u8s l)) :
    Calls Try.prog 66 #[.slice A l.length c] w (RetB (escL l) w) :=
  (PTalkPlays.iac_Escape.calls (l.length + 1) A c l _ w (C_of_Rd hr hl) hc (esc_f hl (by omega))).mono fun _ _ ⟨v, he, h1, h2⟩ => ⟨v, he, Bts_of_R h1, h2⟩
def tellL (o : Int) (l : List Int) : List Int := [255, 250] ++ escL [o] ++ escL l ++ [255, 240]
theorem Tell_any (o : Int) (A : Option Addr) (c : Nat) (l : List Int) (hl : l.length ≤ 1000000) (hc : l.length ≤ c) (w : World) (hr : Rd w 1 A l.length (u8s l)) :
    Calls Try.prog 58 #[.int .u8 o, .slice A l.length c] w (RetB (tellL o l) w) := by
  refine (PTalkPlays.iac_Tell.calls (l.length + 2) o A c l (tellL o l) w (C_of_Rd hr (by omega)) hc ?_).mono fun _ _ ⟨v, he, h1, h2⟩ => ⟨v, he, Bts_of_R h1, h2⟩
  have h1 := escL_length l
  have h2 := escL_length [o]
  simp only [List.length_singleton] at h2
  have e1 : ([255, 250] : List Int).length = 2 := rfl
  unfold PTalkPlays.iac_Tell.f
  rw [Option.bind_some, esc_f (l := [o]) (by simp) (by simp), Option.bind_some, if_pos (by rw [e1]; omega), Option.bind_some, esc_f (l := l) (by omega) (by omega), Option.bind_some,
    if_pos (by rw [List.length_append, e1]; omega), Option.bind_some, Option.bind_some, if_pos (by rw [List.length_append, List.length_append, e1]; simp only [List.length_cons, List.length_nil]; omega)]
  rfl
/-! ### rows of rows, one behind the other -/
theorem rdL_get {ls : List (List Int)} {i : Nat} {l : List Int} (h : ls[i]? = some l) : PTalkPlays.rd_L4 ls (i : Int) = l := by unfold PTalkPlays.rd_L4; rw [List.getD_eq_getElem?_getD]; simp [h]
theorem mem_flatten_le {ls : List (List Int)} {l : List Int} (h : l ∈ ls) : l.length ≤ ls.flatten.length := by
  induction ls with
  | nil => cases h
  | cons a ls ih =>
    rw [List.flatten_cons, List.length_append]
    rcases List.mem_cons.1 h with rfl | h
    · omega
    · have := ih h; omega
theorem join_loop (ls : List (List Int)) (hl : ls.length ≤ 1000000) (hT : ls.flatten.length ≤ 1000000000) : ∀ (d : Nat),
    (∀ (k i : Nat) (acc : List Int), ls.length = i + d → ((ls.drop i).flatten.length + d < k) → acc = (ls.take i).flatten → PTalkPlays.greenscreenref01_Join.l0 (2 * k + 1) ls acc (i : Int) = some ls.flatten) := by
  have hin : ∀ (l : List Int) (i : Nat), ls[i]? = some l → ∀ (m k j : Nat) (acc : List Int) (r : Option (List Int)), l.length = j + m → acc.length + m ≤ 1000000000 →
      (PTalkPlays.greenscreenref01_Join.l0 k ls (acc ++ l.drop j) ((i : Int) + 1) = r) → PTalkPlays.greenscreenref01_Join.l1 (k + m + 1) ls acc (i : Int) (j : Int) = r := by
    intro l i hi m
    have hll : l.length ≤ 1000000000 := Nat.le_trans (mem_flatten_le (List.mem_of_getElem? hi)) hT
    have hil : i < ls.length := (List.getElem?_eq_some_iff.1 hi).1
    have hw1 : wrap64 ((i : Int) + 1) = (i : Int) + 1 := by unfold wrap64; omega
    induction m with
    | zero =>
      intro k j acc r hj ha hr
      simp only [PTalkPlays.greenscreenref01_Join.l1, Nat.add_zero]
      rw [if_pos (by omega), if_pos (by omega), rdL_get hi, if_neg (by omega), hw1, ← hr, List.drop_of_length_le (by omega), List.append_nil]
    | succ m ih =>
      intro k j acc r hj ha hr
      have hjl : j < l.length := by omega
      obtain ⟨x, hx⟩ : ∃ x, l[j]? = some x := ⟨_, List.getElem?_eq_getElem hjl⟩
      have hd : l.drop j = x :: l.drop (j + 1) := by
        rw [List.drop_eq_getElem_cons hjl]
        rw [List.getElem?_eq_getElem hjl] at hx
        cases hx; rfl
      have hw : wrap64 ((j : Int) + 1) = ((j + 1 : Nat) : Int) := by unfold wrap64; omega
      rw [show k + (m + 1) + 1 = (k + m + 1) + 1 from by omega]
      conv => lhs; unfold PTalkPlays.greenscreenref01_Join.l1
      rw [if_pos (by omega), if_pos (by omega), rdL_get hi, if_pos (by omega), if_pos (by omega), if_pos (by omega), rd_get hx, hw]
      refine ih k (j + 1) _ r (by omega) (by simp; omega) ?_
      rw [← hr, hd, List.append_assoc]; rfl
  intro d
  induction d with
  | zero =>
    intro k i acc hi hk ha
    simp only [PTalkPlays.greenscreenref01_Join.l0]
    rw [if_neg (by omega), ha, List.take_of_length_le (by omega)]
  | succ d ih =>
    intro k i acc hi hk ha
    have hil : i < ls.length := by omega
    obtain ⟨l, hx⟩ : ∃ l, ls[i]? = some l := ⟨_, List.getElem?_eq_getElem hil⟩
    have hd : ls.drop i = l :: ls.drop (i + 1) := by
      rw [List.drop_eq_getElem_cons hil]
      rw [List.getElem?_eq_getElem hil] at hx
      cases hx; rfl
    have ht : ls.take (i + 1) = ls.take i ++ [l] := by rw [List.take_add_one, hx]; rfl
    have hfl : (ls.take i).flatten.length + ((l :: ls.drop (i + 1)).flatten.length) = ls.flatten.length := by
      rw [← hd, ← List.length_append, ← List.flatten_append, List.take_append_drop]
    rw [hd, List.flatten_cons, List.length_append] at hk
    rw [List.flatten_cons, List.length_append] at hfl
    conv => lhs; unfold PTalkPlays.greenscreenref01_Join.l0
    rw [if_pos (by omega)]
    obtain ⟨k', hk'⟩ : ∃ k', 2 * k = (2 * k' + 1) + l.length + 1 ∧ ((ls.drop (i + 1)).flatten.length + d < k') ∨ 2 * k = (2 * k' + 1 + 1) + l.length + 1 ∧ ((ls.drop (i + 1)).flatten.length + d < k') := by
      by_cases e : l.length % 2 = 0
      · exact ⟨k - l.length / 2 - 1, .inl ⟨by omega, by omega⟩⟩
      · exact ⟨k - (l.length + 1) / 2 - 1, .inr ⟨by omega, by omega⟩⟩
    have e1 : ((i : Int) + 1) = ((i + 1 : Nat) : Int) := by omega
    rcases hk' with ⟨hk1, hk2⟩ | ⟨hk1, hk2⟩
    · rw [hk1]
      refine hin l i hx l.length _ 0 acc _ (by omega) (by rw [ha]; omega) ?_
      rw [e1]
      exact ih k' (i + 1) _ (by omega) (by omega) (by rw [ht, ha]; simp)
    · rw [hk1]
      refine hin l i hx l.length _ 0 acc _ (by omega) (by rw [ha]; omega) ?_
      rw [e1]
      exact ((PTalkPlays.greenscreenref01_Join.mono_l (2 * k' + 1)).1 _ _ _) _ (ih k' (i + 1) _ (by omega) (by omega) (by rw [ht, ha]; simp))
theorem join_f (ls : List (List Int)) (hl : ls.length ≤ 1000000) (hT : ls.flatten.length ≤ 1000000000) : ∃ k, PTalkPlays.greenscreenref01_Join.f k ls = some ls.flatten :=
  ⟨2 * (ls.flatten.length + ls.length + 1) + 1, by
    unfold PTalkPlays.greenscreenref01_Join.f
    exact join_loop ls hl hT ls.length (ls.flatten.length + ls.length + 1) 0 [] (by omega) (by simp) (by simp)⟩
/-- a slice of slices of bytes, as it lies -/
structure Sb where
  A : Option Addr
  c : Nat
  l : List Int
def Sb.v (s : Sb) : Value := .slice s.A s.l.length s.c
def Sb.ok (w : World) (s : Sb) : Prop := s.l.length ≤ s.c ∧ Rd w 1 s.A s.l.length (u8s s.l) ∧ s.l.length ≤ 1000000000
theorem C_of_rows {w : World} {A : Option Addr} {ss : List Sb} (h : Rd w 1 A ss.length (ss.map Sb.v)) (hs : ∀ s ∈ ss, s.ok w) (hl : ss.length ≤ 1000000000) : Kd.C (Kd.slice 5 (Kd.int .u8)) w A (ss.map Sb.l).length (ss.map Sb.l) := by
  refine ⟨rfl, by rw [List.length_map]; omega, fun hn => ?_⟩
  rw [List.length_map] at hn
  obtain ⟨b, o, rfl, hc⟩ := h.2 hn
  refine ⟨_, rfl, fun j p hj => ?_⟩
  rw [List.getElem?_map] at hj
  obtain ⟨s, hsj, rfl⟩ : ∃ s, ss[j]? = some s ∧ s.l = p := by
    cases e : ss[j]? with
    | none => rw [e] at hj; cases hj
    | some s => rw [e] at hj; exact ⟨s, rfl, by simpa using hj⟩
  obtain ⟨h1, h2, h3⟩ := hs s (List.mem_of_getElem? hsj)
  refine ⟨[s.v], rfl, ⟨s.A, s.c, rfl, h1, C_of_Rd h2 h3⟩, fun i u hu => ?_⟩
  have hi : i = 0 := by
    cases i with
    | zero => rfl
    | succ i => simp at hu
  subst hi
  simp at hu
  subst hu
  have := hc j s.v (by rw [List.getElem?_map, hsj]; rfl)
  have e : (⟨b, o, none⟩ : Addr).add (j * 1 + 0) = ⟨b, o + j, none⟩ := by
    unfold Addr.add
    split <;> simp_all
  exact e ▸ this
theorem Join_any (A : Option Addr) (c : Nat) (ss : List Sb) (hl : ss.length ≤ 1000000) (hc : ss.length ≤ c) (hT : (ss.map Sb.l).flatten.length ≤ 1000000000) (w : World) (h : Rd w 1 A ss.length (ss.map Sb.v)) (hs : ∀ s ∈ ss, s.ok w) :
    Calls Try.prog 59 #[.slice A ss.length c] w (RetB (ss.map Sb.l).flatten w) := by
  obtain ⟨k, hk⟩ := join_f (ss.map Sb.l) (by rw [List.length_map]; exact hl) hT
  have := PTalkPlays.greenscreenref01_Join.calls k A c (ss.map Sb.l) _ w (C_of_rows h hs (by omega)) (by rw [List.length_map]; exact hc) hk
  rw [List.length_map] at this
  exact this.mono fun _ _ ⟨v, he, h1, h2⟩ => ⟨v, he, Bts_of_R h1, h2⟩
end Go.Proofs.Ytioaenidkieiiaa
