/- What events are as bytes: Write, Record, Say; a copy of a row of bytes. -/
import Derived.Test.YthkioahpnbahhaaD5l
import Derived.Laws.BytesArg
namespace Go.Proofs.Ythkioahpnbahhaa
set_option linter.unusedVariables false
set_option linter.unusedSimpArgs false
open Go.RowKit Go.Proofs.YthkioahpnbahhaaW.PrintWords
theorem conv_str {P : Program} {w : World} {A : Option Addr} {l : List Int} {src dst e : TypeId} (hs : P.underlying src = some (.slice e)) (he : P.underlying e = some (.int .u8)) (hd : P.underlying dst = some .string)
    (h : Rd w 1 A l.length (u8s l)) (c : Nat) : (convert src dst (.slice A l.length c)).run P w = .ok (.string (strOfNums l)) w := by
  rcases Nat.eq_zero_or_pos l.length with h0 | h0
  · obtain rfl : l = [] := List.eq_nil_of_length_eq_zero h0
    cases A with
    | none => exact run_convert_bytes_nil w src e hs he _ c dst hd
    | some a =>
      rw [run_convert_bytes_string w src dst e _ _ c hs he hd]
      exact run_bytesToString w a 0 c [] (by simp [loadCells, loadCellsFrom])
  · obtain ⟨b, o, rfl, hc⟩ := h.2 h0
    refine run_convert_bytes_arg w src e hs he b o l.length c l rfl (fun i hi => ?_) dst hd
    refine hc i _ ?_
    rw [u8s_get, List.getElem?_eq_getElem hi]
    simp [List.getD_eq_getElem?_getD, List.getElem?_eq_getElem hi]
/-- an event as the print's -/
def Ev.s28 (e : Ev) : PIacFeeds.S28 := ⟨e.kind, e.code, e.opt, e.bytes⟩
theorem C_of_ev28 {W : World} {A : Option Addr} {ms : List Em} (h : Rd W 4 A ms.length (ms.flatMap Em.enc)) (hm : ∀ m ∈ ms, m.rd W) (hb : ∀ m ∈ ms, m.e.bytes.length ≤ 1000000) (hl : ms.length ≤ 1000000) : Kd.C PIacFeeds.k28 W A ms.length (ms.map fun m => m.e.s28) := by
  refine ⟨by simp, by omega, fun hn => ?_⟩
  obtain ⟨b, o, rfl, hc⟩ := h.2 hn
  refine ⟨_, rfl, fun j p hj => ?_⟩
  rw [List.getElem?_map] at hj
  obtain ⟨m, hm1, rfl⟩ := Option.map_eq_some_iff.1 hj
  have hmem : m ∈ ms := List.mem_of_getElem? hm1
  refine ⟨m.enc, rfl, PIacFeeds.k28_mk W m.e.s28 (hm m hmem).2 (C_of_Rd (hm m hmem).1 (by have := hb m hmem; show m.e.bytes.length ≤ _; omega)), fun i u hu => ?_⟩
  have hi : i < 4 := by have := (List.getElem?_eq_some_iff.1 hu).1; exact this
  have h1 := hc (j * 4 + i) u (by rw [flat_get Em.enc 4 (fun _ => rfl) ms j i hi, hm1]; exact hu)
  have e : (⟨b, o, none⟩ : Addr).add (j * 4 + i) = ⟨b, o + (j * 4 + i), none⟩ := add_at b o _
  exact e ▸ h1
theorem tell_f (o : Int) {l : List Int} (hl : l.length ≤ 1000000) {k : Nat} (hk : l.length + 1 < k) : PIacFeeds.iac_Tell.f k o l = some (tellL o l) := by
  have h1 := escL_length l
  have h2 := escL_length [o]
  simp only [List.length_singleton] at h2
  have e1 : ([255, 250] : List Int).length = 2 := rfl
  unfold PIacFeeds.iac_Tell.f
  rw [Option.bind_some, esc_f (l := [o]) (by simp) (by simp; omega), Option.bind_some, if_pos (by rw [e1]; omega), Option.bind_some, esc_f (l := l) (by omega) (by omega), Option.bind_some,
    if_pos (by rw [List.length_append, e1]; omega), Option.bind_some, Option.bind_some, if_pos (by rw [List.length_append, List.length_append, e1]; simp only [List.length_cons, List.length_nil]; omega)]
  rfl
/-- an event's bytes -/
def wr1 (e : Ev) : List Int := if e.kind = 1 then escL e.bytes else if e.kind = 2 then [255, 239] else if e.kind = 3 then [255, e.code] else if e.kind = 4 then [255, e.code, e.opt] else if e.kind = 5 then tellL e.opt e.bytes else if e.kind = 6 then tellL e.opt e.bytes else []
def writeL (es : List Ev) : List Int := es.flatMap wr1
theorem writeL_take (es : List Ev) (i : Nat) : (writeL (es.take i)).length ≤ (writeL es).length := by
  conv => rhs; rw [← List.take_append_drop i es]
  unfold writeL
  rw [List.flatMap_append, List.length_append]
  omega
theorem rdT28 {es : List Ev} {i : Nat} {e : Ev} (h : es[i]? = some e) : PIacFeeds.rd_T28 (es.map Ev.s28) (i : Int) = e.s28 := by unfold PIacFeeds.rd_T28; rw [List.getD_eq_getElem?_getD]; simp [h]
theorem write_loop (es : List Ev) (hl : es.length ≤ 1000000) (hb : ∀ e ∈ es, e.bytes.length ≤ 1000000) (hT : (writeL es).length < 140737488355328) : ∀ (d k i : Nat), es.length = i + d → d + 1000002 < k → PIacFeeds.iac_Write.l0 k (writeL (es.take i)) (es.map Ev.s28) (es.length : Int) (i : Int) = some (writeL es) := by
  intro d
  induction d with
  | zero =>
    intro k i hi hk
    obtain ⟨k, rfl⟩ : ∃ m, k = m + 1 := ⟨k - 1, by omega⟩
    simp only [PIacFeeds.iac_Write.l0]
    rw [if_neg (by omega), List.take_of_length_le (by omega)]
  | succ d ih =>
    intro k i hi hk
    obtain ⟨k, rfl⟩ : ∃ m, k = m + 1 := ⟨k - 1, by omega⟩
    obtain ⟨e, he⟩ : ∃ e, es[i]? = some e := ⟨_, List.getElem?_eq_getElem (by omega)⟩
    have hbe := hb e (List.mem_of_getElem? he)
    have hw : wrap64 ((i : Int) + 1) = ((i + 1 : Nat) : Int) := by unfold wrap64; omega
    have hA : writeL (es.take (i + 1)) = writeL (es.take i) ++ wr1 e := by
      unfold writeL
      rw [List.take_add_one, he, List.flatMap_append]
      simp
    have hL := writeL_take es (i + 1)
    have hI := ih k (i + 1) (by omega) (by omega)
    rw [hA] at hL hI
    rw [List.length_append] at hL
    generalize writeL (es.take i) = acc at *
    simp only [PIacFeeds.iac_Write.l0]
    rw [if_pos (by omega), if_pos (by omega), if_pos (by rw [List.length_map]; omega), rdT28 he, hw]
    unfold wr1 at hL hI
    by_cases c1 : e.kind = 1
    · rw [if_pos c1] at hL hI
      rw [if_pos (show e.s28.f0 = 1 from c1)]
      rw [esc_f (l := e.s28.f3) (Nat.le_trans hbe (by decide)) (by show e.bytes.length < _; omega), Option.bind_some, if_pos (by show _ + (escL e.bytes).length < _; omega)]
      exact hI
    · rw [if_neg c1] at hL hI
      rw [if_neg (show ¬ e.s28.f0 = 1 from c1)]
      by_cases c2 : e.kind = 2
      · rw [if_pos c2] at hL hI
        rw [if_pos (show e.s28.f0 = 2 from c2)]
        rw [Option.bind_some, if_pos (by omega)]
        exact hI
      · rw [if_neg c2] at hL hI
        rw [if_neg (show ¬ e.s28.f0 = 2 from c2)]
        by_cases c3 : e.kind = 3
        · rw [if_pos c3] at hL hI
          rw [if_pos (show e.s28.f0 = 3 from c3)]
          rw [Option.bind_some, if_pos (by show _ + ([255, e.code] : List Int).length < _; omega)]
          exact hI
        · rw [if_neg c3] at hL hI
          rw [if_neg (show ¬ e.s28.f0 = 3 from c3)]
          by_cases c4 : e.kind = 4
          · rw [if_pos c4] at hL hI
            rw [if_pos (show e.s28.f0 = 4 from c4)]
            rw [show PIacFeeds.iac_Say.f e.s28.f1 e.s28.f2 = some [255, e.code, e.opt] from rfl, Option.bind_some, if_pos (by omega)]
            exact hI
          · rw [if_neg c4] at hL hI
            rw [if_neg (show ¬ e.s28.f0 = 4 from c4)]
            by_cases c5 : e.kind = 5
            · rw [if_pos c5] at hL hI
              rw [if_pos (show e.s28.f0 = 5 from c5)]
              rw [tell_f e.s28.f2 (l := e.s28.f3) hbe (by show e.bytes.length + 1 < _; omega), Option.bind_some, if_pos (by show _ + (tellL e.opt e.bytes).length < _; omega)]
              exact hI
            · rw [if_neg c5] at hL hI
              rw [if_neg (show ¬ e.s28.f0 = 5 from c5)]
              by_cases c6 : e.kind = 6
              · rw [if_pos c6] at hL hI
                rw [if_pos (show e.s28.f0 = 6 from c6)]
                rw [tell_f e.s28.f2 (l := e.s28.f3) hbe (by show e.bytes.length + 1 < _; omega), Option.bind_some, if_pos (by show _ + (tellL e.opt e.bytes).length < _; omega)]
                exact hI
              · rw [if_neg c6] at hL hI
                rw [if_neg (show ¬ e.s28.f0 = 6 from c6)]
                rw [List.append_nil] at hI
                exact hI
theorem Write_any {W : World} {v : Value} {ms : List Em} (h : EvR W v ms) (hl : ms.length ≤ 1000000) (hb : ∀ m ∈ ms, m.e.bytes.length ≤ 1000000) (hT : (writeL (ms.map Em.e)).length < 140737488355328) :
    Calls Try.prog 33 #[v] W (RetB (writeL (ms.map Em.e)) W) := by
  obtain ⟨A, c, rfl, k, r, m⟩ := h
  have e1 : (ms.map fun m => m.e.s28) = (ms.map Em.e).map Ev.s28 := by rw [List.map_map]; rfl
  have q := C_of_ev28 r m hb hl
  rw [e1] at q
  have := PIacFeeds.iac_Write.calls ((ms.map Em.e).length + 1000003) A c ((ms.map Em.e).map Ev.s28) (writeL (ms.map Em.e)) W (by rw [List.length_map, List.length_map]; exact q) (by rw [List.length_map, List.length_map]; exact k)
    (by
      unfold PIacFeeds.iac_Write.f
      have := write_loop (ms.map Em.e) (by rw [List.length_map]; exact hl) (by intro e he; obtain ⟨m, hm, rfl⟩ := List.mem_map.1 he; exact hb m hm) hT (ms.map Em.e).length ((ms.map Em.e).length + 1000003) 0 (by omega) (by omega)
      simpa [writeL] using this)
  rw [List.length_map, List.length_map] at this
  exact this.mono fun _ _ ⟨v, he, h1, h2⟩ => ⟨v, he, Bts_of_R h1, h2⟩
theorem Record_any (A : Option Addr) (c : Nat) (l : List Int) (hl : l.length ≤ 1000000000) (hc : l.length ≤ c) (w : World) (hr : Rd w 1 A l.length (u8s l)) :
    Calls Try.prog 35 #[.slice A l.length c] w (RetB (escL l ++ [255, 239]) w) := by
  refine (PIacFeeds.iac_Record.calls (l.length + 1) A c l _ w (C_of_Rd hr hl) hc ?_).mono fun _ _ ⟨v, he, h1, h2⟩ => ⟨v, he, Bts_of_R h1, h2⟩
  have h1 := escL_length l
  unfold PIacFeeds.iac_Record.f
  rw [esc_f hl (by omega), Option.bind_some, Option.bind_some, if_pos (by simp only [List.length_cons, List.length_nil]; omega)]
theorem Say_any (a b : Int) (w : World) : Calls Try.prog 39 #[.int .u8 a, .int .u8 b] w (RetB [255, a, b] w) :=
  (PIacFeeds.iac_Say.calls a b _ w rfl).mono fun _ _ ⟨v, he, h1, h2⟩ => ⟨v, he, Bts_of_R h1, h2⟩
end Go.Proofs.Ythkioahpnbahhaa
