/- The document's events in memory; the law's as. -/
import Derived.Test.YthkioahpnbahhaaD5f
namespace Go.Proofs.Ythkioahpnbahhaa
set_option linter.unusedVariables false
set_option linter.unusedSimpArgs false
open Go.RowKit Go.Proofs.YthkioahpnbahhaaW.PrintWords
/-- bytes of events can be read -/
def Em.rd (W : World) (m : Em) : Prop := Rd W 1 m.A m.e.bytes.length (u8s m.e.bytes) ∧ m.e.bytes.length ≤ m.c
/-- events that are read -/
def EvR (W : World) (vo : Value) (ms : List Em) : Prop := ∃ A c, vo = .slice A ms.length c ∧ ms.length ≤ c ∧ Rd W 4 A ms.length (ms.flatMap Em.enc) ∧ ∀ m ∈ ms, m.rd W
theorem own_len_cap {W : World} {b s n c k : Nat} {e : TypeId} {A : Option Addr} {xs : List Value} (h : W.ownsRow b e s (.slice A k c) n xs) : n ≤ c := by
  rcases h.2 with ⟨_, h0⟩ | ⟨g, cap, cur, hv, _, _, hc, _⟩
  · omega
  · injection hv with _ _ e; omega
theorem EvR.of_own {W : World} {b : Nat} {t : TypeId} {vo : Value} {ms : List Em} (h : W.ownsRow b t 4 vo ms.length (ms.flatMap Em.enc)) (hm : ∀ m ∈ ms, m.rd W) : EvR W vo ms := by
  obtain ⟨A, c, rfl⟩ := Go.Proofs.YthkioahpnbahhaaW.PrintWords.own_slice h
  exact ⟨A, c, rfl, own_len_cap h, Rd.own h, hm⟩
theorem EvsAt.rd {own : Nat → Prop} {W : World} {vo v : Value} {ms : List Em} (h : EvsAt own W vo ms v) : EvR W vo ms :=
  EvR.of_own h.out (fun m hm => ⟨Rd.own (h.row m hm), own_len_cap (h.row m hm)⟩)
theorem Em.rd.ext {W W1 : World} {m : Em} (h : m.rd W) (hx : Ext W W1) : m.rd W1 := ⟨Rd_ext hx h.1, h.2⟩
theorem EvR.ext {W W1 : World} {vo : Value} {ms : List Em} (h : EvR W vo ms) (hx : Ext W W1) : EvR W1 vo ms := by
  obtain ⟨A, c, h1, h2, h3, h4⟩ := h
  exact ⟨A, c, h1, h2, Rd_ext hx h3, fun m hm => (h4 m hm).ext hx⟩
theorem infoD : (Try.prog.info? 44).map (fun i => (i.zero, i.size, i.bytes)) = some (some (.agg #[.int .i64 0, .int .u8 0, .int .u8 0, .slice none 0 0]), 4, 40) := by kernel_rfl
/-- the document's events, one's own from block b on -/
def DocAt (b : Nat) (W : World) (vo : Value) (ms : List Em) : Prop := W.ownsRow b 44 4 vo ms.length (ms.flatMap Em.enc)
def AsP (w : World) (ms : List Em) (e : Ending) (w' : World) : Prop := ∃ v, e = .returned v ∧ DocAt w.heap.size w' v ms ∧ Ext w w'
set_option maxRecDepth 100000 in
set_option maxHeartbeats 2000000 in
theorem as_any {w : World} {vo : Value} {ms : List Em} (h : EvR w vo ms) (hn : ms.length ≤ 100000) : Calls Try.prog 29 #[vo] w (AsP w ms) := by
  obtain ⟨A, c, rfl, hc, hr, hm⟩ := h
  obtain ⟨i0, hi, hz0, hz1, hz2⟩ := info_parts infoD
  have HR := Lib.hid hr
  have HST := Lib.hid (show (w.alloc (.cells #[] 44)).ownsRow w.heap.size 44 4 (.slice (some ⟨w.heap.size, 0, none⟩) 0 0) 0 [] from World.ownsRow_lit w #[] 0 (Nat.le_refl _) (by decide) rfl)
  clear hr hm hc
  go_enter Try.func29, Try.ntmps29
  go_wp2_with fail
  go_loopw [3, 5, 9] (fun v3 _ v wr => ∃ k : Nat, k ≤ ms.length ∧ v = .int .i64 k ∧ Hid (DocAt w.heap.size wr v3 (ms.take k)) ∧ Hid (Ext w wr)) (fun _ _ v _ => ms.length - (intOf v).toNat)
  case atStart => exact ⟨0, Nat.zero_le _, rfl, HST.out, Ext_alloc (Ext_refl w)⟩
  case round =>
    clear HST
    obtain ⟨k, hk, rfl, HO, HB⟩ := hrel
    by_cases hlt : k < ms.length
    · obtain ⟨m, hx⟩ : ∃ m, ms[k]? = some m := ⟨_, List.getElem?_eq_getElem hlt⟩
      obtain ⟨bb, o, hA, hcell⟩ := (Rd_ext HB.out HR.out).elem Em.enc (fun _ => rfl) hlt hx
      have c0 := hcell 0 _ rfl
      have c1 := hcell 1 _ rfl
      have c2 := hcell 2 _ rfl
      have c3 := hcell 3 _ rfl
      simp only [Nat.add_zero, Em.v] at c0 c1 c2 c3
      subst hA
      have HX := Lib.hid (show ms.take (k + 1) = ms.take k ++ [m] by rw [List.take_add_one, hx]; rfl)
      clear hcell hx
      have htk : (ms.take k).length = k := by rw [List.length_take]; omega
      obtain ⟨A9, c9, h9⟩ := Go.Proofs.YthkioahpnbahhaaW.PrintWords.own_slice HO.out
      rw [htk] at h9
      subst h9
      have HO1 : Hid (wr.ownsRow w.heap.size 44 4 (.slice A9 k c9) k ((ms.take k).flatMap Em.enc)) := Lib.hid (by have := HO.out; unfold DocAt at this; rw [htk] at this; exact this)
      have hmx : k + 1 ≤ maxLen := by unfold maxLen; omega
      have hsz := HB.out.size
      clear HO
      go_wp2_with (at_builtin; go_must (refine append_one w.heap.size rfl (.tmp 13) (.tmp 23) 42 44 (.agg #[.int .i64 0, .int .u8 0, .int .u8 0, .slice none 0 0]) 4 40 rfl Try.underlying42 infoD rfl (by decide) (.slice A9 k c9) k _ m.enc (own_alloc HO1.out _) (by first | rfl | (rw [World.size_alloc]; rfl)) (by first | rfl | (rw [World.size_alloc]; rfl)) rfl rfl (by first | rfl | (rw [World.size_alloc]; rfl)) (by omega) hmx (by simp; omega) ?_); intro g9 c9 w1 hown hg hge; have HO2 := Lib.hid hown; have HG1 := Lib.hid hg; clear hown hg)
      refine ⟨⟨k + 1, by omega, by go_num, ?_, ?_⟩, by simp [intOf]; omega⟩
      · unfold DocAt
        have e1 : [m].flatMap Em.enc = m.enc := by simp
        rw [HX.out, List.length_append, htk, List.flatMap_append, e1]
        exact HO2.out
      · exact (Ext_alloc HB.out).grown HG1.out (Ext_alloc HB.out).size (fun g hg => (own_base HO1.out g hg).1)
    · have : k = ms.length := by omega
      subst this
      rw [List.take_length] at HO
      go_wp2_with fail
      go_ret
      exact ⟨_, rfl, HO.out, HB.out⟩
/-- an event as the print's -/
def Ev.s (e : Ev) : PIacFeeds.S44 := ⟨e.kind, e.code, e.opt, e.bytes⟩
theorem C_of_ev {W : World} {A : Option Addr} {ms : List Em} (h : Rd W 4 A ms.length (ms.flatMap Em.enc)) (hm : ∀ m ∈ ms, m.rd W) (hb : ∀ m ∈ ms, m.e.bytes.length ≤ 1000000) (hl : ms.length ≤ 1000000) : Kd.C PIacFeeds.k44 W A ms.length (ms.map fun m => m.e.s) := by
  refine ⟨by simp, by omega, fun hn => ?_⟩
  obtain ⟨b, o, rfl, hc⟩ := h.2 hn
  refine ⟨_, rfl, fun j p hj => ?_⟩
  rw [List.getElem?_map] at hj
  obtain ⟨m, hm1, rfl⟩ := Option.map_eq_some_iff.1 hj
  have hmem : m ∈ ms := List.mem_of_getElem? hm1
  refine ⟨m.enc, rfl, PIacFeeds.k44_mk W m.e.s (hm m hmem).2 (C_of_Rd (hm m hmem).1 (by have := hb m hmem; show m.e.bytes.length ≤ _; omega)), fun i u hu => ?_⟩
  have hi : i < 4 := by have := (List.getElem?_eq_some_iff.1 hu).1; exact this
  have h1 := hc (j * 4 + i) u (by rw [flat_get Em.enc 4 (fun _ => rfl) ms j i hi, hm1]; exact hu)
  have e : (⟨b, o, none⟩ : Addr).add (j * 4 + i) = ⟨b, o + (j * 4 + i), none⟩ := add_at b o _
  exact e ▸ h1
/-- the same, with each other's bytes -/
theorem Ev.s_inj {a b : Ev} (h : a.s = b.s) : a = b := by
  cases a; cases b
  simp only [Ev.s, PIacFeeds.S44.mk.injEq] at h
  simp only [Ev.mk.injEq]
  exact h
end Go.Proofs.Ythkioahpnbahhaa
