/- The helper on of law06: the options that are on, of the document's. -/
import Derived.Test.YtioaenidkieiiaaR06w
import Derived.Test.YtioaenidkieiiaaL6a
namespace Go.Proofs.Ytioaenidkieiiaa
set_option linter.unusedVariables false
set_option linter.unusedSimpArgs false
open Go.RowKit Go.Shelf

theorem own_ext {W w1 : World} {base : Nat} {e : TypeId} {size n : Nat} {v : Value} {xs : List Value} (h : W.ownsRow base e size v n xs) (hx : Ext W w1) : w1.ownsRow base e size v n xs := by
  refine ⟨h.1, ?_⟩
  rcases h.2 with h1 | ⟨g, cap, cur, h1, h2, h3, h4⟩
  · exact .inl h1
  · exact .inr ⟨g, cap, cur, h1, h2, (hx.block g (lt_of_block h3)).trans h3, h4⟩
def onsR (l : List One) (s : Bool) (k : Nat) : List Int := ((List.range k).filter fun x : Nat => stateR l s (x : Int) == 1).map (fun x : Nat => (x : Int))
theorem onsR_succ (l : List One) (s : Bool) (k : Nat) : onsR l s (k + 1) = if stateR l s (k : Int) == 1 then onsR l s k ++ [(k : Int)] else onsR l s k := by
  unfold onsR
  rw [List.range_succ, List.filter_append, List.map_append]
  by_cases h : stateR l s (k : Int) == 1
  · simp [h]
  · simp [h]
theorem onsR_length (l : List One) (s : Bool) : ∀ k, (onsR l s k).length ≤ k
  | 0 => by simp [onsR]
  | k + 1 => by
    rw [onsR_succ]
    have := onsR_length l s k
    split <;> simp <;> omega
theorem onsR_prefix (l : List One) (s : Bool) (k : Nat) : ∀ m, onsR l s k <+: onsR l s (k + m)
  | 0 => List.prefix_refl _
  | m + 1 => by
    refine (onsR_prefix l s k m).trans ?_
    rw [← Nat.add_assoc, onsR_succ]
    split
    · exact List.prefix_append _ _
    · exact List.prefix_refl _
theorem onsR_take (l : List One) (s : Bool) {k m : Nat} (hk : k ≤ 256) (hm : (onsR l s k).length ≤ m) (h : k = 256 ∨ (onsR l s k).length = m) : onsR l s k = (onsR l s 256).take m := by
  rcases h with rfl | h
  · rw [List.take_of_length_le hm]
  · have := onsR_prefix l s k (256 - k)
    rw [show k + (256 - k) = 256 from by omega] at this
    rw [← h]
    exact List.prefix_iff_eq_take.1 this

set_option maxRecDepth 100000 in
set_option maxHeartbeats 4000000 in
theorem on_any (A A1 A2 : Option Addr) (c n1 c1 n2 c2 : Nat) (l : List One) (s : Bool) (m : Nat) (hm : m ≤ 256) (hn : l.length ≤ 100000) (w : World) (hr : Rd w 3 A l.length (l.flatMap One.enc)) :
    Calls Try.prog 23 #[.agg #[.slice A l.length c, .slice A1 n1 c1, .slice A2 n2 c2], .bool s, .int .i64 m] w (RetB ((onsR l s 256).take m) w) := by
  have BA := Lib.hid ((Blk.new w 29 #[.slice A l.length c, .slice A1 n1 c1, .slice A2 n2 c2]).alloc (.cells #[] 5))
  have q3 := Blk.new (w.alloc (.cells #[.slice A l.length c, .slice A1 n1 c1, .slice A2 n2 c2] 29)) 5 #[]
  rw [World.size_alloc] at q3
  have BO := Lib.hid q3
  clear q3
  have HX := Lib.hid (Ext_alloc (o := .cells #[] 5) (Ext_alloc (o := .cells #[.slice A l.length c, .slice A1 n1 c1, .slice A2 n2 c2] 29) (Ext_refl w)))
  have HR := Lib.hid (fun w' (h : Ext w w') => Rd_ext h hr)
  clear hr
  go_enter Try.func23, Try.ntmps23
  go_wp2
  go_loopw [7, 8] (fun v7 v8 wr => ∃ k : Nat, k ≤ 256 ∧ v8 = .int .i64 k ∧ (onsR l s k).length ≤ m ∧ Hid (wr.ownsRow w.heap.size 5 1 v7 (onsR l s k).length (u8s (onsR l s k))) ∧
      Hid (Blk wr w.heap.size 29 #[.slice A l.length c, .slice A1 n1 c1, .slice A2 n2 c2]) ∧ Hid (Ext w wr)) (fun _ v _ => 256 - (intOf v).toNat)
  case atStart =>
    exact ⟨0, by omega, rfl, by simp [onsR], ⟨rfl, .inr ⟨_, 0, #[], rfl, by omega, BO.out, Nat.le_refl _, Nat.zero_le _, rfl, rfl⟩⟩, BA.out, HX.out⟩
  case round =>
    obtain ⟨k, hk, rfl, hlm, HO, H1, H2⟩ := hrel
    obtain ⟨A9, c9, rfl⟩ := own_slice HO.out
    have hlk := onsR_length l s k
    by_cases hlt : k < 256
    · by_cases hlt2 : (onsR l s k).length < m
      · have q0 := H1.out.cell 0
        have q1 := H1.out.cell 1
        have q2 := H1.out.cell 2
        cases hst : (stateR l s (k : Int) == 1)
        · go_wp2_with (go_at_call 19; refine (ref_State A c _ _ l s k (by omega) _ (HR.out _ H2.out)).mono ?_; rintro e wn ⟨rfl, hb⟩; have HB := Lib.hid hb; clear hb)
          go_roundw
          case rel => exact ⟨k + 1, by omega, by go_num, by rw [onsR_succ, hst]; exact hlm, by rw [onsR_succ, hst]; exact own_ext HO.out HB.out, Blk.below' H1.out HB.out, Ext_trans HB.out H2.out⟩
          case measure => simp [intOf]; omega
        · go_wp2_with (first
            | (go_at_call 19; refine (ref_State A c _ _ l s k (by omega) _ (HR.out _ H2.out)).mono ?_; rintro e wn ⟨rfl, hb⟩; have HB := Lib.hid hb; clear hb)
            | (at_builtin; refine append_one w.heap.size rfl (.tmp 26) (.tmp 29) 22 5 (.int .u8 0) 1 1 rfl Try.underlying22 info5 rfl (by decide) (.slice A9 _ c9) _ _ [.int .u8 (k : Int)] (own_ext HO.out HB.out) (by rfl) (by rfl) rfl rfl (by rfl) (by omega) (by unfold maxLen; omega) (Nat.le_trans H2.out.size HB.out.size) ?_; intro g9 c9 w1 hown hg hge; have HO1 := Lib.hid hown; have HG1 := Lib.hid hg; clear hown hg))
          go_roundw
          case rel => exact ⟨k + 1, by omega, by go_num, by rw [onsR_succ, hst]; simp; omega, by rw [onsR_succ, hst]; simp only [if_true, List.length_append, List.length_singleton, u8s_append]; exact HO1.out,
            (Blk.below' H1.out HB.out).grown HG1.out ((Blk.below' H1.out HB.out).not_row (by decide) (own_ext HO.out HB.out)), Below.grown (Ext_trans HB.out H2.out) HG1.out (Ext_trans HB.out H2.out).size (fun g hg => (own_base HO.out g hg).1)⟩
          case measure => simp [intOf]; omega
      · have HT := Lib.hid (onsR_take l s (m := m) hk hlm (.inr (by omega)))
        go_wp2
        go_ret
        exact ⟨_, rfl, by rw [← HT.out]; exact Bts.of_own HO.out, H2.out⟩
    · have HT := Lib.hid (onsR_take l s (m := m) hk hlm (.inl (by omega)))
      go_wp2
      go_ret
      exact ⟨_, rfl, by rw [← HT.out]; exact Bts.of_own HO.out, H2.out⟩
end Go.Proofs.Ytioaenidkieiiaa
