/- Feed of a new decoder; Copy, Same of bytes; the rows that come in. -/
import Derived.Test.YthkioahpnbahhaaD5r
import Derived.Test.YthkioahpnbahhaaA
namespace Go.Proofs.Ythkioahpnbahhaa
set_option linter.unusedVariables false
set_option linter.unusedSimpArgs false
open Go.RowKit Go.Proofs.YthkioahpnbahhaaW.PrintWords
theorem byte_row {H : Type} {w : World} {A : Option Addr} {n c : Nat} (h : Handed Try.prog H w 24 (.slice A n c)) :
    ∃ l : List Int, l.length = n ∧ n ≤ c ∧ n ≤ maxLen ∧ Rd w 1 A n (u8s l) ∧ ∀ x ∈ l, 0 ≤ x ∧ x < 256 := by
  obtain ⟨enc, d, ps, h⟩ := h
  exact arg_bytes Try.underlying24 Try.underlying5 (by kernel_rfl) h
theorem copy_loop (l : List Int) (hl : l.length ≤ 1000000) : ∀ (d k i : Nat), l.length = i + d → d < k → PIacFeeds.greenscreenref01_Copy.l0 k l (l.take i) (i : Int) = some l := by
  intro d
  induction d with
  | zero =>
    intro k i hi hk
    obtain ⟨k, rfl⟩ : ∃ m, k = m + 1 := ⟨k - 1, by omega⟩
    simp only [PIacFeeds.greenscreenref01_Copy.l0]
    rw [if_neg (by omega), List.take_of_length_le (by omega)]
  | succ d ih =>
    intro k i hi hk
    obtain ⟨k, rfl⟩ : ∃ m, k = m + 1 := ⟨k - 1, by omega⟩
    obtain ⟨x, hx⟩ : ∃ x, l[i]? = some x := ⟨_, List.getElem?_eq_getElem (by omega)⟩
    have hw : wrap64 ((i : Int) + 1) = ((i + 1 : Nat) : Int) := by unfold wrap64; omega
    simp only [PIacFeeds.greenscreenref01_Copy.l0]
    rw [if_pos (by omega), if_pos (by omega), if_pos (by rw [List.length_take]; omega), rd_get hx, hw, show l.take i ++ [x] = l.take (i + 1) by rw [List.take_add_one, hx]; rfl]
    exact ih k (i + 1) (by omega) (by omega)
theorem Copy_any (A : Option Addr) (c : Nat) (l : List Int) (hl : l.length ≤ 1000000) (hc : l.length ≤ c) (w : World) (hr : Rd w 1 A l.length (u8s l)) :
    Calls Try.prog 25 #[.slice A l.length c] w (RetB l w) :=
  (PIacFeeds.greenscreenref01_Copy.calls (l.length + 1) A c l l w (C_of_Rd hr (by omega)) hc (by
    have := copy_loop l hl l.length (l.length + 1) 0 (by omega) (by omega)
    simpa [PIacFeeds.greenscreenref01_Copy.f] using this)).mono fun _ _ ⟨v, he, h1, h2⟩ => ⟨v, he, Bts_of_R h1, h2⟩
theorem SameB_any {A1 A2 : Option Addr} {c1 c2 : Nat} {l : List Int} (hl : l.length ≤ 1000000) (h1 : l.length ≤ c1) (h2 : l.length ≤ c2) {w : World} (r1 : Rd w 1 A1 l.length (u8s l)) (r2 : Rd w 1 A2 l.length (u8s l)) :
    Calls Try.prog 15 #[.slice A1 l.length c1, .slice A2 l.length c2] w (Ret (.bool true) w) :=
  (PIacFeeds.greenscreenref01_Same.calls (l.length + 1) A1 c1 l A2 c2 l true w (C_of_Rd r1 (by omega)) h1 (C_of_Rd r2 (by omega)) h2 (same1 l hl (by omega))).mono fun _ _ ⟨he, hd⟩ => ⟨he, hd.below⟩
/-- a row that can be read lies within memory -/
theorem Rd.lt {w : World} {A : Option Addr} {n : Nat} {cs : List Value} (h : Rd w 1 A n cs) (hn : 0 < n) : ∀ ad, A = some ad → ad.block < w.heap.size := fun ad e => by
  obtain ⟨b, o, h2, h3⟩ := h.2 hn
  have hl := h.1
  have := World.block_lt_of_cell? w _ (h3 0 _ (List.getElem?_eq_getElem (by omega)))
  rw [e] at h2
  cases h2
  exact this
/-- a new decoder's Feed -/
def FeedN (W : World) (db : Nat) (b : List Int) (e : Ending) (w : World) : Prop :=
  ∃ vo ms vs', e = .returned vo ∧ DecR w db { Dec.zero.takes b with out := [] } vs' ∧ EvsAt (Own W (.slice none 0 0)) w vo ms vs' ∧ ms.map Em.e = (Dec.zero.takes b).out ∧ (∀ g, vs'.ownBlock = some g → W.heap.size ≤ g) ∧ Mut db W w
theorem Feed_new {W : World} {db : Nat} (h : DecR W db Dec.zero (.slice none 0 0)) (A : Option Addr) (c : Nat) (b : List Int) (hb : b.length ≤ 40000) (hc : b.length ≤ c) (hr : Rd W 1 A b.length (u8s b)) (ho : 0 < b.length → Off db A) :
    Calls Try.prog 26 #[.pointer (some ⟨db, 0, none⟩), .slice A b.length c] W (FeedN W db b) :=
  (Feed_any h A c b hb hc hr ho (fun h0 ad e => ⟨Rd.lt hr h0 ad e, fun h => by cases h⟩)).mono fun e w ⟨vo, ms, vs', h1, h2, h3, h4, h5, h6⟩ => by
    have hown : ∀ g, Own W (.slice none 0 0) g → W.heap.size ≤ g := fun g h => by
      rcases h with h | h
      · exact h
      · cases h
    exact ⟨vo, ms, vs', h1, h2, h3, h4, fun g hg => hown g (h5 g hg), ⟨h6.os, h6.tape, h6.output, h6.size, fun i hi hne => h6.block i hi (fun e => hne (by rw [e])) (fun h => absurd (hown i h) (by omega))⟩⟩
theorem DecR.mut {W W1 : World} {db db2 : Nat} {d : Dec} {vs : Value} (h : DecR W db d vs) (hm : Mut db2 W W1) (hne : db ≠ db2) (hs : vs.ownBlock ≠ some db2) : DecR W1 db d vs :=
  ⟨h.blk.grown hm (fun e => hne (by injection e)), own_move h.sub (fun k hk => hm.block k (World.ownsRow.lt h.sub k hk).2 (fun e => hs (by rw [hk]; exact e))), h.out, h.len⟩
/-- events stay while another decoder goes on -/
theorem EvsAt.mut {own : Nat → Prop} {W W1 : World} {vo v : Value} {ms : List Em} {db : Nat} {cs : Array Value} (h : EvsAt own W vo ms v) (hb : Blk W db 57 cs) (hm : Mut db W W1) : EvsAt own W1 vo ms v := by
  have mv : ∀ {u : Value} {e : TypeId} {s n : Nat} {xs : List Value}, W.ownsRow 0 e s u n xs → 57 ≠ e → W1.ownsRow 0 e s u n xs := fun h1 h2 => own_move h1 (fun k hk => hm.block k (World.ownsRow.lt h1 k hk).2 (fun e => own_blk_ne h1 hb h2 (by rw [hk]; exact e)))
  exact ⟨mv h.out (by decide), fun m hm => mv (h.row m hm) (by decide), h.ns, h.nd, h.oo, h.om⟩
theorem i64_mask (x : Int) (i : Nat) (hi : i ≤ 62) : bits .and .i64 x (((2 ^ i - 1 : Nat)) : Int) = x % ((2 ^ i : Nat) : Int) := by
  have hp : (2:Nat) ^ i ≤ 2 ^ 62 := Nat.pow_le_pow_right (by decide) hi
  have hpos : 0 < 2 ^ i := Nat.two_pow_pos i
  have h1 : ((2 ^ i - 1 : Nat) : Nat) % 2 ^ 64 = 2 ^ i - 1 := Nat.mod_eq_of_lt (by omega)
  simp only [bits, BitVec.ofInt_natCast, BitVec.toNat_and, BitVec.toNat_ofNat, BitVec.toNat_ofInt]
  rw [show IntKind.i64.bits = 64 from rfl]
  rw [h1, Nat.and_two_pow_sub_one_eq_mod]
  have h2 : ((x % ((2 ^ 64 : Nat) : Int)).toNat : Int) = x % ((2 ^ 64 : Nat) : Int) := Int.toNat_of_nonneg (Int.emod_nonneg _ (by decide))
  have h3 : (((x % ((2 ^ 64 : Nat) : Int)).toNat % 2 ^ i : Nat) : Int) = x % ((2 ^ i : Nat) : Int) := by
    rw [Int.natCast_emod, h2]
    apply Int.emod_emod_of_dvd
    exact_mod_cast Nat.pow_dvd_pow 2 (show i ≤ 64 by omega)
  rw [h3, IntKind.wrap_i64]
  have h4 : 0 ≤ x % ((2 ^ i : Nat) : Int) := Int.emod_nonneg _ (by omega)
  have h5 : x % ((2 ^ i : Nat) : Int) < ((2 ^ i : Nat) : Int) := Int.emod_lt_of_pos _ (by omega)
  omega
theorem and255 (x : Int) : bits .and .i64 x 255 = x % 256 := i64_mask x 8 (by decide)
theorem and4095 (x : Int) : bits .and .i64 x 4095 = x % 4096 := i64_mask x 12 (by decide)
theorem cut_at (cut : Int) (n : Nat) : ∃ k : Nat, (bits .and .i64 cut 4095).tmod ((n : Int) + 1) = (k : Int) ∧ k ≤ n := by
  rw [and4095]
  have h0 : 0 ≤ cut % 4096 := Int.emod_nonneg _ (by decide)
  rw [Int.tmod_eq_emod_of_nonneg h0]
  have h1 := Int.emod_nonneg (cut % 4096) (show ((n : Int) + 1) ≠ 0 by omega)
  have h2 := Int.emod_lt_of_pos (cut % 4096) (show (0 : Int) < (n : Int) + 1 by omega)
  exact ⟨(cut % 4096 % ((n : Int) + 1)).toNat, by omega, by omega⟩
theorem out_small {b : List Int} {ms : List Em} (h : ms.map Em.e = (Dec.zero.takes b).out) : ms.length ≤ 2 * b.length ∧ ∀ m ∈ ms, m.e.bytes.length ≤ 256 + 2 * b.length := by
  have hr : (Dec.zero.takes b).Room (0 + 2 * b.length) := Dec.Room.takes (d := Dec.zero) ⟨by show ([] : List Ev).length ≤ 0; simp, fun e he => (by cases he), by show ([] : List Int).length ≤ 256; simp⟩ b
  rw [Nat.zero_add] at hr
  have h1 : ms.length = (Dec.zero.takes b).out.length := by rw [← h, List.length_map]
  exact ⟨by rw [h1]; exact hr.1, fun m hm => hr.2.1 m.e (by rw [← h]; exact List.mem_map_of_mem hm)⟩
theorem DocAll.mut {b db : Nat} {W W1 : World} {vo : Value} {ms : List Em} (h : DocAll b W vo ms) (hm : Mut db W W1) (hdb : db < b) : DocAll b W1 vo ms := by
  have mv : ∀ {u : Value} {e : TypeId} {s n : Nat} {xs : List Value}, W.ownsRow b e s u n xs → W1.ownsRow b e s u n xs := fun h1 => own_move h1 (fun k hk => hm.block k (World.ownsRow.lt h1 k hk).2 (fun e => by
    injection e with e
    have := (World.ownsRow.lt h1 k hk).1
    omega))
  exact ⟨mv h.out, fun m hm => mv (h.row m hm)⟩
theorem Rd.take {w : World} {A : Option Addr} {n : Nat} {l : List Int} (h : Rd w 1 A n (u8s l)) (k : Nat) (hk : k ≤ n) : Rd w 1 A k (u8s (l.take k)) := by
  have hl : l.length = n := by have := h.1; simpa [u8s] using this
  refine ⟨by simp [u8s]; omega, fun h0 => ?_⟩
  obtain ⟨b, o, h2, h3⟩ := h.2 (by omega)
  refine ⟨b, o, h2, fun j u hu => h3 j u ?_⟩
  rw [u8s_get] at hu ⊢
  rw [List.getElem?_take] at hu
  by_cases hj : j < k
  · rwa [if_pos hj] at hu
  · rw [if_neg hj] at hu; cases hu
theorem AsP.rd {w w' : World} {v v0 : Value} {ms : List Em} {b : Nat} (h : DocAt b w' v ms) (hm : EvR w v0 ms) (hx : Ext w w') : EvR w' v ms := by
  obtain ⟨_, _, _, _, _, hmm⟩ := hm
  exact EvR.of_own h (fun m hm => (hmm m hm).ext hx)
end Go.Proofs.Ythkioahpnbahhaa
