/- The document's All: the decoder's events. -/
import Derived.Test.YthkioahpnbahhaaD5k
namespace Go.Proofs.Ythkioahpnbahhaa
set_option linter.unusedVariables false
set_option linter.unusedSimpArgs false
open Go.RowKit Go.Proofs.YthkioahpnbahhaaW.PrintWords
def Dec.zero : Dec := ⟨0, 0, 0, [], false, []⟩
def EvRoom (es : List Ev) (k : Nat) : Prop := es.length ≤ k ∧ ∀ e ∈ es, e.bytes.length ≤ 256 + k
theorem EvRoom.le {es : List Ev} {k j : Nat} (h : EvRoom es k) (hk : k ≤ j) : EvRoom es j := ⟨by have := h.1; omega, fun e he => by have := h.2 e he; omega⟩
theorem EvRoom.snoc {es : List Ev} {k : Nat} (h : EvRoom es k) (e : Ev) (he : e.bytes.length ≤ 256) : EvRoom (es ++ [e]) (k + 1) := by
  refine ⟨by rw [List.length_append, List.length_singleton]; have := h.1; omega, fun x hx => ?_⟩
  rcases List.mem_append.1 hx with hx | hx
  · have := h.2 x hx; omega
  · rw [List.mem_singleton.1 hx]; omega
theorem EvRoom.addD {es : List Ev} {k : Nat} (h : EvRoom es k) (c : Int) : EvRoom (addD es c) (k + 1) := by
  have := (Dec.Room.data (d := ⟨0, 0, 0, [], false, es⟩) ⟨h.1, h.2, by simp⟩ c)
  exact ⟨this.1, this.2.1⟩
/-- the state of All's loop -/
structure AllI (b : List Int) (at_ : Nat) (bh : Bool) (es : List Ev) (D : Dec) : Prop where
  out : es = D.out
  st : D.at_ = if bh then 1 else 0
  go : D.takes (b.drop at_) = Dec.zero.takes b
  room : EvRoom es at_
  lt : bh = true → at_ < b.length
theorem AllI.next {b : List Int} {k : Nat} {bh : Bool} {es es' : List Ev} {D D' : Dec} {x : Int} (h : AllI b k bh es D) (hd : b.drop k = x :: b.drop (k + 1)) (ht : D.take x = D') (ho : es' = D'.out) (ha : D'.at_ = 0) (hr : EvRoom es' (k + 1)) : AllI b (k + 1) false es' D' :=
  ⟨ho, ha, by rw [← h.go, hd, Dec.takes_cons, ht], hr, fun e => (by cases e)⟩
/-- behind a 255 -/
structure AllJ (b : List Int) (at_ : Nat) (es : List Ev) (D : Dec) : Prop where
  out : es = D.out
  st : D.at_ = 1
  go : D.takes (b.drop at_) = Dec.zero.takes b
  room : EvRoom es at_
theorem AllJ.next {b : List Int} {k : Nat} {es es' : List Ev} {D D' : Dec} {x : Int} (h : AllJ b k es D) (hd : b.drop k = x :: b.drop (k + 1)) (ht : D.take x = D') (ho : es' = D'.out) (ha : D'.at_ = 0) (hr : EvRoom es' (k + 1)) : AllI b (k + 1) false es' D' :=
  ⟨ho, ha, by rw [← h.go, hd, Dec.takes_cons, ht], hr, fun e => (by cases e)⟩
def AllP (w : World) (b : List Int) (e : Ending) (w' : World) : Prop :=
  ∃ v ms, e = .returned (.tuple #[v, .bool (decide ((Dec.zero.takes b).at_ ≠ 0))]) ∧ DocAll w.heap.size w' v ms ∧ ms.map Em.e = (Dec.zero.takes b).out ∧ Ext w w'
set_option maxRecDepth 100000 in
set_option maxHeartbeats 8000000 in
theorem All_any (A : Option Addr) (c : Nat) (b : List Int) (hb : b.length ≤ 20000) (hc : b.length ≤ c) (hby : ∀ x ∈ b, x ≤ 255) (w : World) (hr : Rd w 1 A b.length (u8s b)) :
    Calls Try.prog 27 #[.slice A b.length c] w (AllP w b) := by
  obtain ⟨i0, hi, hz0, hz1, hz2⟩ := info_parts infoD
  have HR := Lib.hid hr
  have HST := Lib.hid (show (w.alloc (.cells #[] 44)).ownsRow w.heap.size 44 4 (.slice (some ⟨w.heap.size, 0, none⟩) 0 0) 0 [] from World.ownsRow_lit w #[] 0 (Nat.le_refl _) (by decide) rfl)
  have HBY := Lib.hid hby
  clear hr hby
  go_enter Try.func27, Try.ntmps27
  go_wp2_with fail
  go_loopw [4, 5, 6, 7, 8, 9] (fun v4 v5 v6 _ _ _ wr => ∃ (k : Nat) (bh : Bool) (D : Dec) (ms : List Em), k ≤ b.length ∧ v5 = .int .i64 k ∧ v6 = .bool bh ∧ Hid (DocAll w.heap.size wr v4 ms) ∧ Hid (Ext w wr) ∧ Hid (AllI b k bh (ms.map Em.e) D)) (fun _ v _ _ _ _ _ => b.length - (intOf v).toNat)
  case atStart => exact ⟨0, false, Dec.zero, [], Nat.zero_le _, rfl, rfl, ⟨HST.out, fun m hm => (by cases hm)⟩, Ext_alloc (Ext_refl w), ⟨rfl, rfl, rfl, ⟨by simp, by simp⟩, fun h => (by cases h)⟩⟩
  case round =>
    clear HST
    obtain ⟨k, bh, D, ms, hk, rfl, rfl, HO, HX, HI⟩ := hrel
    have hsz := HX.out.size
    obtain ⟨A4, c4, rfl⟩ := Go.Proofs.YthkioahpnbahhaaW.PrintWords.own_slice HO.out.out
    by_cases hlt : k < b.length
    · obtain ⟨x, hx⟩ : ∃ x, b[k]? = some x := ⟨_, List.getElem?_eq_getElem hlt⟩
      obtain ⟨bb, o, hA, hcell⟩ := (Rd_ext HX.out HR.out).2 (by omega)
      have hcx := hcell k (.int .u8 x) (by rw [u8s_get, hx]; rfl)
      subst hA
      have hd := drop_cons hx
      have hll : (ms.map Em.e).length = ms.length := List.length_map _
      have hrm := HI.out.room
      have hml : ms.length ≤ 20000 := by have := hrm.1; omega
      have hmb : ∀ m ∈ ms, m.e.bytes.length ≤ 1000000 := fun m hm => by have := hrm.2 m.e (List.mem_map_of_mem hm); omega
      have HMB := Lib.hid hmb
      have HYM := Lib.hid (List.mem_of_getElem? hx)
      have HDR := Lib.hid hd
      have hw : IntKind.i64.wrap ((k : Int) + 1) = ((k + 1 : Nat) : Int) := IntWalk.i64_in _ (by omega)
      have HC := Lib.hid hcell
      clear hcell hx hd hrm hmb hll
      cases bh
      case false =>
        by_cases h1 : x = 255
        · subst h1
          have hst : D.at_ = 0 := HI.out.st
          have ht : D.take 255 = { D with at_ := 1 } := by rw [take0 hst]; rfl
          have HT1 := Lib.hid ht
          clear ht
          by_cases hl2 : k + 1 < b.length
          · obtain ⟨y, hy⟩ : ∃ y, b[k + 1]? = some y := ⟨_, List.getElem?_eq_getElem hl2⟩
            have hcy := HC.out (k + 1) (.int .u8 y) (by rw [u8s_get, hy]; rfl)
            have HDY := Lib.hid (drop_cons hy)
            have HYM := Lib.hid (List.mem_of_getElem? hy)
            have hw1 : IntKind.i64.wrap (((k + 1 : Nat) : Int) + 1) = ((k + 1 + 1 : Nat) : Int) := IntWalk.i64_in _ (by omega)
            have hw1b : IntKind.i64.wrap ((k : Int) + 1 + 1) = ((k + 1 + 1 : Nat) : Int) := IntWalk.i64_in _ (by omega)
            have HJ : AllJ b (k + 1) (ms.map Em.e) { D with at_ := 1 } := ⟨HI.out.out, rfl, by rw [← HI.out.go, HDR.out, Dec.takes_cons, HT1.out], HI.out.room.le (by omega)⟩
            have HJH := Lib.hid HJ
            clear HJ hy
            have HJ := HJH.out
            have HI1 : Hid (AllJ b (k + 1) (ms.map Em.e) ({ D with at_ := 1 } : Dec)) := Lib.hid HJ
            by_cases h1 : y = 255
            · subst h1
              have ht : (({ D with at_ := 1 } : Dec)).take 255 = (({ D with at_ := 1 } : Dec)).data 255 := by rw [take1 HI1.out.st]; rfl
              have HT := Lib.hid ht
              clear ht
              go_wp2_with fail
              refine (add_any (b := w.heap.size) (HO.out.ext (Ext_alloc (o := .cells #[.int .u8 255] 5) (Ext_refl wr))) (by simp; omega) 255 (some ⟨wr.heap.size, 0, none⟩) 1 (Go.Proofs.YthkioahpnbahhaaW.PrintWords.own_weaken (World.ownsRow_lit wr #[.int .u8 255] 1 (Nat.le_refl _) (by decide) rfl) hsz) (by omega) HMB.out).mono ?_
              rintro e w1 ⟨v1, ms1, rfl, hd1, hm1, hB1⟩
              have HD1 := Lib.hid hd1
              have HM1 := Lib.hid hm1
              have HX1 : Hid (Ext w w1) := Lib.hid (Below.trans (Ext_alloc HX.out) hB1)
              clear hd1 hm1 hB1
              go_wp2_with fail
              refine ⟨⟨k + 1 + 1, false, (({ D with at_ := 1 } : Dec)).data 255, ms1, by omega, by go_num, rfl, HD1, HX1, Lib.hid (HI1.out.next HDY.out HT.out ?_ rfl ?_)⟩, by simp [intOf]; omega⟩
              · rw [HM1.out, HI1.out.out]; rfl
              · rw [HM1.out]; exact HI1.out.room.addD 255
            · have b1 : (y == 255) = false := by simpa using h1
              by_cases h2 : y = 239
              · subst h2
                clear b1
                have ht : (({ D with at_ := 1 } : Dec)).take 239 = (({ D with at_ := 1 } : Dec)).emit ⟨2, 0, 0, []⟩ := by rw [take1 HI1.out.st]; rfl
                have HT := Lib.hid ht
                clear ht
                go_wp2_with (at_builtin; refine list_append_at w.heap.size rfl (.tmp 57) (.tmp 59) 42 rfl 44 i0 _ 4 40 Try.underlying42 hi hz0 hz1 hz2 rfl (by decide) (.slice A4 ms.length c4) ms.length (ms.flatMap Em.enc) (by rfl) (own_alloc HO.out.out _) ⟨wr.heap.size, 0, none⟩ 1 1 (Em.mk ⟨2, 0, 0, []⟩ none 0).enc (by rfl) rfl (by exact World.news_of_block (heap_alloc_new wr (.cells (Em.mk ⟨2, 0, 0, []⟩ none 0).enc.toArray 44))) (by intro u hu; simp [Em.enc, Em.v] at hu; rcases hu with rfl | rfl | rfl | rfl <;> rfl) (by unfold maxLen; omega) (by omega) (by simp; omega) ?_; intro A6 c6 w6 hq hg; have HX6 : Hid (Ext w w6) := Lib.hid ((Ext_alloc HX.out).grown hg (Ext_alloc HX.out).size (fun g hg => (own_base HO.out.out g hg).1)); have HQ := Lib.hid ((HO.out.ext (Ext_alloc (o := .cells (Em.mk ⟨2, 0, 0, []⟩ none 0).enc.toArray 44) (Ext_refl wr))).add (Em.mk ⟨2, 0, 0, []⟩ none 0) (own_nil _ _ _ _) hq hg); clear hq hg)
                refine ⟨⟨k + 1 + 1, false, (({ D with at_ := 1 } : Dec)).emit ⟨2, 0, 0, []⟩, ms ++ [⟨⟨2, 0, 0, []⟩, none, 0⟩], by omega, by go_num, rfl, HQ, HX6, Lib.hid (HI1.out.next HDY.out HT.out ?_ rfl ?_)⟩, by simp [intOf]; omega⟩
                · rw [List.map_append, HI1.out.out]; rfl
                · rw [List.map_append]; exact HI1.out.room.snoc _ (by simp)
              · have b2 : (y == 239) = false := by simpa using h2
                by_cases h3 : 251 ≤ y
                · have b3 : decide (y ≥ 251) = true := by simpa using h3
                  have hy4 : y ≤ 254 := by have := HBY.out y HYM.out; omega
                  have ht : (({ D with at_ := 1 } : Dec)).take y = { (({ D with at_ := 1 } : Dec)) with at_ := 2, code := y } := by
                    rw [take1 HI1.out.st]; unfold Dec.command; rw [if_neg h1, if_neg (by omega), if_pos ⟨h3, hy4⟩]
                  have HT := Lib.hid ht
                  clear ht h1 h2 h3 hy4
                  by_cases h4 : k + 1 + 1 < b.length
                  · obtain ⟨z, hz⟩ : ∃ z, b[k + 1 + 1]? = some z := ⟨_, List.getElem?_eq_getElem h4⟩
                    have hcz := HC.out (k + 1 + 1) (.int .u8 z) (by rw [u8s_get, hz]; rfl)
                    have hd2 := drop_cons hz
                    have HD2 := Lib.hid hd2
                    have hw2 : IntKind.i64.wrap (((k + 1 : Nat) : Int) + 1 + 1) = ((k + 1 + 2 : Nat) : Int) := IntWalk.i64_in _ (by omega)
                    clear hd2 hz
                    go_wp2_with (at_builtin; refine list_append_at w.heap.size rfl (.tmp 68) (.tmp 75) 42 rfl 44 i0 _ 4 40 Try.underlying42 hi hz0 hz1 hz2 rfl (by decide) (.slice A4 ms.length c4) ms.length (ms.flatMap Em.enc) (by rfl) (own_alloc HO.out.out _) ⟨wr.heap.size, 0, none⟩ 1 1 (Em.mk ⟨4, y, z, []⟩ none 0).enc (by rfl) rfl (by exact World.news_of_block (heap_alloc_new wr (.cells (Em.mk ⟨4, y, z, []⟩ none 0).enc.toArray 44))) (by intro u hu; simp [Em.enc, Em.v] at hu; rcases hu with rfl | rfl | rfl | rfl <;> rfl) (by unfold maxLen; omega) (by omega) (by simp; omega) ?_; intro A6 c6 w6 hq hg; have HX6 : Hid (Ext w w6) := Lib.hid ((Ext_alloc HX.out).grown hg (Ext_alloc HX.out).size (fun g hg => (own_base HO.out.out g hg).1)); have HQ := Lib.hid ((HO.out.ext (Ext_alloc (o := .cells (Em.mk ⟨4, y, z, []⟩ none 0).enc.toArray 44) (Ext_refl wr))).add (Em.mk ⟨4, y, z, []⟩ none 0) (own_nil _ _ _ _) hq hg); clear hq hg)
                    refine ⟨⟨k + 1 + 1 + 1, false, ({ (({ D with at_ := 1 } : Dec)) with at_ := 2, code := y } : Dec).emit ⟨4, y, z, []⟩, ms ++ [⟨⟨4, y, z, []⟩, none, 0⟩], by omega, by go_num, rfl, HQ, HX6, Lib.hid ⟨?_, rfl, ?_, ?_, fun e => (by cases e)⟩⟩, by simp [intOf]; omega⟩
                    · rw [List.map_append, HI1.out.out]; rfl
                    · rw [← HI1.out.go, HDY.out, Dec.takes_cons, HT.out, HD2.out, Dec.takes_cons]; rfl
                    · rw [List.map_append]; exact (HI1.out.room.snoc _ (by simp)).le (by omega)
                  · have hend : Dec.zero.takes b = { (({ D with at_ := 1 } : Dec)) with at_ := 2, code := y } := by
                      rw [← HI1.out.go, HDY.out, List.drop_of_length_le (by omega), Dec.takes_cons, HT.out]; rfl
                    have HEN := Lib.hid hend
                    clear hend
                    go_wp2_with fail
                    refine bodyPost_ret (v := .tuple #[.slice A4 ms.length c4, .bool true]) (by simp [results, Try.results27, go_sem]) rfl ?_
                    exact ⟨_, ms, by rw [HEN.out]; rfl, HO.out, by rw [HEN.out]; exact HI1.out.out, HX.out⟩
                · have b3 : decide (y ≥ 251) = false := by simpa using h3
                  by_cases h5 : y = 250
                  · subst h5
                    have ht : (({ D with at_ := 1 } : Dec)).take 250 = { (({ D with at_ := 1 } : Dec)) with at_ := 3, sub := [], long := false } := by rw [take1 HI1.out.st]; rfl
                    have HT := Lib.hid ht
                    clear ht
                    obtain ⟨r, hr, hS⟩ := sub_f b (by omega) (k + 1 + 1) { (({ D with at_ := 1 } : Dec)) with at_ := 3, sub := [], long := false } (by omega) rfl rfl rfl
                    obtain ⟨r1, r2, r3, r4, r5⟩ := r
                    have HS := Lib.hid hS
                    clear hS
                    go_wp2_with fail
                    refine (PIacFeeds.greenscreenref05_sub.calls _ (some ⟨bb, o, none⟩) c b ((k + 1 + 1 : Nat) : Int) r1 r2 r3 r4 r5 wr (C_of_Rd (Rd_ext HX.out HR.out) (by omega)) hc hr).mono ?_
                    rintro e w1 ⟨v3, rfl, hv3, hx3⟩
                    have HX1 := Lib.hid (Ext_trans hx3 HX.out)
                    have HO1 := Lib.hid (HO.out.ext hx3)
                    obtain ⟨A3, c3, rfl⟩ := Go.Proofs.YthkioahpnbahhaaW.PrintWords.own_slice (own_of_R hv3)
                    have HV3 := Lib.hid (own_of_R hv3)
                    have hwz := hx3.size
                    clear hv3 hx3 hr
                    have hcs : (r5 = 0 ∧ (({ (({ D with at_ := 1 } : Dec)) with at_ := 3, sub := [], long := false } : Dec).takes (b.drop (k + 1 + 1))).at_ ≠ 0 ∧ (({ (({ D with at_ := 1 } : Dec)) with at_ := 3, sub := [], long := false } : Dec).takes (b.drop (k + 1 + 1))).out = (({ D with at_ := 1 } : Dec)).out) ∨ _ := HS.out
                    rcases hcs with ⟨rfl, hq1, hq2⟩ | ⟨nxt, h5, h6, h7, h8, h9, E, h10, h11, h12⟩
                    · have hend : Dec.zero.takes b = ({ (({ D with at_ := 1 } : Dec)) with at_ := 3, sub := [], long := false } : Dec).takes (b.drop (k + 1 + 1)) := by
                        rw [← HI1.out.go, HDY.out, Dec.takes_cons, HT.out]
                      have HEN := Lib.hid hend
                      have HQ1 := Lib.hid hq1
                      have HQ2 := Lib.hid hq2
                      clear hend hq1 hq2
                      go_wp2_with fail
                      refine bodyPost_ret (v := .tuple #[.slice A4 ms.length c4, .bool true]) (by simp [results, Try.results27, go_sem]) rfl ?_
                      exact ⟨_, ms, by rw [HEN.out, decide_eq_true HQ1.out], HO1.out.ext (Ext_alloc (Ext_refl w1)), by rw [HEN.out, HQ2.out]; exact HI1.out.out, Ext_alloc HX1.out⟩
                    · dsimp only at h5 h6 h8 h9 h10 h11
                      subst h5
                      have hz0' : ((nxt : Int) == 0) = false := by simp; omega
                      have HE1 := Lib.hid h10
                      have HE2 := Lib.hid h11
                      have HE3 := Lib.hid h12
                      have HE4 := Lib.hid h8
                      have HE5 := Lib.hid h9
                      clear h10 h11 h12 h8 h9
                      go_wp2_with (at_builtin; go_must (refine list_append_at w.heap.size rfl (.tmp 90) (.tmp 92) 42 rfl 44 i0 _ 4 40 Try.underlying42 hi hz0 hz1 hz2 rfl (by decide) (.slice A4 ms.length c4) ms.length (ms.flatMap Em.enc) (by rfl) (HO1.out.ext (Ext_alloc (o := .cells (Em.mk ⟨r1, r2, r3, r4⟩ A3 c3).enc.toArray 44) (Ext_alloc (o := .cells (Em.mk ⟨r1, r2, r3, r4⟩ A3 c3).enc.toArray 44) (Ext_refl w1)))).out ⟨w1.heap.size + 1, 0, none⟩ 1 1 (Em.mk ⟨r1, r2, r3, r4⟩ A3 c3).enc (by rfl) rfl (by have hb := World.news_of_block (heap_alloc_new (w1.alloc (.cells (Em.mk ⟨r1, r2, r3, r4⟩ A3 c3).enc.toArray 44)) (.cells (Em.mk ⟨r1, r2, r3, r4⟩ A3 c3).enc.toArray 44)); rw [World.size_alloc] at hb; exact hb) (by intro u hu; simp [Em.enc, Em.v] at hu; rcases hu with rfl | rfl | rfl | rfl <;> rfl) (by unfold maxLen; omega) (by omega) (by simp; omega) ?_); intro A6 c6 w6 hq hg; have hk6 : w6.cell? ⟨w1.heap.size, 0, none⟩ = some (.int .i64 r1) := cell_grown hg (((World.cell?_alloc_lt _ _ ⟨w1.heap.size, 0, none⟩ (by rw [World.size_alloc]; exact Nat.lt_succ_self _))).trans (World.news_of_block (heap_alloc_new w1 (.cells (Em.mk ⟨r1, r2, r3, r4⟩ A3 c3).enc.toArray 44)) 0 (.int .i64 r1) rfl)) (fun e => absurd (World.ownsRow.lt HO1.out.out w1.heap.size e.symm).2 (Nat.lt_irrefl _)); have HX6 : Hid (Ext w w6) := Lib.hid ((Ext_trans (Ext_alloc (o := .cells (Em.mk ⟨r1, r2, r3, r4⟩ A3 c3).enc.toArray 44) (Ext_alloc (o := .cells (Em.mk ⟨r1, r2, r3, r4⟩ A3 c3).enc.toArray 44) (Ext_refl w1))) HX1.out).grown hg (Ext_trans (Ext_alloc (o := .cells (Em.mk ⟨r1, r2, r3, r4⟩ A3 c3).enc.toArray 44) (Ext_alloc (o := .cells (Em.mk ⟨r1, r2, r3, r4⟩ A3 c3).enc.toArray 44) (Ext_refl w1))) HX1.out).size (fun g hg => (own_base HO1.out.out g hg).1)); have HQ := Lib.hid ((HO1.out.ext (Ext_alloc (o := .cells (Em.mk ⟨r1, r2, r3, r4⟩ A3 c3).enc.toArray 44) (Ext_alloc (o := .cells (Em.mk ⟨r1, r2, r3, r4⟩ A3 c3).enc.toArray 44) (Ext_refl w1)))).add (Em.mk ⟨r1, r2, r3, r4⟩ A3 c3) (Go.Proofs.YthkioahpnbahhaaW.PrintWords.own_weaken (own_ext5 HV3.out (Ext_alloc (o := .cells (Em.mk ⟨r1, r2, r3, r4⟩ A3 c3).enc.toArray 44) (Ext_alloc (o := .cells (Em.mk ⟨r1, r2, r3, r4⟩ A3 c3).enc.toArray 44) (Ext_refl w1)))) hsz) hq hg); clear hq hg)
                      refine ⟨⟨nxt, r1 == 7, E, ms ++ [⟨⟨r1, r2, r3, r4⟩, A3, c3⟩], by omega, by go_num, rfl, HQ, HX6, Lib.hid ⟨?_, ?_, ?_, ?_, ?_⟩⟩, by simp [intOf]; omega⟩
                      · rw [List.map_append, HE1.out, HI1.out.out]; rfl
                      · rw [HE2.out]; by_cases hr7 : r1 = 7 <;> simp [hr7]
                      · rw [← HE3.out, ← HI1.out.go, HDY.out, Dec.takes_cons, HT.out]
                      · rw [List.map_append]; exact (HI1.out.room.snoc _ HE5.out).le (by omega)
                      · intro e; exact HE4.out (by simpa using e)
                  · have b5 : (y == 250) = false := by simpa using h5
                    have ht : (({ D with at_ := 1 } : Dec)).take y = (({ D with at_ := 1 } : Dec)).emit ⟨3, y, 0, []⟩ := by
                      rw [take1 HI1.out.st]; unfold Dec.command; rw [if_neg h1, if_neg h5, if_neg (by omega), if_neg h2]
                    have HT := Lib.hid ht
                    clear ht h1 h2 h3 h5
                    go_wp2_with (at_builtin; refine list_append_at w.heap.size rfl (.tmp 98) (.tmp 101) 42 rfl 44 i0 _ 4 40 Try.underlying42 hi hz0 hz1 hz2 rfl (by decide) (.slice A4 ms.length c4) ms.length (ms.flatMap Em.enc) (by rfl) (own_alloc HO.out.out _) ⟨wr.heap.size, 0, none⟩ 1 1 (Em.mk ⟨3, y, 0, []⟩ none 0).enc (by rfl) rfl (by exact World.news_of_block (heap_alloc_new wr (.cells (Em.mk ⟨3, y, 0, []⟩ none 0).enc.toArray 44))) (by intro u hu; simp [Em.enc, Em.v] at hu; rcases hu with rfl | rfl | rfl | rfl <;> rfl) (by unfold maxLen; omega) (by omega) (by simp; omega) ?_; intro A6 c6 w6 hq hg; have HX6 : Hid (Ext w w6) := Lib.hid ((Ext_alloc HX.out).grown hg (Ext_alloc HX.out).size (fun g hg => (own_base HO.out.out g hg).1)); have HQ := Lib.hid ((HO.out.ext (Ext_alloc (o := .cells (Em.mk ⟨3, y, 0, []⟩ none 0).enc.toArray 44) (Ext_refl wr))).add (Em.mk ⟨3, y, 0, []⟩ none 0) (own_nil _ _ _ _) hq hg); clear hq hg)
                    refine ⟨⟨k + 1 + 1, false, (({ D with at_ := 1 } : Dec)).emit ⟨3, y, 0, []⟩, ms ++ [⟨⟨3, y, 0, []⟩, none, 0⟩], by omega, by go_num, rfl, HQ, HX6, Lib.hid (HI1.out.next HDY.out HT.out ?_ rfl ?_)⟩, by simp [intOf]; omega⟩
                    · rw [List.map_append, HI1.out.out]; rfl
                    · rw [List.map_append]; exact HI1.out.room.snoc _ (by simp)
          · have hend : Dec.zero.takes b = { D with at_ := 1 } := by
              rw [← HI.out.go, HDR.out, List.drop_of_length_le (by omega), Dec.takes_cons, HT1.out]; rfl
            have HEN := Lib.hid hend
            clear hend
            go_wp2_with fail
            refine bodyPost_ret (v := .tuple #[.slice A4 ms.length c4, .bool true]) (by simp [results, Try.results27, go_sem]) rfl ?_
            exact ⟨_, ms, by rw [HEN.out]; rfl, HO.out, by rw [HEN.out]; exact HI.out.out, HX.out⟩
        · have h1b : (x != 255) = true := by simpa [bne] using h1
          have hst : D.at_ = 0 := HI.out.st
          have ht : D.take x = D.data x := by rw [take0 hst]; unfold Dec.outside; rw [if_neg h1]
          have HT := Lib.hid ht
          clear ht
          go_wp2_with fail
          refine (add_any (b := w.heap.size) (HO.out.ext (Ext_alloc (o := .cells #[.int .u8 x] 5) (Ext_refl wr))) (by simp; omega) x (some ⟨wr.heap.size, 0, none⟩) 1 (Go.Proofs.YthkioahpnbahhaaW.PrintWords.own_weaken (World.ownsRow_lit wr #[.int .u8 x] 1 (Nat.le_refl _) (by decide) rfl) hsz) (by omega) HMB.out).mono ?_
          rintro e w1 ⟨v1, ms1, rfl, hd1, hm1, hB1⟩
          have HD1 := Lib.hid hd1
          have HM1 := Lib.hid hm1
          have HX1 : Hid (Ext w w1) := Lib.hid (Below.trans (Ext_alloc HX.out) hB1)
          clear hd1 hm1 hB1
          go_wp2_with fail
          refine ⟨⟨k + 1, false, D.data x, ms1, by omega, by go_num, rfl, HD1, HX1, Lib.hid (HI.out.next HDR.out HT.out ?_ rfl ?_)⟩, by simp [intOf]; omega⟩
          · rw [HM1.out, HI.out.out]; rfl
          · rw [HM1.out]; exact HI.out.room.addD x
      case true =>
        have HJ : AllJ b k (ms.map Em.e) D := ⟨HI.out.out, HI.out.st, HI.out.go, HI.out.room⟩
        obtain ⟨y, rfl⟩ : ∃ y, y = x := ⟨_, rfl⟩
        have HDY := HDR
        have HI1 : Hid (AllJ b (k) (ms.map Em.e) D) := Lib.hid HJ
        by_cases h1 : y = 255
        · subst h1
          have ht : (D).take 255 = (D).data 255 := by rw [take1 HI1.out.st]; rfl
          have HT := Lib.hid ht
          clear ht
          go_wp2_with fail
          refine (add_any (b := w.heap.size) (HO.out.ext (Ext_alloc (o := .cells #[.int .u8 255] 5) (Ext_refl wr))) (by simp; omega) 255 (some ⟨wr.heap.size, 0, none⟩) 1 (Go.Proofs.YthkioahpnbahhaaW.PrintWords.own_weaken (World.ownsRow_lit wr #[.int .u8 255] 1 (Nat.le_refl _) (by decide) rfl) hsz) (by omega) HMB.out).mono ?_
          rintro e w1 ⟨v1, ms1, rfl, hd1, hm1, hB1⟩
          have HD1 := Lib.hid hd1
          have HM1 := Lib.hid hm1
          have HX1 : Hid (Ext w w1) := Lib.hid (Below.trans (Ext_alloc HX.out) hB1)
          clear hd1 hm1 hB1
          go_wp2_with fail
          refine ⟨⟨k + 1, false, (D).data 255, ms1, by omega, by go_num, rfl, HD1, HX1, Lib.hid (HI1.out.next HDY.out HT.out ?_ rfl ?_)⟩, by simp [intOf]; omega⟩
          · rw [HM1.out, HI1.out.out]; rfl
          · rw [HM1.out]; exact HI1.out.room.addD 255
        · have b1 : (y == 255) = false := by simpa using h1
          by_cases h2 : y = 239
          · subst h2
            clear b1
            have ht : (D).take 239 = (D).emit ⟨2, 0, 0, []⟩ := by rw [take1 HI1.out.st]; rfl
            have HT := Lib.hid ht
            clear ht
            go_wp2_with (at_builtin; refine list_append_at w.heap.size rfl (.tmp 57) (.tmp 59) 42 rfl 44 i0 _ 4 40 Try.underlying42 hi hz0 hz1 hz2 rfl (by decide) (.slice A4 ms.length c4) ms.length (ms.flatMap Em.enc) (by rfl) (own_alloc HO.out.out _) ⟨wr.heap.size, 0, none⟩ 1 1 (Em.mk ⟨2, 0, 0, []⟩ none 0).enc (by rfl) rfl (by exact World.news_of_block (heap_alloc_new wr (.cells (Em.mk ⟨2, 0, 0, []⟩ none 0).enc.toArray 44))) (by intro u hu; simp [Em.enc, Em.v] at hu; rcases hu with rfl | rfl | rfl | rfl <;> rfl) (by unfold maxLen; omega) (by omega) (by simp; omega) ?_; intro A6 c6 w6 hq hg; have HX6 : Hid (Ext w w6) := Lib.hid ((Ext_alloc HX.out).grown hg (Ext_alloc HX.out).size (fun g hg => (own_base HO.out.out g hg).1)); have HQ := Lib.hid ((HO.out.ext (Ext_alloc (o := .cells (Em.mk ⟨2, 0, 0, []⟩ none 0).enc.toArray 44) (Ext_refl wr))).add (Em.mk ⟨2, 0, 0, []⟩ none 0) (own_nil _ _ _ _) hq hg); clear hq hg)
            refine ⟨⟨k + 1, false, (D).emit ⟨2, 0, 0, []⟩, ms ++ [⟨⟨2, 0, 0, []⟩, none, 0⟩], by omega, by go_num, rfl, HQ, HX6, Lib.hid (HI1.out.next HDY.out HT.out ?_ rfl ?_)⟩, by simp [intOf]; omega⟩
            · rw [List.map_append, HI1.out.out]; rfl
            · rw [List.map_append]; exact HI1.out.room.snoc _ (by simp)
          · have b2 : (y == 239) = false := by simpa using h2
            by_cases h3 : 251 ≤ y
            · have b3 : decide (y ≥ 251) = true := by simpa using h3
              have hy4 : y ≤ 254 := by have := HBY.out y HYM.out; omega
              have ht : (D).take y = { (D) with at_ := 2, code := y } := by
                rw [take1 HI1.out.st]; unfold Dec.command; rw [if_neg h1, if_neg (by omega), if_pos ⟨h3, hy4⟩]
              have HT := Lib.hid ht
              clear ht h1 h2 h3 hy4
              by_cases h4 : k + 1 < b.length
              · obtain ⟨z, hz⟩ : ∃ z, b[k + 1]? = some z := ⟨_, List.getElem?_eq_getElem h4⟩
                have hcz := HC.out (k + 1) (.int .u8 z) (by rw [u8s_get, hz]; rfl)
                have hd2 := drop_cons hz
                have HD2 := Lib.hid hd2
                have hw2 : IntKind.i64.wrap (((k : Nat) : Int) + 1 + 1) = ((k + 2 : Nat) : Int) := IntWalk.i64_in _ (by omega)
                clear hd2 hz
                go_wp2_with (at_builtin; refine list_append_at w.heap.size rfl (.tmp 68) (.tmp 75) 42 rfl 44 i0 _ 4 40 Try.underlying42 hi hz0 hz1 hz2 rfl (by decide) (.slice A4 ms.length c4) ms.length (ms.flatMap Em.enc) (by rfl) (own_alloc HO.out.out _) ⟨wr.heap.size, 0, none⟩ 1 1 (Em.mk ⟨4, y, z, []⟩ none 0).enc (by rfl) rfl (by exact World.news_of_block (heap_alloc_new wr (.cells (Em.mk ⟨4, y, z, []⟩ none 0).enc.toArray 44))) (by intro u hu; simp [Em.enc, Em.v] at hu; rcases hu with rfl | rfl | rfl | rfl <;> rfl) (by unfold maxLen; omega) (by omega) (by simp; omega) ?_; intro A6 c6 w6 hq hg; have HX6 : Hid (Ext w w6) := Lib.hid ((Ext_alloc HX.out).grown hg (Ext_alloc HX.out).size (fun g hg => (own_base HO.out.out g hg).1)); have HQ := Lib.hid ((HO.out.ext (Ext_alloc (o := .cells (Em.mk ⟨4, y, z, []⟩ none 0).enc.toArray 44) (Ext_refl wr))).add (Em.mk ⟨4, y, z, []⟩ none 0) (own_nil _ _ _ _) hq hg); clear hq hg)
                refine ⟨⟨k + 1 + 1, false, ({ (D) with at_ := 2, code := y } : Dec).emit ⟨4, y, z, []⟩, ms ++ [⟨⟨4, y, z, []⟩, none, 0⟩], by omega, by go_num, rfl, HQ, HX6, Lib.hid ⟨?_, rfl, ?_, ?_, fun e => (by cases e)⟩⟩, by simp [intOf]; omega⟩
                · rw [List.map_append, HI1.out.out]; rfl
                · rw [← HI1.out.go, HDY.out, Dec.takes_cons, HT.out, HD2.out, Dec.takes_cons]; rfl
                · rw [List.map_append]; exact (HI1.out.room.snoc _ (by simp)).le (by omega)
              · have hend : Dec.zero.takes b = { (D) with at_ := 2, code := y } := by
                  rw [← HI1.out.go, HDY.out, List.drop_of_length_le (by omega), Dec.takes_cons, HT.out]; rfl
                have HEN := Lib.hid hend
                clear hend
                go_wp2_with fail
                refine bodyPost_ret (v := .tuple #[.slice A4 ms.length c4, .bool true]) (by simp [results, Try.results27, go_sem]) rfl ?_
                exact ⟨_, ms, by rw [HEN.out]; rfl, HO.out, by rw [HEN.out]; exact HI1.out.out, HX.out⟩
            · have b3 : decide (y ≥ 251) = false := by simpa using h3
              by_cases h5 : y = 250
              · subst h5
                have ht : (D).take 250 = { (D) with at_ := 3, sub := [], long := false } := by rw [take1 HI1.out.st]; rfl
                have HT := Lib.hid ht
                clear ht
                obtain ⟨r, hr, hS⟩ := sub_f b (by omega) (k + 1) { (D) with at_ := 3, sub := [], long := false } (by omega) rfl rfl rfl
                obtain ⟨r1, r2, r3, r4, r5⟩ := r
                have HS := Lib.hid hS
                clear hS
                go_wp2_with fail
                refine (PIacFeeds.greenscreenref05_sub.calls _ (some ⟨bb, o, none⟩) c b ((k + 1 : Nat) : Int) r1 r2 r3 r4 r5 wr (C_of_Rd (Rd_ext HX.out HR.out) (by omega)) hc hr).mono ?_
                rintro e w1 ⟨v3, rfl, hv3, hx3⟩
                have HX1 := Lib.hid (Ext_trans hx3 HX.out)
                have HO1 := Lib.hid (HO.out.ext hx3)
                obtain ⟨A3, c3, rfl⟩ := Go.Proofs.YthkioahpnbahhaaW.PrintWords.own_slice (own_of_R hv3)
                have HV3 := Lib.hid (own_of_R hv3)
                have hwz := hx3.size
                clear hv3 hx3 hr
                have hcs : (r5 = 0 ∧ (({ (D) with at_ := 3, sub := [], long := false } : Dec).takes (b.drop (k + 1))).at_ ≠ 0 ∧ (({ (D) with at_ := 3, sub := [], long := false } : Dec).takes (b.drop (k + 1))).out = (D).out) ∨ _ := HS.out
                rcases hcs with ⟨rfl, hq1, hq2⟩ | ⟨nxt, h5, h6, h7, h8, h9, E, h10, h11, h12⟩
                · have hend : Dec.zero.takes b = ({ (D) with at_ := 3, sub := [], long := false } : Dec).takes (b.drop (k + 1)) := by
                    rw [← HI1.out.go, HDY.out, Dec.takes_cons, HT.out]
                  have HEN := Lib.hid hend
                  have HQ1 := Lib.hid hq1
                  have HQ2 := Lib.hid hq2
                  clear hend hq1 hq2
                  go_wp2_with fail
                  refine bodyPost_ret (v := .tuple #[.slice A4 ms.length c4, .bool true]) (by simp [results, Try.results27, go_sem]) rfl ?_
                  exact ⟨_, ms, by rw [HEN.out, decide_eq_true HQ1.out], HO1.out.ext (Ext_alloc (Ext_refl w1)), by rw [HEN.out, HQ2.out]; exact HI1.out.out, Ext_alloc HX1.out⟩
                · dsimp only at h5 h6 h8 h9 h10 h11
                  subst h5
                  have hz0' : ((nxt : Int) == 0) = false := by simp; omega
                  have HE1 := Lib.hid h10
                  have HE2 := Lib.hid h11
                  have HE3 := Lib.hid h12
                  have HE4 := Lib.hid h8
                  have HE5 := Lib.hid h9
                  clear h10 h11 h12 h8 h9
                  go_wp2_with (at_builtin; go_must (refine list_append_at w.heap.size rfl (.tmp 90) (.tmp 92) 42 rfl 44 i0 _ 4 40 Try.underlying42 hi hz0 hz1 hz2 rfl (by decide) (.slice A4 ms.length c4) ms.length (ms.flatMap Em.enc) (by rfl) (HO1.out.ext (Ext_alloc (o := .cells (Em.mk ⟨r1, r2, r3, r4⟩ A3 c3).enc.toArray 44) (Ext_alloc (o := .cells (Em.mk ⟨r1, r2, r3, r4⟩ A3 c3).enc.toArray 44) (Ext_refl w1)))).out ⟨w1.heap.size + 1, 0, none⟩ 1 1 (Em.mk ⟨r1, r2, r3, r4⟩ A3 c3).enc (by rfl) rfl (by have hb := World.news_of_block (heap_alloc_new (w1.alloc (.cells (Em.mk ⟨r1, r2, r3, r4⟩ A3 c3).enc.toArray 44)) (.cells (Em.mk ⟨r1, r2, r3, r4⟩ A3 c3).enc.toArray 44)); rw [World.size_alloc] at hb; exact hb) (by intro u hu; simp [Em.enc, Em.v] at hu; rcases hu with rfl | rfl | rfl | rfl <;> rfl) (by unfold maxLen; omega) (by omega) (by simp; omega) ?_); intro A6 c6 w6 hq hg; have hk6 : w6.cell? ⟨w1.heap.size, 0, none⟩ = some (.int .i64 r1) := cell_grown hg (((World.cell?_alloc_lt _ _ ⟨w1.heap.size, 0, none⟩ (by rw [World.size_alloc]; exact Nat.lt_succ_self _))).trans (World.news_of_block (heap_alloc_new w1 (.cells (Em.mk ⟨r1, r2, r3, r4⟩ A3 c3).enc.toArray 44)) 0 (.int .i64 r1) rfl)) (fun e => absurd (World.ownsRow.lt HO1.out.out w1.heap.size e.symm).2 (Nat.lt_irrefl _)); have HX6 : Hid (Ext w w6) := Lib.hid ((Ext_trans (Ext_alloc (o := .cells (Em.mk ⟨r1, r2, r3, r4⟩ A3 c3).enc.toArray 44) (Ext_alloc (o := .cells (Em.mk ⟨r1, r2, r3, r4⟩ A3 c3).enc.toArray 44) (Ext_refl w1))) HX1.out).grown hg (Ext_trans (Ext_alloc (o := .cells (Em.mk ⟨r1, r2, r3, r4⟩ A3 c3).enc.toArray 44) (Ext_alloc (o := .cells (Em.mk ⟨r1, r2, r3, r4⟩ A3 c3).enc.toArray 44) (Ext_refl w1))) HX1.out).size (fun g hg => (own_base HO1.out.out g hg).1)); have HQ := Lib.hid ((HO1.out.ext (Ext_alloc (o := .cells (Em.mk ⟨r1, r2, r3, r4⟩ A3 c3).enc.toArray 44) (Ext_alloc (o := .cells (Em.mk ⟨r1, r2, r3, r4⟩ A3 c3).enc.toArray 44) (Ext_refl w1)))).add (Em.mk ⟨r1, r2, r3, r4⟩ A3 c3) (Go.Proofs.YthkioahpnbahhaaW.PrintWords.own_weaken (own_ext5 HV3.out (Ext_alloc (o := .cells (Em.mk ⟨r1, r2, r3, r4⟩ A3 c3).enc.toArray 44) (Ext_alloc (o := .cells (Em.mk ⟨r1, r2, r3, r4⟩ A3 c3).enc.toArray 44) (Ext_refl w1)))) hsz) hq hg); clear hq hg)
                  refine ⟨⟨nxt, r1 == 7, E, ms ++ [⟨⟨r1, r2, r3, r4⟩, A3, c3⟩], by omega, by go_num, rfl, HQ, HX6, Lib.hid ⟨?_, ?_, ?_, ?_, ?_⟩⟩, by simp [intOf]; omega⟩
                  · rw [List.map_append, HE1.out, HI1.out.out]; rfl
                  · rw [HE2.out]; by_cases hr7 : r1 = 7 <;> simp [hr7]
                  · rw [← HE3.out, ← HI1.out.go, HDY.out, Dec.takes_cons, HT.out]
                  · rw [List.map_append]; exact (HI1.out.room.snoc _ HE5.out).le (by omega)
                  · intro e; exact HE4.out (by simpa using e)
              · have b5 : (y == 250) = false := by simpa using h5
                have ht : (D).take y = (D).emit ⟨3, y, 0, []⟩ := by
                  rw [take1 HI1.out.st]; unfold Dec.command; rw [if_neg h1, if_neg h5, if_neg (by omega), if_neg h2]
                have HT := Lib.hid ht
                clear ht h1 h2 h3 h5
                go_wp2_with (at_builtin; refine list_append_at w.heap.size rfl (.tmp 98) (.tmp 101) 42 rfl 44 i0 _ 4 40 Try.underlying42 hi hz0 hz1 hz2 rfl (by decide) (.slice A4 ms.length c4) ms.length (ms.flatMap Em.enc) (by rfl) (own_alloc HO.out.out _) ⟨wr.heap.size, 0, none⟩ 1 1 (Em.mk ⟨3, y, 0, []⟩ none 0).enc (by rfl) rfl (by exact World.news_of_block (heap_alloc_new wr (.cells (Em.mk ⟨3, y, 0, []⟩ none 0).enc.toArray 44))) (by intro u hu; simp [Em.enc, Em.v] at hu; rcases hu with rfl | rfl | rfl | rfl <;> rfl) (by unfold maxLen; omega) (by omega) (by simp; omega) ?_; intro A6 c6 w6 hq hg; have HX6 : Hid (Ext w w6) := Lib.hid ((Ext_alloc HX.out).grown hg (Ext_alloc HX.out).size (fun g hg => (own_base HO.out.out g hg).1)); have HQ := Lib.hid ((HO.out.ext (Ext_alloc (o := .cells (Em.mk ⟨3, y, 0, []⟩ none 0).enc.toArray 44) (Ext_refl wr))).add (Em.mk ⟨3, y, 0, []⟩ none 0) (own_nil _ _ _ _) hq hg); clear hq hg)
                refine ⟨⟨k + 1, false, (D).emit ⟨3, y, 0, []⟩, ms ++ [⟨⟨3, y, 0, []⟩, none, 0⟩], by omega, by go_num, rfl, HQ, HX6, Lib.hid (HI1.out.next HDY.out HT.out ?_ rfl ?_)⟩, by simp [intOf]; omega⟩
                · rw [List.map_append, HI1.out.out]; rfl
                · rw [List.map_append]; exact HI1.out.room.snoc _ (by simp)
    · have : k = b.length := by omega
      subst this
      have hbh : bh = false := by
        cases bh
        · rfl
        · exact absurd (HI.out.lt rfl) (by omega)
      subst hbh
      have hgo := HI.out.go
      rw [List.drop_length] at hgo
      have hz : (Dec.zero.takes b) = D := hgo.symm
      have HZ := Lib.hid hz
      clear hgo hz
      go_wp2_with fail
      refine bodyPost_ret (v := .tuple #[.slice A4 ms.length c4, .bool false]) (by simp [results, Try.results27, go_sem]) rfl ?_
      exact ⟨_, ms, by rw [HZ.out, HI.out.st]; rfl, HO.out, by rw [HZ.out]; exact HI.out.out, HX.out⟩
end Go.Proofs.Ythkioahpnbahhaa
