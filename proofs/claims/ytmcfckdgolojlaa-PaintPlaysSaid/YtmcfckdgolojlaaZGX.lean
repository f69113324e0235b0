import Derived.Test.YtmcfckdgolojlaaZGQ
import Derived.Test.YtmcfckdgolojlaaZGS
import Derived.Test.YtmcfckdgolojlaaZGT
import Derived.Test.YtmcfckdgolojlaaZGU
import Derived.Test.YtmcfckdgolojlaaZGV
import Derived.Test.YtmcfckdgolojlaaZGW
import Derived.Test.YtmcfckdgolojlaaZGF
/- The document's do, whatever the order; what an order leaves is a plane again. -/
namespace Go.Proofs.Ytmcfckdgolojlaa
set_option linter.unusedVariables false
set_option linter.unusedSimpArgs false
open Go.RowKit

theorem has_ltX {p : Pl} {i : Int} (h : p.has i = true) : 0 ≤ i ∧ i < p.n := by simpa [Pl.has] using h
structure Br.Ok (b : Br) : Prop where
  p : b.p.Ok
  a0 : 0 ≤ b.at_
  a1 : b.at_ < b.p.n
theorem Br.Ok.lay {b : Br} (h : b.Ok) (x : Cel) (hx : 0 ≤ x.b ∧ x.b < 256) : (b.lay x).Ok :=
  ⟨ok_set h.p _ x hx, (mod_bd h.p.sz.n0).1, by show (b.at_ + 1) % b.p.n < (b.p.set b.at_ x).n; rw [set_n]; exact (mod_bd h.p.sz.n0).2⟩
theorem Br.Ok.data (l : List Int) : ∀ {b : Br}, b.Ok → (∀ x ∈ l, 0 ≤ x ∧ x < 256) → (b.data l).Ok := by
  induction l with
  | nil => exact fun h _ => h
  | cons y l ih => exact fun {b} h hl => ih (h.lay (b.char y false) (hl y (by simp))) (fun x hx => hl x (by simp [hx]))
theorem ok_cur {p : Pl} (h : p.Ok) (i : Int) : (p.point i).Ok := by
  unfold Pl.point
  split
  · rename_i hi
    obtain ⟨h0, h1⟩ := has_ltX hi
    exact ⟨h.sz, h0, h1, h.by_⟩
  · exact h
theorem point_nX (p : Pl) (i : Int) : (p.point i).n = p.n := by unfold Pl.point; split <;> rfl
theorem ok_rest : ∀ (k : Nat) {p : Pl} (a : Int), p.Ok → (p.restK a k).Ok
  | 0, _, _, h => h
  | k + 1, p, a, h => by
    unfold Pl.restK
    split
    · exact ok_rest k _ (ok_set h _ _ (by decide))
    · exact h
theorem restK_n (k : Nat) (p : Pl) (a : Int) : (p.restK a k).n = p.n := by unfold Pl.n; rw [restK_len]
theorem tabK_bd : ∀ (k : Nat) (p : Pl) (a : Int), 1 ≤ p.n → 0 ≤ p.tabK a k ∧ p.tabK a k < p.n
  | 0, p, a, h => ⟨by unfold Pl.tabK; omega, by unfold Pl.tabK; omega⟩
  | k + 1, p, a, h => by
    unfold Pl.tabK
    split
    · split
      · exact mod_bd h
      · exact tabK_bd k p _ h
    · exact ⟨by omega, by omega⟩
theorem ok_puts (x : Cel) (hx : 0 ≤ x.b ∧ x.b < 256) (l : List Int) : ∀ {p : Pl}, p.Ok → (p.puts l x).Ok := by
  induction l with
  | nil => exact fun h => h
  | cons i l ih => exact fun {p} h => ih (ok_set h i x hx)
theorem Br.Ok.do {b : Br} (h : b.Ok) (o : Ord) (hb : 0 ≤ o.b ∧ o.b < 256) (hp : ∀ x ∈ o.ps, 0 ≤ x.v ∧ x.v < 256) (hd : ∀ x ∈ o.da, 0 ≤ x ∧ x < 256) : (b.do o).1.Ok := by
  have hattr : 0 ≤ o.attr.b ∧ o.attr.b < 256 := by
    unfold Ord.attr
    split
    · show 0 ≤ Go.bits .and .u8 o.b 63 ∧ Go.bits .and .u8 o.b 63 < 256
      rw [and63u hb]
      omega
    · exact dress_bd _ _ (by decide) hp
  have key : ∀ r : Option (Br × Int), (∀ b' e, r = some (b', e) → b'.Ok) → ((match r with | none => (b, 31) | some (b', e) => (({ b' with laid := o.laid } : Br), e)).1).Ok := by
    intro r hr
    cases r with
    | none => exact h
    | some p =>
      obtain ⟨b', e⟩ := p
      have := hr b' e rfl
      exact ⟨this.p, this.a0, this.a1⟩
  refine key _ ?_
  refine act_elim b o (P := fun r => ∀ b' e, r = some (b', e) → b'.Ok) ?h0 ?h8 ?h17 ?h17n ?h29 ?h41 ?h40 ?h44 ?h44n ?h19 ?h5 ?h60 ?h60n ?h18 ?h18n ?hn
  case h0 => rintro _ b' e ⟨⟩; exact h.data _ hd
  case h8 => rintro _ b' e ⟨⟩; exact h.lay _ hb
  case h17 => rintro _ hc b' e ⟨⟩; exact ⟨h.p, hc.1, hc.2⟩
  case h17n => rintro _ _ b' e ⟨⟩; exact h
  case h29 => rintro _ b' e ⟨⟩; exact h.lay _ hattr
  case h41 => rintro _ b' e ⟨⟩; exact h.lay _ hattr
  case h40 => rintro _ b' e ⟨⟩; exact ⟨h.p, h.a0, h.a1⟩
  case h44 => rintro _ _ b' e ⟨⟩; exact h.lay _ (dress_bd _ _ (at_bdd h.p.by_ _) hp)
  case h44n => rintro _ _ b' e ⟨⟩; exact h
  case h19 => rintro _ b' e ⟨⟩; exact ⟨ok_cur h.p _, h.a0, by rw [point_nX]; exact h.a1⟩
  case h5 =>
    rintro _ b' e ⟨⟩
    have hr : b.rested.p.Ok := by
      unfold Br.rested
      split
      · exact ok_rest _ _ h.p
      · exact h.p
    exact ⟨hr, (tabK_bd _ _ _ hr.sz.n0).1, (tabK_bd _ _ _ hr.sz.n0).2⟩
  case h60 => rintro _ hc b' e ⟨⟩; exact ⟨ok_puts _ hb _ h.p, hc.1, by show o.a < (Pl.puts _ _ _).n; rw [puts_n]; exact hc.2⟩
  case h60n => rintro _ _ b' e ⟨⟩; exact h
  case h18 => rintro _ hc b' e ⟨⟩; exact ⟨ok_wipes _ h.p, hc.1, by show o.a < (Pl.wipes _ _).n; rw [wipes_n]; exact hc.2⟩
  case h18n => rintro _ _ b' e ⟨⟩; exact h
  case hn => intros; rename_i he; cases he
theorem dress_look (l : List Pr) : ∀ (c d : Cel), c.li = d.li → c.co = d.co → (c.dress l).li = (d.dress l).li ∧ (c.dress l).co = (d.dress l).co := by
  induction l with
  | nil => exact fun c d h1 h2 => ⟨h1, h2⟩
  | cons x l ih =>
    intro c d h1 h2
    refine ih (c.wear x) (d.wear x) ?_ ?_ <;> (unfold Cel.wear; (repeat' split) <;> first | exact h1 | exact h2 | rfl)
/-- what Do hands back: an order that was done, or one that was not -/
def DoQ (w0 : World) (c : Nat) (v : Value) (b : Br) (o : Ord) (w : World) (e : Ending) (w' : World) : Prop :=
  ((b.do o).2 = 0 ∧ Do5 w0 c (b.do o).1.p (b.do o).1.at_ (b.do o).1.look.li (b.do o).1.look.co (b.do o).1.laid 0 w e w') ∨
  ((b.do o).2 ≠ 0 ∧ Do5e w0 c v b.p b.at_ b.look.li b.look.co b.laid (b.do o).2 w e w')
theorem DoQ.yes {w0 : World} {c : Nat} {v : Value} {b B : Br} {o : Ord} {w : World} {e : Ending} {w' : World} (hd : b.do o = (B, 0)) (h : Do5 w0 c B.p B.at_ B.look.li B.look.co B.laid 0 w e w') : DoQ w0 c v b o w e w' := by
  unfold DoQ
  rw [hd]
  exact .inl ⟨rfl, h⟩
theorem DoQ.no {w0 : World} {c : Nat} {v : Value} {b B : Br} {o : Ord} {w : World} {e : Ending} {w' : World} {k : Int} (hk : k ≠ 0) (hd : b.do o = (B, k)) (h : Do5e w0 c v b.p b.at_ b.look.li b.look.co b.laid k w e w') : DoQ w0 c v b o w e w' := by
  unfold DoQ
  rw [hd]
  exact .inr ⟨hk, h⟩
set_option maxRecDepth 100000 in
theorem rDo_any {w0 w : World} {c : Nat} {v : Value} (b : Br) (x : OrdV) (hP : x.o.ps.length ≤ 1000) (hA : x.o.ps.length ≤ x.cA) (hb : b.Ok) (hc : c < w.heap.size) (h : DP w0 w c v b.p) (ho : OrAt [] w0 x.A x.B x.o) :
    Calls Try.prog 79 #[stV b.p v b.at_ b.look.li b.look.co b.laid, .agg #[.int .u8 x.o.k, .int .i64 x.o.a, .int .u8 x.o.b, .bool x.o.ge, .slice x.A x.o.ps.length x.cA, .slice x.B x.o.da.length x.cB]] w (DoQ w0 c v b x.o w) := by
  have hok := hb.p
  have a0 := hb.a0
  have a1 := hb.a1
  by_cases hk : x.o.k = 0
  · have e : b.do x.o = ({ b.data x.o.da with laid := decide (0 < x.o.da.length) }, 0) := by unfold Br.do Br.act Ord.laid; simp [hk]
    have hl := data_look x.o.da b
    refine (rDo_data b.p b.at_ b.look.li b.look.co b.laid x hk b.look rfl rfl _ rfl (b.data x.o.da) rfl hok hc h ho a0 a1).mono (fun e1 w1 h1 => .yes e ?_)
    show Do5 w0 c (b.data x.o.da).p (b.data x.o.da).at_ (b.data x.o.da).look.li (b.data x.o.da).look.co _ 0 w e1 w1
    rw [hl]
    exact h1
  have h0 := hk
  clear hk
  by_cases hk : x.o.k = 8
  · have e : b.do x.o = ({ b.lay (b.char x.o.b true) with laid := true }, 0) := by unfold Br.do Br.act Ord.laid; simp [hk]
    exact (rDo_special b.p b.at_ b.look.li b.look.co b.laid x hk hok hc h ho a0 a1).mono (fun e1 w1 h1 => .yes e h1)
  have h8 := hk
  clear hk
  by_cases hk : x.o.k = 17
  · by_cases hh : 0 ≤ x.o.a ∧ x.o.a < b.p.n
    · have e : b.do x.o = ({ { b with at_ := x.o.a } with laid := false }, 0) := by unfold Br.do Br.act Ord.laid; simp [hk, hh]
      exact (rDo_jump_yes b.p b.at_ b.look.li b.look.co b.laid x hk hh hok hc h ho a0 a1).mono (fun e1 w1 h1 => .yes e h1)
    · have e : b.do x.o = ({ b with laid := false }, 32) := by unfold Br.do Br.act Ord.laid; simp [hk, hh]
      exact (rDo_jump_no b.p b.at_ b.look.li b.look.co b.laid x hk hh hok hc h ho a0 a1).mono (fun e1 w1 h1 => .no (by decide) e h1)
  have h17 := hk
  clear hk
  by_cases hk : x.o.k = 29
  · have ea : x.o.attr = ⟨x.o.b % 64, false, true, 0, 0⟩ := by unfold Ord.attr; rw [if_pos hk, and63u ho.bb]
    have e : b.do x.o = ({ b.lay x.o.attr with laid := false }, 0) := by unfold Br.do Br.act Ord.laid; simp [hk]
    rw [ea] at e
    exact (rDo_sf b.p b.at_ b.look.li b.look.co b.laid x hk hok hc h ho a0 a1).mono (fun e1 w1 h1 => .yes e h1)
  have h29 := hk
  clear hk
  by_cases hk : x.o.k = 41
  · have ea : x.o.attr = (Cel.mk 0 false true 0 0).dress x.o.ps := by unfold Ord.attr; rw [if_neg h29]
    have e : b.do x.o = ({ b.lay x.o.attr with laid := false }, 0) := by unfold Br.do Br.act Ord.laid; simp [hk]
    rw [ea] at e
    exact (rDo_sfe b.p b.at_ b.look.li b.look.co b.laid x hk hP hA hok hc h ho a0 a1).mono (fun e1 w1 h1 => .yes e h1)
  have h41 := hk
  clear hk
  by_cases hk : x.o.k = 40
  · have e : b.do x.o = ({ { b with look := b.look.dress x.o.ps } with laid := false }, 0) := by unfold Br.do Br.act Ord.laid; simp [hk]
    obtain ⟨l1, l2⟩ := dress_look x.o.ps (Cel.mk 0 false false b.look.li b.look.co) b.look rfl rfl
    refine (rDo_dress b.p b.at_ b.look.li b.look.co b.laid x hk _ rfl hP hA hok hc h ho a0 a1).mono (fun e1 w1 h1 => .yes e ?_)
    rw [l1, l2] at h1
    exact h1
  have h40 := hk
  clear hk
  by_cases hk : x.o.k = 44
  · by_cases hs : (b.p.at b.at_).st = true
    · have e : b.do x.o = ({ b.lay ((b.p.at b.at_).dress x.o.ps) with laid := false }, 0) := by unfold Br.do Br.act Ord.laid; simp [hk, hs]
      exact (rDo_modify_yes b.p b.at_ b.look.li b.look.co b.laid x hk hs _ rfl hP hA hok hc h ho a0 a1).mono (fun e1 w1 h1 => .yes e h1)
    · have e : b.do x.o = ({ b with laid := false }, 31) := by unfold Br.do Br.act Ord.laid; simp [hk, hs]
      exact (rDo_modify_no b.p b.at_ b.look.li b.look.co b.laid x hk (by simpa using hs) hok hc h ho a0 a1).mono (fun e1 w1 h1 => .no (by decide) e h1)
  have h44 := hk
  clear hk
  by_cases hk : x.o.k = 19
  · have e : b.do x.o = ({ { b with p := b.p.point b.at_ } with laid := false }, 0) := by unfold Br.do Br.act Ord.laid; simp [hk]
    have ep : b.p.point b.at_ = { b.p with cur := b.at_ } := by unfold Pl.point; rw [if_pos (by unfold Pl.has; exact decide_eq_true ⟨a0, a1⟩)]
    rw [ep] at e
    exact (rDo_cursor b.p b.at_ b.look.li b.look.co b.laid x hk hok hc h ho a0 a1).mono (fun e1 w1 h1 => .yes e h1)
  have h19 := hk
  clear hk
  by_cases hk : x.o.k = 5
  · have e : b.do x.o = ({ b.tab with laid := false }, 0) := by unfold Br.do Br.act Ord.laid; simp [hk]
    have e1 : b.tab.p = b.p.tabP b.at_ b.laid := by
      unfold Br.tab Br.rested Pl.tabP
      cases b.laid <;> rfl
    have e2 : b.tab.at_ = (b.p.tabP b.at_ b.laid).tabK b.at_ (b.p.n - b.at_).toNat := by
      unfold Br.tab Br.rested Pl.tabP
      cases b.laid
      · rfl
      · simp only [if_true]
        rw [restK_n]
    have e3 : b.tab.look = b.look := by
      unfold Br.tab Br.rested
      cases b.laid <;> rfl
    refine (rDo_tab b.p b.at_ b.look.li b.look.co b.laid x hk hok hc h ho a0 a1).mono (fun e4 w1 h1 => .yes e ?_)
    show Do5 w0 c b.tab.p b.tab.at_ b.tab.look.li b.tab.look.co false 0 w e4 w1
    rw [e1, e2, e3]
    exact h1
  have h5 := hk
  clear hk
  by_cases hk : x.o.k = 60
  · by_cases hh : 0 ≤ x.o.a ∧ x.o.a < b.p.n
    · have e : b.do x.o = ({ b.fill x.o with laid := false }, 0) := by unfold Br.do Br.act Ord.laid; simp [hk, hh]
      exact (rDo_repeat_yes b.p b.at_ b.look.li b.look.co b.laid x hk hh hok hc h ho a0 a1).mono (fun e1 w1 h1 => .yes e h1)
    · have e : b.do x.o = ({ b with laid := false }, 32) := by unfold Br.do Br.act Ord.laid; simp [hk, hh]
      exact (rDo_repeat_no b.p b.at_ b.look.li b.look.co b.laid x hk hh hok hc h ho a0 a1).mono (fun e1 w1 h1 => .no (by decide) e h1)
  have h60 := hk
  clear hk
  by_cases hk : x.o.k = 18
  · by_cases hh : 0 ≤ x.o.a ∧ x.o.a < b.p.n
    · have e : b.do x.o = ({ b.wipe x.o with laid := false }, 0) := by unfold Br.do Br.act Ord.laid; simp [hk, hh]
      exact (rDo_wipe_yes b.p b.at_ b.look.li b.look.co b.laid x hk hh hok hc h ho a0 a1).mono (fun e1 w1 h1 => .yes e h1)
    · have e : b.do x.o = ({ b with laid := false }, 32) := by unfold Br.do Br.act Ord.laid; simp [hk, hh]
      exact (rDo_wipe_no b.p b.at_ b.look.li b.look.co b.laid x hk hh hok hc h ho a0 a1).mono (fun e1 w1 h1 => .no (by decide) e h1)
  have e : b.do x.o = (b, 31) := by unfold Br.do Br.act; simp [h0, h8, h17, h29, h41, h40, h44, h19, h5, h60, hk]
  exact (rDo_none b.p b.at_ b.look.li b.look.co b.laid x rfl h0 h8 h17 h29 h41 h40 h44 h19 h5 h60 hk hok hc h ho a0 a1).mono (fun e1 w1 h1 => .no (by decide) e h1)
end Go.Proofs.Ytmcfckdgolojlaa
