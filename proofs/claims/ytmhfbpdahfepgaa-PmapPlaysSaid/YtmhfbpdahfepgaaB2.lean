/-
  Package pmap's opened, high, leave; Package pmap's trees: heights, order, and handles of what put, least, del make. Plain lemmas; Package pmap's fromLeft
-/
import Derived.Test.YtmhfbpdahfepgaaB1
import Derived.Deep.AppendLies
/- Package pmap's opened, high, leave. -/
namespace Go.Proofs.Ytmhfbpdahfepgaa.Pm
open Go.RowKit Go.Proofs.YtmhfbpdahfepgaaW.PrintWords
attribute [local go_sem high] eqHd

theorem opened_calls (w0 W : World) (m aa : Nat) (f sv fv : Value) (a : Ar N2) (eb b : Nat) (g : List Hd) (h : Hd) (k v : Int) (l r : T2) (hi : Int) (HM : MapAt w0 m aa f sv fv a) (HS : St w0 W eb m g) (hd : Den w0.heap.size W a (some b) (.node h k v l r hi)) :
    Calls Try.prog 42 #[.pointer (some ⟨eb, 0, none⟩), .pointer (some ⟨b, 0, none⟩)] W fun e w' => e = .returned (.pointer (some ⟨b, 0, none⟩)) ∧ OpenAt w0.heap.size w' a b h k v l r hi ∧ Ext w0.heap.size a W w' ∧ St w0 w' eb m g := by
  obtain ⟨b', e, h0, H⟩ := hd
  cases e
  rcases H with ⟨h1, h2⟩ | ⟨pl, pr, h1, h2, h3⟩
  · exact opened_closed w0 W m aa f sv fv a eb b g h k v l r hi HM HS h1 h2 h0
  · refine (opened_open W eb b h k v pl pr hi h1).mono ?_
    rintro e w' ⟨he, rfl⟩
    exact ⟨he, ⟨h0, pl, pr, h1, h2, h3⟩, Ext.refl _ _ _, HS⟩
theorem high_nil (W : World) (eb : Nat) : Calls Try.prog 48 #[.pointer (some ⟨eb, 0, none⟩), .pointer none] W fun e w' => e = .returned (.int .i64 0) ∧ W = w' := by
  go_enter Try.func48, Try.ntmps48
  go_wp2
  go_ret
  exact ⟨rfl, rfl⟩
set_option maxHeartbeats 1000000 in
theorem high_node (w0 W : World) (m aa : Nat) (f sv fv : Value) (a : Ar N2) (eb b : Nat) (g : List Hd) (h : Hd) (k v : Int) (l r : T2) (hi : Int) (HM : MapAt w0 m aa f sv fv a) (HS : St w0 W eb m g) (hd : Den w0.heap.size W a (some b) (.node h k v l r hi)) :
    Calls Try.prog 48 #[.pointer (some ⟨eb, 0, none⟩), .pointer (some ⟨b, 0, none⟩)] W fun e w' => e = .returned (.int .i64 hi) ∧ OpenAt w0.heap.size w' a b h k v l r hi ∧ Ext w0.heap.size a W w' ∧ St w0 w' eb m g := by
  have HO := Lib.hid (opened_calls w0 W m aa f sv fv a eb b g h k v l r hi HM HS hd)
  clear HM HS hd
  go_enter Try.func48, Try.ntmps48
  go_wp2_with (first
    | (go_at_call 42; (refine Calls.mono HO.out ?_); rintro e w1 ⟨rfl, ho, hx, hs⟩; have ho2 := ho; obtain ⟨_, pl, pr, hb, _⟩ := ho2; have c7 : w1.cell? ⟨b, 7, none⟩ = some (.int .i64 hi) := blk_cell hb 7; have HOA := Lib.hid ho; have HX := Lib.hid hx; have HSS := Lib.hid hs; clear ho hx hs hb)
    | (fail "no arm"))
  go_ret
  exact ⟨rfl, HOA.out, HX.out, HSS.out⟩
theorem high_calls (w0 W : World) (m aa : Nat) (f sv fv : Value) (a : Ar N2) (eb : Nat) (p : Option Nat) (t : T2) (g : List Hd) (HM : MapAt w0 m aa f sv fv a) (HS : St w0 W eb m g) (hd : Den w0.heap.size W a p t) :
    Calls Try.prog 48 #[.pointer (some ⟨eb, 0, none⟩), ptrV p] W fun e w' => e = .returned (.int .i64 t.hi) ∧ Ext w0.heap.size a W w' ∧ St w0 w' eb m g := by
  cases t with
  | leaf =>
    cases hd
    refine (high_nil W eb).mono ?_
    rintro e w' ⟨he, rfl⟩
    exact ⟨he, Ext.refl _ _ _, HS⟩
  | node h k v l r hi =>
    obtain ⟨b, rfl, H⟩ := hd
    exact (high_node w0 W m aa f sv fv a eb b g h k v l r hi HM HS ⟨b, rfl, H⟩).mono fun _ _ ⟨he, _, hx, hs⟩ => ⟨he, hx, hs⟩

theorem hdInfo : (Try.prog.info? 28).map (fun i => (i.zero, i.size, i.bytes)) = some (some (.agg #[.int .i64 0, .int .i64 0]), 2, 16) := by kernel_rfl
set_option maxHeartbeats 2000000 in
theorem leave_calls (w0 W : World) (m : Nat) (a : Ar N2) (eb b : Nat) (g : List Hd) (h : Hd) (cs : Array Value) (HS : St w0 W eb m g) (hb : W.heap[b]? = some (.cells cs 89 (0, 0))) (h0 : cs[0]? = some (.int .i64 h.s)) (h1 : cs[1]? = some (.int .i64 h.g)) (hg : g.length ≤ 1000000) :
    Calls Try.prog 44 #[.pointer (some ⟨eb, 0, none⟩), .pointer (some ⟨b, 0, none⟩)] W fun e w' => e = .returned (.tuple #[]) ∧ Ext w0.heap.size a W w' ∧ St w0 w' eb m (g ++ gh h) := by
  have c0 : W.cell? ⟨b, 0, none⟩ = some (.int .i64 h.s) := (blk_cell hb 0).trans h0
  have c1 : W.cell? ⟨b, 1, none⟩ = some (.int .i64 h.g) := (blk_cell hb 1).trans h1
  have HSS := Lib.hid HS
  unfold gh
  by_cases hz : h = H0
  · rw [if_pos hz, List.append_nil]
    rw [hz] at c0 c1
    simp only [H0] at c0 c1
    clear hz HS hb h0 h1
    go_enter Try.func44, Try.ntmps44
    go_wp2
    go_end0
    exact ⟨rfl, Ext.refl _ _ _, HSS.out⟩
  · rw [if_neg hz]
    have hne : ((h.s == 0) && (h.g == 0)) = false := by
      obtain ⟨s, g⟩ := h
      rw [Bool.eq_false_iff]
      intro e
      simp only [Bool.and_eq_true, beq_iff_eq] at e
      exact hz (by rw [e.1, e.2]; rfl)
    obtain ⟨gv, he, ho⟩ := HS.ed
    have e1 : W.cell? ⟨eb, 1, none⟩ = some gv := blk_cell he 1
    have HE := Lib.hid he
    have HO := Lib.hid ho
    have hlte := blk_lt he
    have HBB := Lib.hid HS.bel
    have hge := HS.ge
    have hne2 := OwnRow.ne_block ho he (by decide)
    clear hz HS hb h0 h1 he ho
    go_enter Try.func44, Try.ntmps44
    go_wp2
    go_region_law ((refine OwnRow.append_step (R := fun h cs => cs = hdC h) (w0 := w0) (W := W.drew) w0.heap.size rfl (.tmp 18) (.tmp 23) 32 28 _ 2 16 rfl Try.underlying32 hdInfo rfl (by decide) (by decide) _ g h [.int .i64 h.s, .int .i64 h.g] (by rfl) (by simp [Act.eval]) rfl rfl (by simp [Value.oneCell']) HO.out (below_drew1 HBB.out) HBB.out.size ?hl ?_; (case hl => omega); intro v8 w8 ho hb hg hat; obtain ⟨A8, c8, rfl, _⟩ := OwnRow.slice_ ho; have HO8 := Lib.hid ho; have HB8 := Lib.hid hb; have HG8 := Lib.hid hg; have HE8 := Lib.hid (show w8.heap[eb]? = _ from (hg.block eb (by simpa using hlte) hne2).trans HE.out); have z1 := blk_frozen HE8.out 1; have k1 := blk_cell HE8.out 1; simp at k1; clear ho hb hg hat))
    all_goals
      go_wp2
      go_end0
      have hx : Ext w0.heap.size a W (w8.setCell ⟨eb, 1, none⟩ (.slice A8 (g.length + 1) c8)) := Ext.keep fun b' cs hc =>
        (Below.heap_setCell w8 ⟨eb, 1, none⟩ _ b' (typed_ne hc HE.out (by decide))).trans ((HG8.out.block b' (by simpa using blk_lt hc) (OwnRow.ne_block HO.out hc (by decide))).trans hc)
      exact ⟨rfl, hx, HB8.out.setCell (p := ⟨eb, 1, none⟩) hge _, hge, _, blk_put HE8.out 1 _ rfl, OwnRow.set_ (by simpa using HO8.out) HE8.out (by decide) 1 _⟩
set_option maxHeartbeats 4000000 in
theorem node_calls (w0 W : World) (m aa : Nat) (f sv fv : Value) (a : Ar N2) (eb b : Nat) (pl pr : Option Nat) (g : List Hd) (h : Hd) (k v : Int) (l0 r0 l r : T2) (hi : Int) (HM : MapAt w0 m aa f sv fv a) (HS : St w0 W eb m g) (ho : OpenAt w0.heap.size W a b h k v l0 r0 hi) (hl : Den w0.heap.size W a pl l) (hr : Den w0.heap.size W a pr r) (hg : g.length ≤ 1000000) (hh : 0 ≤ l.hi ∧ l.hi ≤ 1000000 ∧ 0 ≤ r.hi ∧ r.hi ≤ 1000000) :
    Calls Try.prog 51 #[.pointer (some ⟨eb, 0, none⟩), .pointer (some ⟨b, 0, none⟩), ptrV pl, ptrV pr] W fun e w' => (∃ b', e = .returned (.pointer (some ⟨b', 0, none⟩)) ∧ OpenAt w0.heap.size w' a b' H0 k v l r (1 + mx l.hi r.hi)) ∧ Ext w0.heap.size a W w' ∧ St w0 w' eb m (g ++ gh h) := by
  obtain ⟨hB, ql, qr, hb, _, _⟩ := ho
  have HLV := Lib.hid (leave_calls w0 W m a eb b g h _ HS hb rfl rfl hg)
  have HB0 := Lib.hid hb
  have HL := Lib.hid hl
  have HR := Lib.hid hr
  have HH := Lib.hid (fun (V : World) (g : List Hd) (p : Option Nat) (t : T2) (hs : St w0 V eb m g) (hd : Den w0.heap.size V a p t) => high_calls w0 V m aa f sv fv a eb p t g HM hs hd)
  have hbel := HS.bel.size
  clear hb hl hr HM HS
  simp only [ptrV] at HH ⊢
  by_cases hlr : l.hi < r.hi
  · have hsum : IntKind.i64.wrap (1 + r.hi) = 1 + r.hi := by rw [IntKind.wrap_i64]; omega
    rw [show mx l.hi r.hi = r.hi from if_pos hlr]
    go_enter Try.func51, Try.ntmps51
    go_wp2_with (first
      | (go_at_call 44; (refine Calls.mono HLV.out ?_); rintro e w1 ⟨rfl, hx, hs⟩; have hb1 := hx.opn _ _ _ _ _ _ _ HB0.out; have c3 : w1.cell? ⟨b, 3, none⟩ = some (.int .i64 k) := blk_cell hb1 3; have c4 : w1.cell? ⟨b, 4, none⟩ = some (.int .i64 v) := blk_cell hb1 4; have HB1 := Lib.hid hb1; have HX1 := Lib.hid hx; have HS1 := Lib.hid hs; have HL1 := Lib.hid (hx.den _ _ HL.out); have HR1 := Lib.hid (hx.den _ _ HR.out); clear hb1 hx hs)
      | (fail "no arm"))
    go_region_held3 (fun V => V.cell? ⟨b, 3, none⟩ = some (.int .i64 k) ∧ V.cell? ⟨b, 4, none⟩ = some (.int .i64 v)) (first | exact ⟨c3, c4⟩ | exact ⟨d3, d4⟩ | exact ⟨d3', d4'⟩ | exact ⟨pw_cell_below (below_alloc (Below.refl _ _) _) d3', pw_cell_below (below_alloc (Below.refl _ _) _) d4'⟩) (first
      | (go_at_call 48; ((with_reducible refine Calls.mono (HH.out _ _ _ _ (HS1.out.below (below_drew1 (Below.refl _ _))) ((Ext.below (below_drew1 (Below.refl _ _))).den _ _ HL1.out)) ?_); rintro e w2 ⟨rfl, hx, hs⟩; have hb2 := hx.opn _ _ _ _ _ _ _ HB1.out; have d3 : w2.cell? ⟨b, 3, none⟩ = some (.int .i64 k) := blk_cell hb2 3; have d4 : w2.cell? ⟨b, 4, none⟩ = some (.int .i64 v) := blk_cell hb2 4; have HB2 := Lib.hid hb2; have HX2 := Lib.hid (HX1.out.trans ((Ext.below (below_drew1 (Below.refl _ _))).trans hx)); have HS2 := Lib.hid hs; have HL2 := Lib.hid (hx.den _ _ ((Ext.below (below_drew1 (Below.refl _ _))).den _ _ HL1.out)); have HR2 := Lib.hid (hx.den _ _ ((Ext.below (below_drew1 (Below.refl _ _))).den _ _ HR1.out)); clear hb2 hx hs))
      | (go_at_call 48; go_loud ((with_reducible refine Calls.mono (HH.out _ _ _ _ HS2.out HR2.out) ?_); rintro e w3 ⟨rfl, hx, hs⟩; have hb3 := hx.opn _ _ _ _ _ _ _ HB2.out; have d3' : w3.cell? ⟨b, 3, none⟩ = some (.int .i64 k) := blk_cell hb3 3; have d4' : w3.cell? ⟨b, 4, none⟩ = some (.int .i64 v) := blk_cell hb3 4; have HX3 := Lib.hid (HX2.out.trans hx); have HS3 := Lib.hid hs; have HL3 := Lib.hid (hx.den _ _ HL2.out); have HR3 := Lib.hid (hx.den _ _ HR2.out); clear hb3 hx hs))
      | (fail "no arm"))
    go_wp2
    all_goals
      go_ret
      exact ⟨⟨_, rfl, HS3.out.bel.size, pl, pr, blk_new _ _, (Ext.below (below_alloc (Below.refl _ _) _)).den _ _ HL3.out, (Ext.below (below_alloc (Below.refl _ _) _)).den _ _ HR3.out⟩, HX3.out.trans (Ext.below (below_alloc (Below.refl _ _) _)), HS3.out.below (below_alloc (Below.refl _ _) _)⟩
  · have hsum : IntKind.i64.wrap (1 + l.hi) = 1 + l.hi := by rw [IntKind.wrap_i64]; omega
    rw [show mx l.hi r.hi = l.hi from if_neg hlr]
    go_enter Try.func51, Try.ntmps51
    go_wp2_with (first
      | (go_at_call 44; (refine Calls.mono HLV.out ?_); rintro e w1 ⟨rfl, hx, hs⟩; have hb1 := hx.opn _ _ _ _ _ _ _ HB0.out; have c3 : w1.cell? ⟨b, 3, none⟩ = some (.int .i64 k) := blk_cell hb1 3; have c4 : w1.cell? ⟨b, 4, none⟩ = some (.int .i64 v) := blk_cell hb1 4; have HB1 := Lib.hid hb1; have HX1 := Lib.hid hx; have HS1 := Lib.hid hs; have HL1 := Lib.hid (hx.den _ _ HL.out); have HR1 := Lib.hid (hx.den _ _ HR.out); clear hb1 hx hs)
      | (fail "no arm"))
    go_region_held3 (fun V => V.cell? ⟨b, 3, none⟩ = some (.int .i64 k) ∧ V.cell? ⟨b, 4, none⟩ = some (.int .i64 v)) (first | exact ⟨c3, c4⟩ | exact ⟨d3, d4⟩ | exact ⟨d3', d4'⟩ | exact ⟨pw_cell_below (below_alloc (Below.refl _ _) _) d3', pw_cell_below (below_alloc (Below.refl _ _) _) d4'⟩) (first
      | (go_at_call 48; ((with_reducible refine Calls.mono (HH.out _ _ _ _ (HS1.out.below (below_drew1 (Below.refl _ _))) ((Ext.below (below_drew1 (Below.refl _ _))).den _ _ HL1.out)) ?_); rintro e w2 ⟨rfl, hx, hs⟩; have hb2 := hx.opn _ _ _ _ _ _ _ HB1.out; have d3 : w2.cell? ⟨b, 3, none⟩ = some (.int .i64 k) := blk_cell hb2 3; have d4 : w2.cell? ⟨b, 4, none⟩ = some (.int .i64 v) := blk_cell hb2 4; have HB2 := Lib.hid hb2; have HX2 := Lib.hid (HX1.out.trans ((Ext.below (below_drew1 (Below.refl _ _))).trans hx)); have HS2 := Lib.hid hs; have HL2 := Lib.hid (hx.den _ _ ((Ext.below (below_drew1 (Below.refl _ _))).den _ _ HL1.out)); have HR2 := Lib.hid (hx.den _ _ ((Ext.below (below_drew1 (Below.refl _ _))).den _ _ HR1.out)); clear hb2 hx hs))
      | (go_at_call 48; go_loud ((with_reducible refine Calls.mono (HH.out _ _ _ _ HS2.out HR2.out) ?_); rintro e w3 ⟨rfl, hx, hs⟩; have hb3 := hx.opn _ _ _ _ _ _ _ HB2.out; have d3' : w3.cell? ⟨b, 3, none⟩ = some (.int .i64 k) := blk_cell hb3 3; have d4' : w3.cell? ⟨b, 4, none⟩ = some (.int .i64 v) := blk_cell hb3 4; have HX3 := Lib.hid (HX2.out.trans hx); have HS3 := Lib.hid hs; have HL3 := Lib.hid (hx.den _ _ HL2.out); have HR3 := Lib.hid (hx.den _ _ HR2.out); clear hb3 hx hs))
      | (fail "no arm"))
    go_wp2
    all_goals
      go_ret
      exact ⟨⟨_, rfl, HS3.out.bel.size, pl, pr, blk_new _ _, (Ext.below (below_alloc (Below.refl _ _) _)).den _ _ HL3.out, (Ext.below (below_alloc (Below.refl _ _) _)).den _ _ HR3.out⟩, HX3.out.trans (Ext.below (below_alloc (Below.refl _ _) _)), HS3.out.below (below_alloc (Below.refl _ _) _)⟩
end Go.Proofs.Ytmhfbpdahfepgaa.Pm
/- Package pmap's trees: heights, order, and handles of what put, least, del make. Plain lemmas. -/
namespace Go.Proofs.Ytmhfbpdahfepgaa.Pm
variable {K V : Type}

def Avl : T K V → Prop
  | .leaf => True
  | .node _ _ _ l r hi => hi = 1 + mx l.hi r.hi ∧ l.hi - r.hi ≤ 1 ∧ r.hi - l.hi ≤ 1 ∧ Avl l ∧ Avl r
theorem mx_le (a b : Int) : a ≤ mx a b ∧ b ≤ mx a b ∧ (mx a b = a ∨ mx a b = b) := by unfold mx; split <;> omega
theorem Avl.nonneg : ∀ {t : T K V}, Avl t → 0 ≤ t.hi
  | .leaf, _ => Int.le_refl 0
  | .node _ _ _ l r hi, h => by
    have h1 := Avl.nonneg h.2.2.2.1
    have h2 := Avl.nonneg h.2.2.2.2
    have := mx_le l.hi r.hi
    show 0 ≤ hi
    rw [h.1]; omega
theorem Avl.pos {h : Hd} {k : K} {v : V} {l r : T K V} {hi : Int} (a : Avl (.node h k v l r hi)) : 1 ≤ hi := by
  have h1 := Avl.nonneg a.2.2.2.1
  have := mx_le l.hi r.hi
  rw [a.1]; omega
theorem avl_mk {k : K} {v : V} {l r : T K V} (hl : Avl l) (hr : Avl r) (h1 : l.hi - r.hi ≤ 1) (h2 : r.hi - l.hi ≤ 1) : Avl (mk k v l r) := ⟨rfl, h1, h2, hl, hr⟩
/-- What is balanced stands, if its sides are at most two apart. -/
theorem bal_avl {oh : Hd} {ok : K} {ov : V} {l r : T K V} (hl : Avl l) (hr : Avl r) (h1 : l.hi - r.hi ≤ 2) (h2 : r.hi - l.hi ≤ 2) :
    Avl (bal oh ok ov l r).1 ∧ ((bal oh ok ov l r).1.hi = 1 + mx l.hi r.hi ∨ (bal oh ok ov l r).1.hi = mx l.hi r.hi ∧ (l.hi - r.hi = 2 ∨ r.hi - l.hi = 2)) := by
  have hl0 := hl.nonneg
  have hr0 := hr.nonneg
  unfold bal
  by_cases hd : 1 < l.hi - r.hi
  · rw [if_pos hd]
    cases l with
    | leaf => exact absurd (show (0 : Int) - r.hi ≤ 0 by omega) (by have : (1 : Int) < 0 - r.hi := hd; omega)
    | node lh lk lv ll lr lhi =>
      obtain ⟨e, a1, a2, al, ar⟩ := hl
      have hd' : (1 : Int) < lhi - r.hi := hd
      have h1' : lhi - r.hi ≤ 2 := h1
      have ell := al.nonneg
      have elr := ar.nonneg
      have m1 := mx_le ll.hi lr.hi
      have em : mx (T.node lh lk lv ll lr lhi).hi r.hi = lhi := by
        show mx lhi r.hi = lhi
        have := mx_le lhi r.hi; omega
      rw [em]
      unfold fromL
      by_cases hc : lr.hi ≤ ll.hi
      · simp only [hc, if_true]
        have e2 : ll.hi = r.hi + 1 := by omega
        have m2 := mx_le lr.hi r.hi
        have hk : (mk ok ov lr r).hi = 1 + mx lr.hi r.hi := rfl
        refine ⟨avl_mk al (avl_mk ar hr (by omega) (by omega)) (by rw [hk]; omega) (by rw [hk]; omega), ?_⟩
        show 1 + mx ll.hi (1 + mx lr.hi r.hi) = _ ∨ 1 + mx ll.hi (1 + mx lr.hi r.hi) = _ ∧ ((lhi : Int) - r.hi = 2 ∨ r.hi - lhi = 2)
        have m3 := mx_le ll.hi (1 + mx lr.hi r.hi)
        omega
      · simp only [hc, if_false]
        cases lr with
        | leaf => exact absurd (show (0 : Int) ≤ ll.hi from ell) hc
        | node mh mkk mv ml mr mhi =>
          obtain ⟨e', b1, b2, bl, br⟩ := ar
          have hc' : ¬ mhi ≤ ll.hi := hc
          have a1' : ll.hi - mhi ≤ 1 := a1
          have a2' : mhi - ll.hi ≤ 1 := a2
          have m1' : ll.hi ≤ mx ll.hi mhi ∧ mhi ≤ mx ll.hi mhi ∧ (mx ll.hi mhi = ll.hi ∨ mx ll.hi mhi = mhi) := m1
          have e0 : lhi = 1 + mx ll.hi mhi := e
          have e1 := bl.nonneg
          have e2 := br.nonneg
          have m2 := mx_le ml.hi mr.hi
          have k1 : (mk lk lv ll ml).hi = 1 + mx ll.hi ml.hi := rfl
          have k2 : (mk ok ov mr r).hi = 1 + mx mr.hi r.hi := rfl
          have m3 := mx_le ll.hi ml.hi
          have m4 := mx_le mr.hi r.hi
          refine ⟨avl_mk (avl_mk al bl (by omega) (by omega)) (avl_mk br hr (by omega) (by omega)) (by rw [k1, k2]; omega) (by rw [k1, k2]; omega), ?_⟩
          show 1 + mx (1 + mx ll.hi ml.hi) (1 + mx mr.hi r.hi) = _ ∨ 1 + mx (1 + mx ll.hi ml.hi) (1 + mx mr.hi r.hi) = _ ∧ ((lhi : Int) - r.hi = 2 ∨ r.hi - lhi = 2)
          have m5 := mx_le (1 + mx ll.hi ml.hi) (1 + mx mr.hi r.hi)
          omega
  · rw [if_neg hd]
    by_cases hd2 : l.hi - r.hi < -1
    · rw [if_pos hd2]
      cases r with
      | leaf => exact absurd (show l.hi - (0 : Int) < -1 from hd2) (by omega)
      | node rh rk rv rl rr rhi =>
        obtain ⟨e, a1, a2, al, ar⟩ := hr
        have hd' : l.hi - rhi < -1 := hd2
        have h2' : rhi - l.hi ≤ 2 := h2
        have ell := al.nonneg
        have elr := ar.nonneg
        have m1 := mx_le rl.hi rr.hi
        have em : mx l.hi (T.node rh rk rv rl rr rhi).hi = rhi := by
          show mx l.hi rhi = rhi
          have := mx_le l.hi rhi; omega
        rw [em]
        unfold fromR
        by_cases hc : rl.hi ≤ rr.hi
        · simp only [hc, if_true]
          have m2 := mx_le l.hi rl.hi
          have hk : (mk ok ov l rl).hi = 1 + mx l.hi rl.hi := rfl
          refine ⟨avl_mk (avl_mk hl al (by omega) (by omega)) ar (by rw [hk]; omega) (by rw [hk]; omega), ?_⟩
          show 1 + mx (1 + mx l.hi rl.hi) rr.hi = _ ∨ 1 + mx (1 + mx l.hi rl.hi) rr.hi = _ ∧ (l.hi - rhi = 2 ∨ rhi - l.hi = 2)
          have m3 := mx_le (1 + mx l.hi rl.hi) rr.hi
          omega
        · simp only [hc, if_false]
          cases rl with
          | leaf => exact absurd (show (0 : Int) ≤ rr.hi from elr) hc
          | node mh mkk mv ml mr mhi =>
            obtain ⟨e', b1, b2, bl, br⟩ := al
            have hc' : ¬ mhi ≤ rr.hi := hc
            have a1' : mhi - rr.hi ≤ 1 := a1
            have a2' : rr.hi - mhi ≤ 1 := a2
            have m1' : mhi ≤ mx mhi rr.hi ∧ rr.hi ≤ mx mhi rr.hi ∧ (mx mhi rr.hi = mhi ∨ mx mhi rr.hi = rr.hi) := m1
            have e0 : rhi = 1 + mx mhi rr.hi := e
            have e1 := bl.nonneg
            have e2 := br.nonneg
            have m2 := mx_le ml.hi mr.hi
            have k1 : (mk ok ov l ml).hi = 1 + mx l.hi ml.hi := rfl
            have k2 : (mk rk rv mr rr).hi = 1 + mx mr.hi rr.hi := rfl
            have m3 := mx_le l.hi ml.hi
            have m4 := mx_le mr.hi rr.hi
            refine ⟨avl_mk (avl_mk hl bl (by omega) (by omega)) (avl_mk br ar (by omega) (by omega)) (by rw [k1, k2]; omega) (by rw [k1, k2]; omega), ?_⟩
            show 1 + mx (1 + mx l.hi ml.hi) (1 + mx mr.hi rr.hi) = _ ∨ 1 + mx (1 + mx l.hi ml.hi) (1 + mx mr.hi rr.hi) = _ ∧ (l.hi - rhi = 2 ∨ rhi - l.hi = 2)
            have m5 := mx_le (1 + mx l.hi ml.hi) (1 + mx mr.hi rr.hi)
            omega
    · rw [if_neg hd2]
      exact ⟨avl_mk hl hr (by omega) (by omega), .inl rfl⟩
theorem tput_avl (cmp : K → K → Int) (k : K) (v : V) : ∀ (t : T K V), Avl t → Avl (tput cmp t k v).1 ∧ t.hi ≤ (tput cmp t k v).1.hi ∧ (tput cmp t k v).1.hi ≤ t.hi + 1
  | .leaf, _ => ⟨⟨rfl, by show (0 : Int) - 0 ≤ 1; decide, by show (0 : Int) - 0 ≤ 1; decide, trivial, trivial⟩, by show (0 : Int) ≤ 1; decide, by show (1 : Int) ≤ 0 + 1; decide⟩
  | .node h k' v' l r hi, a => by
    obtain ⟨e, a1, a2, al, ar⟩ := a
    have m0 := mx_le l.hi r.hi
    rw [tput]
    split
    · obtain ⟨b, b1, b2⟩ := tput_avl cmp k v l al
      obtain ⟨c, c1⟩ := bal_avl (oh := h) (ok := k') (ov := v') b ar (by omega) (by omega)
      have m1 := mx_le (tput cmp l k v).1.hi r.hi
      have hh : (T.node h k' v' l r hi).hi = hi := rfl
      rw [hh]
      dsimp only
      exact ⟨c, by omega, by omega⟩
    · split
      · obtain ⟨b, b1, b2⟩ := tput_avl cmp k v r ar
        obtain ⟨c, c1⟩ := bal_avl (oh := h) (ok := k') (ov := v') al b (by omega) (by omega)
        have m1 := mx_le l.hi (tput cmp r k v).1.hi
        have hh : (T.node h k' v' l r hi).hi = hi := rfl
        rw [hh]
        dsimp only
        exact ⟨c, by omega, by omega⟩
      · exact ⟨⟨e, a1, a2, al, ar⟩, Int.le_refl _, by show hi ≤ hi + 1; omega⟩
theorem tleast_avl : ∀ (l : T K V) (h : Hd) (k : K) (v : V) (r : T K V) (hi : Int), Avl (.node h k v l r hi) → Avl (tleast h k v l r).2.1 ∧ hi - 1 ≤ (tleast h k v l r).2.1.hi ∧ (tleast h k v l r).2.1.hi ≤ hi
  | .leaf, h, k, v, r, hi, a => by
    obtain ⟨e, a1, a2, al, ar⟩ := a
    rw [tleast]
    have e' : hi = 1 + mx 0 r.hi := e
    have a2' : r.hi - 0 ≤ 1 := a2
    have m0 := mx_le 0 r.hi
    have := ar.nonneg
    exact ⟨ar, by show hi - 1 ≤ r.hi; omega, by show r.hi ≤ hi; omega⟩
  | .node h' k' v' l' r' hi', h, k, v, r, hi, a => by
    obtain ⟨e, a1, a2, al, ar⟩ := a
    rw [tleast]
    obtain ⟨b, b1, b2⟩ := tleast_avl l' h' k' v' r' hi' al
    have a1' : hi' - r.hi ≤ 1 := a1
    have a2' : r.hi - hi' ≤ 1 := a2
    have e' : hi = 1 + mx hi' r.hi := e
    have m0 := mx_le hi' r.hi
    obtain ⟨c, c1⟩ := bal_avl (oh := h) (ok := k) (ov := v) b ar (by omega) (by omega)
    have m1 := mx_le (tleast h' k' v' l' r').2.1.hi r.hi
    dsimp only
    exact ⟨c, by omega, by omega⟩
theorem tdel_lt {cmp : K → K → Int} {k k' : K} {h : Hd} {v' : V} {l r : T K V} {hi : Int} (hc : cmp k k' < 0) : tdel cmp (.node h k' v' l r hi) k = ((bal h k' v' (tdel cmp l k).1 r).1, (tdel cmp l k).2 ++ (bal h k' v' (tdel cmp l k).1 r).2) := by
  rw [tdel.eq_def]; simp only; rw [if_pos hc]
theorem tdel_gt {cmp : K → K → Int} {k k' : K} {h : Hd} {v' : V} {l r : T K V} {hi : Int} (hc0 : ¬ cmp k k' < 0) (hc : 0 < cmp k k') : tdel cmp (.node h k' v' l r hi) k = ((bal h k' v' l (tdel cmp r k).1).1, (tdel cmp r k).2 ++ (bal h k' v' l (tdel cmp r k).1).2) := by
  rw [tdel.eq_def]; simp only; rw [if_neg hc0, if_pos hc]
theorem tdel_l {cmp : K → K → Int} {k k' : K} {h : Hd} {v' : V} {r : T K V} {hi : Int} (hc0 : ¬ cmp k k' < 0) (hc : ¬ 0 < cmp k k') : tdel cmp (.node h k' v' .leaf r hi) k = (r, gh h) := by
  rw [tdel.eq_def]; simp only; rw [if_neg hc0, if_neg hc]
theorem tdel_r {cmp : K → K → Int} {k k' : K} {h : Hd} {v' : V} {l : T K V} {hi : Int} (hc0 : ¬ cmp k k' < 0) (hc : ¬ 0 < cmp k k') : tdel cmp (.node h k' v' l .leaf hi) k = (l, gh h) := by
  rw [tdel.eq_def]; simp only; rw [if_neg hc0, if_neg hc]
  cases l <;> rfl
theorem tdel_m {cmp : K → K → Int} {k k' : K} {h : Hd} {v' : V} {lh : Hd} {lk : K} {lv : V} {ll lr : T K V} {lhi : Int} {rh : Hd} {rk : K} {rv : V} {rl rr : T K V} {rhi hi : Int} (hc0 : ¬ cmp k k' < 0) (hc : ¬ 0 < cmp k k') : tdel cmp (.node h k' v' (.node lh lk lv ll lr lhi) (.node rh rk rv rl rr rhi) hi) k =
    ((bal (tleast rh rk rv rl rr).1.1 (tleast rh rk rv rl rr).1.2.1 (tleast rh rk rv rl rr).1.2.2 (.node lh lk lv ll lr lhi) (tleast rh rk rv rl rr).2.1).1,
      gh h ++ (tleast rh rk rv rl rr).2.2 ++ (bal (tleast rh rk rv rl rr).1.1 (tleast rh rk rv rl rr).1.2.1 (tleast rh rk rv rl rr).1.2.2 (.node lh lk lv ll lr lhi) (tleast rh rk rv rl rr).2.1).2) := by
  rw [tdel.eq_def]; simp only; rw [if_neg hc0, if_neg hc]
theorem tdel_avl (cmp : K → K → Int) (k : K) : ∀ (t : T K V), Avl t → Avl (tdel cmp t k).1 ∧ t.hi - 1 ≤ (tdel cmp t k).1.hi ∧ (tdel cmp t k).1.hi ≤ t.hi
  | .leaf, _ => ⟨trivial, by show (0 : Int) - 1 ≤ 0; decide, Int.le_refl _⟩
  | .node h k' v' l r hi, a => by
    obtain ⟨e, a1, a2, al, ar⟩ := a
    have m0 := mx_le l.hi r.hi
    have l0 := al.nonneg
    have r0 := ar.nonneg
    have hh : (T.node h k' v' l r hi).hi = hi := rfl
    by_cases hc : cmp k k' < 0
    · rw [tdel_lt hc]
      obtain ⟨b, b1, b2⟩ := tdel_avl cmp k l al
      obtain ⟨c, c1⟩ := bal_avl (oh := h) (ok := k') (ov := v') b ar (by omega) (by omega)
      have m1 := mx_le (tdel cmp l k).1.hi r.hi
      dsimp only
      rw [hh]
      exact ⟨c, by omega, by omega⟩
    · by_cases hc2 : 0 < cmp k k'
      · rw [tdel_gt hc hc2]
        obtain ⟨b, b1, b2⟩ := tdel_avl cmp k r ar
        obtain ⟨c, c1⟩ := bal_avl (oh := h) (ok := k') (ov := v') al b (by omega) (by omega)
        have m1 := mx_le l.hi (tdel cmp r k).1.hi
        dsimp only
        rw [hh]
        exact ⟨c, by omega, by omega⟩
      · cases l with
        | leaf =>
          rw [tdel_l hc hc2]
          have z : (T.leaf : T K V).hi = 0 := rfl
          have hh : (T.node h k' v' (.leaf : T K V) r hi).hi = hi := rfl
          dsimp only
          rw [hh]
          exact ⟨ar, by omega, by omega⟩
        | node lh lk lv ll lr lhi =>
          cases r with
          | leaf =>
            rw [tdel_r hc hc2]
            have z : (T.leaf : T K V).hi = 0 := rfl
            have hh : (T.node h k' v' (.node lh lk lv ll lr lhi) (.leaf : T K V) hi).hi = hi := rfl
            dsimp only
            rw [hh]
            exact ⟨al, by omega, by omega⟩
          | node rh rk rv rl rr rhi =>
            rw [tdel_m hc hc2]
            obtain ⟨b, b1, b2⟩ := tleast_avl rl rh rk rv rr rhi ar
            have zr : (T.node rh rk rv rl rr rhi).hi = rhi := rfl
            obtain ⟨c, c1⟩ := bal_avl (oh := (tleast rh rk rv rl rr).1.1) (ok := (tleast rh rk rv rl rr).1.2.1) (ov := (tleast rh rk rv rl rr).1.2.2) (l := .node lh lk lv ll lr lhi) al b (by omega) (by omega)
            have m1 := mx_le (T.node lh lk lv ll lr lhi).hi (tleast rh rk rv rl rr).2.1.hi
            have hh : (T.node h k' v' (.node lh lk lv ll lr lhi) (.node rh rk rv rl rr rhi) hi).hi = hi := rfl
            dsimp only
            rw [hh]
            exact ⟨c, by omega, by omega⟩
end Go.Proofs.Ytmhfbpdahfepgaa.Pm
/- Package pmap's fromLeft. -/
namespace Go.Proofs.Ytmhfbpdahfepgaa.Pm
open Go.RowKit Go.Proofs.YtmhfbpdahfepgaaW.PrintWords
theorem St.drew {w0 W : World} {eb m : Nat} {g : List Hd} (h : St w0 W eb m g) : St w0 W.drew eb m g := h.below (below_drew1 (Below.refl _ _))
theorem Ext.drew (B : Nat) (a : Ar N2) (W : World) : Ext B a W W.drew := Ext.below (below_drew1 (Below.refl _ _))
def OpenT (B : Nat) (W : World) (a : Ar N2) (b : Nat) : T2 → Prop
  | .leaf => False
  | .node h k v l r hi => OpenAt B W a b h k v l r hi
theorem OpenT.den {B : Nat} {W : World} {a : Ar N2} {b : Nat} {t : T2} (h : OpenT B W a b t) : Den B W a (some b) t := by
  cases t with
  | leaf => exact h.elim
  | node => exact OpenAt.den h
theorem OpenT.ext {B : Nat} {W W' : World} {a : Ar N2} {b : Nat} {t : T2} (h : OpenT B W a b t) (e : Ext B a W W') : OpenT B W' a b t := by
  cases t with
  | leaf => exact h.elim
  | node => exact e.openAt h
theorem oc5 {W : World} {b : Nat} {h : Hd} {k v : Int} {pl pr : Option Nat} {hi : Int} (hb : W.heap[b]? = some (.cells (openC h k v pl pr hi) 89 (0, 0))) : W.cell? ⟨b, 5, none⟩ = some (.pointer (pl.map fun b => ⟨b, 0, none⟩)) := blk_cell hb 5
theorem oc6 {W : World} {b : Nat} {h : Hd} {k v : Int} {pl pr : Option Nat} {hi : Int} (hb : W.heap[b]? = some (.cells (openC h k v pl pr hi) 89 (0, 0))) : W.cell? ⟨b, 6, none⟩ = some (.pointer (pr.map fun b => ⟨b, 0, none⟩)) := blk_cell hb 6
/-- What may be called while a version is made. -/
structure Kit (w0 : World) (eb m : Nat) (a : Ar N2) : Prop where
  node : ∀ (V : World) (b : Nat) (pl pr : Option Nat) (g : List Hd) (h : Hd) (k v : Int) (l0 r0 l r : T2) (hi : Int), St w0 V eb m g → OpenAt w0.heap.size V a b h k v l0 r0 hi → Den w0.heap.size V a pl l → Den w0.heap.size V a pr r → g.length ≤ 1000000 → 0 ≤ l.hi ∧ l.hi ≤ 1000000 ∧ 0 ≤ r.hi ∧ r.hi ≤ 1000000 →
    Calls Try.prog 51 #[.pointer (some ⟨eb, 0, none⟩), .pointer (some ⟨b, 0, none⟩), .pointer (pl.map fun b => ⟨b, 0, none⟩), .pointer (pr.map fun b => ⟨b, 0, none⟩)] V fun e w' => (∃ b', e = .returned (.pointer (some ⟨b', 0, none⟩)) ∧ OpenAt w0.heap.size w' a b' H0 k v l r (1 + mx l.hi r.hi)) ∧ Ext w0.heap.size a V w' ∧ St w0 w' eb m (g ++ gh h)
  high : ∀ (V : World) (g : List Hd) (p : Option Nat) (t : T2), St w0 V eb m g → Den w0.heap.size V a p t → Calls Try.prog 48 #[.pointer (some ⟨eb, 0, none⟩), .pointer (p.map fun b => ⟨b, 0, none⟩)] V fun e w' => e = .returned (.int .i64 t.hi) ∧ Ext w0.heap.size a V w' ∧ St w0 w' eb m g
  opened : ∀ (V : World) (b : Nat) (g : List Hd) (h : Hd) (k v : Int) (l r : T2) (hi : Int), St w0 V eb m g → Den w0.heap.size V a (some b) (.node h k v l r hi) → Calls Try.prog 42 #[.pointer (some ⟨eb, 0, none⟩), .pointer (some ⟨b, 0, none⟩)] V fun e w' => e = .returned (.pointer (some ⟨b, 0, none⟩)) ∧ OpenAt w0.heap.size w' a b h k v l r hi ∧ Ext w0.heap.size a V w' ∧ St w0 w' eb m g
  highO : ∀ (V : World) (b : Nat) (g : List Hd) (h : Hd) (k v : Int) (l r : T2) (hi : Int), St w0 V eb m g → Den w0.heap.size V a (some b) (.node h k v l r hi) → Calls Try.prog 48 #[.pointer (some ⟨eb, 0, none⟩), .pointer (some ⟨b, 0, none⟩)] V fun e w' => e = .returned (.int .i64 hi) ∧ OpenAt w0.heap.size w' a b h k v l r hi ∧ Ext w0.heap.size a V w' ∧ St w0 w' eb m g
theorem kit {w0 : World} {m aa : Nat} {f sv fv : Value} {a : Ar N2} (eb : Nat) (HM : MapAt w0 m aa f sv fv a) : Kit w0 eb m a :=
  ⟨fun V b pl pr g h k v l0 r0 l r hi hs ho hl hr hg hh => node_calls w0 V m aa f sv fv a eb b pl pr g h k v l0 r0 l r hi HM hs ho hl hr hg hh,
   fun V g p t hs hd => high_calls w0 V m aa f sv fv a eb p t g HM hs hd,
   fun V b g h k v l r hi hs hd => opened_calls w0 V m aa f sv fv a eb b g h k v l r hi HM hs hd,
   fun V b g h k v l r hi hs hd => high_node w0 V m aa f sv fv a eb b g h k v l r hi HM hs hd⟩

set_option maxHeartbeats 4000000 in
theorem fromL_one (w0 W : World) (m : Nat) (a : Ar N2) (eb bo bl : Nat) (pr : Option Nat) (g : List Hd) (oh : Hd) (ok ov : Int) (ol or' : T2) (ohi : Int) (lh : Hd) (lk lv : Int) (ll lr : T2) (lhi : Int) (r : T2) (KT : Kit w0 eb m a) (HS : St w0 W eb m g) (ho : OpenAt w0.heap.size W a bo oh ok ov ol or' ohi) (hl : OpenAt w0.heap.size W a bl lh lk lv ll lr lhi) (hr : Den w0.heap.size W a pr r) (hg : g.length + 3 ≤ 1000000)
    (h1 : 0 ≤ ll.hi ∧ ll.hi ≤ 100000) (h2 : 0 ≤ lr.hi ∧ lr.hi ≤ 100000) (h3 : 0 ≤ r.hi ∧ r.hi ≤ 100000) (hc : lr.hi ≤ ll.hi) :
    Calls Try.prog 49 #[.pointer (some ⟨eb, 0, none⟩), .pointer (some ⟨bo, 0, none⟩), .pointer (some ⟨bl, 0, none⟩), .pointer (pr.map fun b => ⟨b, 0, none⟩)] W fun e w' => (∃ b', e = .returned (.pointer (some ⟨b', 0, none⟩)) ∧ OpenT w0.heap.size w' a b' (mk lk lv ll (mk ok ov lr r))) ∧ Ext w0.heap.size a W w' ∧ St w0 w' eb m (g ++ (gh oh ++ gh lh)) := by
  obtain ⟨hB, ql, qr, hb, hql, hqr⟩ := hl
  have c5 := oc5 hb
  have c6 := oc6 hb
  have HB0 := Lib.hid hb
  have HO0 := Lib.hid ho
  have HL0 := Lib.hid hql
  have HR0 := Lib.hid hqr
  have HP0 := Lib.hid hr
  have HS0 := Lib.hid HS
  have HK := Lib.hid KT
  have hdx := Lib.hid (Ext.drew w0.heap.size a W)
  have hgl : (gh oh).length ≤ 1 := by unfold gh; split <;> simp
  have hmk : (mk ok ov lr r).hi = 1 + mx lr.hi r.hi := rfl
  have hmx := mx_le lr.hi r.hi
  have HMK := Lib.hid hmk
  have HHB := Lib.hid (show 0 ≤ ll.hi ∧ ll.hi ≤ 1000000 ∧ 0 ≤ (mk ok ov lr r).hi ∧ (mk ok ov lr r).hi ≤ 1000000 by rw [hmk]; omega)
  have hge : (lr.hi : Int) ≤ ll.hi := hc
  clear hb ho hql hqr hr HS KT hmx hmk
  go_enter Try.func49, Try.ntmps49
  go_wp2
  go_region_held3 (fun V => V.cell? ⟨bl, 5, none⟩ = some (.pointer (ql.map fun b => ⟨b, 0, none⟩)) ∧ V.cell? ⟨bl, 6, none⟩ = some (.pointer (qr.map fun b => ⟨b, 0, none⟩))) (first | exact ⟨c5, c6⟩ | exact ⟨d5, d6⟩ | exact ⟨e5, e6⟩) (first
    | (go_at_call 48; ((with_reducible refine Calls.mono (HK.out.high _ _ _ _ HS0.out.drew (hdx.out.den _ _ HL0.out)) ?_); rintro e w1 ⟨rfl, hx, hs⟩; have HX1 := Lib.hid (hdx.out.trans hx); have HS1 := Lib.hid hs; have HB1 := Lib.hid (HX1.out.opn _ _ _ _ _ _ _ HB0.out); have d5 := oc5 HB1.out; have d6 := oc6 HB1.out; clear hx hs))
    | (go_at_call 48; go_loud ((with_reducible refine Calls.mono (HK.out.high _ _ _ _ HS1.out (HX1.out.den _ _ HR0.out)) ?_); rintro e w2 ⟨rfl, hx, hs⟩; have HX2 := Lib.hid (HX1.out.trans hx); have HS2 := Lib.hid hs; have HB2 := Lib.hid (HX2.out.opn _ _ _ _ _ _ _ HB0.out); have e5 := oc5 HB2.out; have e6 := oc6 HB2.out; clear hx hs))
    | (fail "no arm"))
  go_wp2
  have HX2d := Lib.hid (HX2.out.trans (Ext.drew w0.heap.size a w2))
  go_region_held3 (fun V => V.cell? ⟨bl, 5, none⟩ = some (.pointer (ql.map fun b => ⟨b, 0, none⟩)) ∧ V.cell? ⟨bl, 6, none⟩ = some (.pointer (qr.map fun b => ⟨b, 0, none⟩))) (first | exact ⟨e5, e6⟩ | exact ⟨i5, i6⟩ | exact ⟨j5, j6⟩) (first
    | (go_at_call 51; ((with_reducible refine Calls.mono (HK.out.node _ _ _ _ _ _ _ _ _ _ _ _ _ HS2.out.drew (HX2d.out.openAt HO0.out) (HX2d.out.den _ _ HR0.out) (HX2d.out.den _ _ HP0.out) (by omega) ⟨h2.1, by omega, h3.1, by omega⟩) ?_); rintro e w3 ⟨⟨b3, rfl, ho3⟩, hx, hs⟩; have HX3 := Lib.hid (HX2d.out.trans hx); have HS3 := Lib.hid hs; have HO3 := Lib.hid ho3; have HB3 := Lib.hid (HX3.out.opn _ _ _ _ _ _ _ HB0.out); have i5 := oc5 HB3.out; have i6 := oc6 HB3.out; clear hx hs ho3))
    | (go_at_call 51; go_loud ((refine Calls.mono (HK.out.node _ bl ql (some b3) _ lh lk lv ll lr ll (mk ok ov lr r) lhi HS3.out ⟨hB, ql, qr, HB3.out, HX3.out.den _ _ HL0.out, HX3.out.den _ _ HR0.out⟩ (HX3.out.den _ _ HL0.out) HO3.out.den (by rw [List.length_append]; omega) HHB.out) ?_); rintro e w4 ⟨⟨b4, rfl, ho4⟩, hx, hs⟩; have HX4 := Lib.hid (HX3.out.trans hx); have HS4 := Lib.hid hs; have HO4 := Lib.hid ho4; have HB4 := Lib.hid (HX4.out.opn _ _ _ _ _ _ _ HB0.out); have j5 := oc5 HB4.out; have j6 := oc6 HB4.out; clear hx hs ho4))
    | (fail "no arm"))
  go_wp2
  all_goals
    go_ret
    exact ⟨⟨b4, rfl, HO4.out⟩, HX4.out, by rw [← List.append_assoc]; exact HS4.out⟩
set_option maxHeartbeats 4000000 in
theorem fromL_two (w0 W : World) (m : Nat) (a : Ar N2) (eb bo bl : Nat) (pr : Option Nat) (g : List Hd) (oh : Hd) (ok ov : Int) (ol or' : T2) (ohi : Int) (lh : Hd) (lk lv : Int) (ll : T2) (mh : Hd) (mk1 mv : Int) (ml mr : T2) (mhi : Int) (lhi : Int) (r : T2) (KT : Kit w0 eb m a) (HS : St w0 W eb m g) (ho : OpenAt w0.heap.size W a bo oh ok ov ol or' ohi) (hl : OpenAt w0.heap.size W a bl lh lk lv ll (.node mh mk1 mv ml mr mhi) lhi) (hr : Den w0.heap.size W a pr r) (hg : g.length + 3 ≤ 1000000)
    (h1 : 0 ≤ ll.hi ∧ ll.hi ≤ 100000) (h2 : 0 ≤ ml.hi ∧ ml.hi ≤ 100000) (h4 : 0 ≤ mr.hi ∧ mr.hi ≤ 100000) (h3 : 0 ≤ r.hi ∧ r.hi ≤ 100000) (hc : ¬ mhi ≤ ll.hi) :
    Calls Try.prog 49 #[.pointer (some ⟨eb, 0, none⟩), .pointer (some ⟨bo, 0, none⟩), .pointer (some ⟨bl, 0, none⟩), .pointer (pr.map fun b => ⟨b, 0, none⟩)] W fun e w' => (∃ b', e = .returned (.pointer (some ⟨b', 0, none⟩)) ∧ OpenT w0.heap.size w' a b' (mk mk1 mv (mk lk lv ll ml) (mk ok ov mr r))) ∧ Ext w0.heap.size a W w' ∧ St w0 w' eb m (g ++ (gh lh ++ gh oh ++ gh mh)) := by
  obtain ⟨hB, ql, qr, hb, hql, hqr⟩ := hl
  have c5 := oc5 hb
  have c6 := oc6 hb
  obtain ⟨bm, rfl, hqr'⟩ := id hqr
  clear hqr'
  have HB0 := Lib.hid hb
  have HO0 := Lib.hid ho
  have HL0 := Lib.hid hql
  have HR0 := Lib.hid hqr
  have HP0 := Lib.hid hr
  have HS0 := Lib.hid HS
  have HK := Lib.hid KT
  have hdx := Lib.hid (Ext.drew w0.heap.size a W)
  have hgl : (gh oh).length ≤ 1 := by unfold gh; split <;> simp
  have hgl2 : (gh lh).length ≤ 1 := by unfold gh; split <;> simp
  have hmx := mx_le ll.hi ml.hi
  have hmx2 := mx_le mr.hi r.hi
  have HHB := Lib.hid (show 0 ≤ (mk lk lv ll ml).hi ∧ (mk lk lv ll ml).hi ≤ 1000000 ∧ 0 ≤ (mk ok ov mr r).hi ∧ (mk ok ov mr r).hi ≤ 1000000 by rw [show (mk lk lv ll ml).hi = 1 + mx ll.hi ml.hi from rfl, show (mk ok ov mr r).hi = 1 + mx mr.hi r.hi from rfl]; omega)
  have hge : ¬ (mhi : Int) ≤ ll.hi := hc
  have hmh : (T.node mh mk1 mv ml mr mhi).hi = mhi := rfl
  have hhigh := fun (V : World) (g : List Hd) (hs : St w0 V eb m g) (hd : Den w0.heap.size V a (some bm) (.node mh mk1 mv ml mr mhi)) => KT.high V g (some bm) _ hs hd
  rw [hmh] at hhigh
  simp only [Option.map_some] at hhigh c6
  have HH := Lib.hid hhigh
  clear hb ho hql hqr hr HS KT hmx hmx2 hhigh hmh
  go_enter Try.func49, Try.ntmps49
  go_wp2
  go_region_held3 (fun V => V.cell? ⟨bl, 5, none⟩ = some (.pointer (ql.map fun b => ⟨b, 0, none⟩)) ∧ V.cell? ⟨bl, 6, none⟩ = some (.pointer (some ⟨bm, 0, none⟩))) (first | exact ⟨c5, c6⟩ | exact ⟨d5, d6⟩ | exact ⟨e5, e6⟩) (first
    | (go_at_call 48; ((with_reducible refine Calls.mono (HK.out.high _ _ _ _ HS0.out.drew (hdx.out.den _ _ HL0.out)) ?_); rintro e w1 ⟨rfl, hx, hs⟩; have HX1 := Lib.hid (hdx.out.trans hx); have HS1 := Lib.hid hs; have HB1 := Lib.hid (HX1.out.opn _ _ _ _ _ _ _ HB0.out); have d5 := oc5 HB1.out; have d6 : w1.cell? ⟨bl, 6, none⟩ = some (.pointer (some ⟨bm, 0, none⟩)) := oc6 HB1.out; clear hx hs))
    | (go_at_call 48; go_loud ((with_reducible refine Calls.mono (HH.out _ _ HS1.out (HX1.out.den _ _ HR0.out)) ?_); rintro e w2 ⟨rfl, hx, hs⟩; have HX2 := Lib.hid (HX1.out.trans hx); have HS2 := Lib.hid hs; have HB2 := Lib.hid (HX2.out.opn _ _ _ _ _ _ _ HB0.out); have e5 := oc5 HB2.out; have e6 : w2.cell? ⟨bl, 6, none⟩ = some (.pointer (some ⟨bm, 0, none⟩)) := oc6 HB2.out; clear hx hs))
    | (fail "no arm"))
  go_wp2_with (first
    | (go_at_call 42; ((with_reducible refine Calls.mono (HK.out.opened _ _ _ _ _ _ _ _ _ HS2.out (HX2.out.den _ _ HR0.out)) ?_); rintro e w3 ⟨rfl, ho3, hx, hs⟩; have HX3 := Lib.hid (HX2.out.trans hx); have HS3 := Lib.hid hs; have HM3 := Lib.hid ho3; obtain ⟨hBm, qml, qmr, hbm, hdml, hdmr⟩ := ho3; have HBM := Lib.hid hbm; have HML := Lib.hid hdml; have HMR := Lib.hid hdmr; have HB3 := Lib.hid (HX3.out.opn _ _ _ _ _ _ _ HB0.out); have f5 := oc5 HB3.out; have m5 := oc5 HBM.out; have m6 := oc6 HBM.out; clear hx hs hbm hdml hdmr))
    | (fail "no arm"))
  have HD3 := Lib.hid (Ext.drew w0.heap.size a w3)
  have HX3d := Lib.hid (HX3.out.trans (Ext.drew w0.heap.size a w3))
  have HOL3 := Lib.hid (show OpenAt w0.heap.size w3.drew a bl lh lk lv ll (.node mh mk1 mv ml mr mhi) lhi from ⟨hB, ql, some bm, HB3.out, HX3d.out.den _ _ HL0.out, HX3d.out.den _ _ HR0.out⟩)
  go_region_held3 (fun V => V.cell? ⟨bl, 5, none⟩ = some (.pointer (ql.map fun b => ⟨b, 0, none⟩)) ∧ V.cell? ⟨bm, 5, none⟩ = some (.pointer (qml.map fun b => ⟨b, 0, none⟩)) ∧ V.cell? ⟨bm, 6, none⟩ = some (.pointer (qmr.map fun b => ⟨b, 0, none⟩))) (first | exact ⟨f5, m5, m6⟩ | exact ⟨g5, g6, g7⟩ | exact ⟨i5, i6, i7⟩ | exact ⟨j5, j6, j7⟩) (first
    | (go_at_call 51; ((with_reducible refine Calls.mono (HK.out.node _ bl ql qml _ lh lk lv ll (.node mh mk1 mv ml mr mhi) ll ml lhi HS3.out.drew HOL3.out (HX3d.out.den _ _ HL0.out) (HD3.out.den _ _ HML.out) (by omega) ⟨h1.1, by omega, h2.1, by omega⟩) ?_); rintro e w4 ⟨⟨b4, rfl, ho4⟩, hx, hs⟩; have HY4 := Lib.hid (HD3.out.trans hx); have HX4 := Lib.hid (HX3.out.trans HY4.out); have HS4 := Lib.hid hs; have HO4 := Lib.hid ho4; have HB4 := Lib.hid (HX4.out.opn _ _ _ _ _ _ _ HB0.out); have HC4 := Lib.hid (HY4.out.opn _ _ _ _ _ _ _ HBM.out); have g5 := oc5 HB4.out; have g6 := oc5 HC4.out; have g7 := oc6 HC4.out; clear hx hs ho4))
    | (go_at_call 51; ((with_reducible refine Calls.mono (HK.out.node _ bo qmr pr _ oh ok ov ol or' mr r ohi HS4.out (HX4.out.openAt HO0.out) (HY4.out.den _ _ HMR.out) (HX4.out.den _ _ HP0.out) (by rw [List.length_append]; omega) ⟨h4.1, by omega, h3.1, by omega⟩) ?_); rintro e w5 ⟨⟨b5, rfl, ho5⟩, hx, hs⟩; have HY5 := Lib.hid (HY4.out.trans hx); have HX5 := Lib.hid (HX4.out.trans hx); have HS5 := Lib.hid hs; have HO5 := Lib.hid ho5; have HO45 := Lib.hid (hx.openAt HO4.out); have HB5 := Lib.hid (HX5.out.opn _ _ _ _ _ _ _ HB0.out); have HC5 := Lib.hid (HY5.out.opn _ _ _ _ _ _ _ HBM.out); have i5 := oc5 HB5.out; have i6 := oc5 HC5.out; have i7 := oc6 HC5.out; clear hx hs ho5))
    | (go_at_call 51; go_loud ((refine Calls.mono (HK.out.node _ bm (some b4) (some b5) _ mh mk1 mv ml mr (mk lk lv ll ml) (mk ok ov mr r) mhi HS5.out (HY5.out.openAt HM3.out) HO45.out.den HO5.out.den (by rw [List.length_append, List.length_append]; omega) HHB.out) ?_); rintro e w6 ⟨⟨b6, rfl, ho6⟩, hx, hs⟩; have HX6 := Lib.hid (HX5.out.trans hx); have HY6 := Lib.hid (HY5.out.trans hx); have HS6 := Lib.hid hs; have HO6 := Lib.hid ho6; have HB6 := Lib.hid (HX6.out.opn _ _ _ _ _ _ _ HB0.out); have HC6 := Lib.hid (HY6.out.opn _ _ _ _ _ _ _ HBM.out); have j5 := oc5 HB6.out; have j6 := oc5 HC6.out; have j7 := oc6 HC6.out; clear hx hs ho6))
    | (fail "no arm"))
  go_wp2
  all_goals
    go_ret
    exact ⟨⟨b6, rfl, HO6.out⟩, HX6.out, by simpa only [List.append_assoc] using HS6.out⟩
end Go.Proofs.Ytmhfbpdahfepgaa.Pm
