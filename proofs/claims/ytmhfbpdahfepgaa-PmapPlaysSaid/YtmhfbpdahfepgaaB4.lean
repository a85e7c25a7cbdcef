/-
  Package pmap's del; Package pmap's fresh; Package arena in memory: its own blocks; Room, next; Package arena in memory: Put; Package arena: Put, as the plain arena's put; what holds of an arena
-/
import Derived.Test.YtmhfbpdahfepgaaB3
/- Package pmap's del. -/
namespace Go.Proofs.Ytmhfbpdahfepgaa.Pm
open Go.RowKit Go.Proofs.YtmhfbpdahfepgaaW.PrintWords
def DelSays (w0 : World) (m eb : Nat) (a : Ar N2) (k : Int) (t : T2) : Prop :=
  ∀ (W : World) (p : Option Nat) (g : List Hd), St w0 W eb m g → Den w0.heap.size W a p t → Avl t → Has cmpI k t → t.hi ≤ 50000 → (g.length : Int) + 4 * t.hi ≤ 900000 →
    Calls Try.prog 37 #[.pointer (some ⟨eb, 0, none⟩), .pointer (p.map fun b => ⟨b, 0, none⟩), .int .i64 k] W fun e w' => (∃ q, e = .returned (.pointer (q.map fun b => ⟨b, 0, none⟩)) ∧ Den w0.heap.size w' a q (tdel cmpI t k).1) ∧ Ext w0.heap.size a W w' ∧ St w0 w' eb m (g ++ (tdel cmpI t k).2)
set_option maxHeartbeats 4000000 in
theorem del_lt (w0 : World) (m aa eb : Nat) (sv fv : Value) (a : Ar N2) (HM : MapAt w0 m aa cmpF sv fv a) (KT : Kit w0 eb m a) (h : Hd) (k' v' : Int) (l r : T2) (hi : Int) (k : Int) (ih : DelSays w0 m eb a k l) (hc : k < k') : DelSays w0 m eb a k (.node h k' v' l r hi) := by
  intro W p g HS hd av hhas hh hg
  obtain ⟨b, rfl, hd0⟩ := hd
  have HO := Lib.hid (KT.opened W b g h k' v' l r hi HS ⟨b, rfl, hd0⟩)
  obtain ⟨e1, a1, a2, al, ar⟩ := av
  have m0 := mx_le l.hi r.hi
  have l0 := al.nonneg
  have r0 := ar.nonneg
  have hh' : hi ≤ 50000 := hh
  have hg' : (g.length : Int) + 4 * hi ≤ 900000 := hg
  have hmc := Lib.hid (fun (V : World) (hs : St w0 V eb m g) => (show V.cell? ⟨m, 1, none⟩ = some cmpF from (blk_cell (blk_below HM.hm hs.bel) 1).trans rfl))
  have hec := Lib.hid (fun (V : World) (hs : St w0 V eb m g) => (show V.cell? ⟨eb, 0, none⟩ = some (.pointer (some ⟨m, 0, none⟩)) by obtain ⟨gv, he, _⟩ := hs.ed; exact blk_cell he 0))
  clear HS hd0 hh hg
  simp only [Option.map_some, cmpF] at hmc ⊢
  have hck : cmpI k k' = -1 := by unfold cmpI; rw [if_pos hc]
  have hs1 : Has cmpI k l := hhas.1 (by rw [hck]; decide)
  have hlen := tdel_len k l al
  obtain ⟨avp, hp1, hp2⟩ := tdel_avl cmpI k l al
  have HIH := Lib.hid (fun (V0 V : World) (hb : Below V0.heap.size V0 V) (hs : St w0 V0 eb m g) (q : Option Nat) (hd : Den w0.heap.size V0 a q l) => (ih V q g (hs.below hb) ((Ext.below hb).den _ _ hd) al hs1 (by omega) (by omega)).mono (R' := fun e w' => (∃ q, e = .returned (.pointer (q.map fun b => ⟨b, 0, none⟩)) ∧ Den w0.heap.size w' a q (tdel cmpI l k).1) ∧ Ext w0.heap.size a V0 w' ∧ St w0 w' eb m (g ++ (tdel cmpI l k).2)) fun _ _ ⟨x1, x2, x3⟩ => ⟨x1, (Ext.below hb).trans x2, x3⟩)
  have HBAL := Lib.hid (fun (V : World) (ql qr : Option Nat) (ho : OpenAt w0.heap.size V a b h k' v' l r hi) (hs : St w0 V eb m (g ++ (tdel cmpI l k).2)) (hl : Den w0.heap.size V a ql (tdel cmpI l k).1) (hr : Den w0.heap.size V a qr r) => balance_calls w0 V m a eb b ql qr (g ++ (tdel cmpI l k).2) h k' v' l r hi (tdel cmpI l k).1 r KT hs ho hl hr (by rw [List.length_append]; omega) avp ar (by omega) (by omega))
  rw [tdel_lt (by rw [hck]; decide)]
  dsimp only
  clear hlen avp hp1 hp2 ih a1 a2 al ar e1 m0 hhas hs1
  generalize (bal h k' v' (tdel cmpI l k).1 r) = BB at *
  generalize (tdel cmpI l k) = TT at *
  go_enter Try.func37, Try.ntmps37
  go_wp2_with (first
    | (go_at_call 42; ((refine Calls.mono HO.out ?_); rintro e w1 ⟨rfl, ho, hx, hs⟩; have x0 := hec.out _ hs; have x1 := hmc.out _ hs; obtain ⟨hB, ql, qr, hb, hql, hqr⟩ := id ho; have c3 : w1.cell? ⟨b, 3, none⟩ = some (.int .i64 k') := blk_cell hb 3; have HOA := Lib.hid ho; have HX1 := Lib.hid hx; have HS1 := Lib.hid hs; have HB1 := Lib.hid hb; have HL1 := Lib.hid hql; have HR1 := Lib.hid hqr; clear ho hx hs hb hql hqr))
    | (fail "no arm"))
  go_quiet ((go_at_call 11; exact Calls.quiet_of_same (cmp_calls _ _ _)))
  rw [hck]
  have HB := Lib.hid (Below.refl w1.heap.size w1)
  go_wp2
  have c5 := oc5 HB1.out
  have c6 := oc6 HB1.out
  go_region_held3 (fun V => V.cell? ⟨b, 5, none⟩ = some (.pointer (ql.map fun b => ⟨b, 0, none⟩)) ∧ V.cell? ⟨b, 6, none⟩ = some (.pointer (qr.map fun b => ⟨b, 0, none⟩))) (first | exact ⟨c5, c6⟩ | exact ⟨d5, d6⟩ | exact ⟨e5, e6⟩) (first
    | (go_at_call 37; go_loud ((with_reducible refine Calls.mono (HIH.out w1 _ (by repeat (first | (with_reducible exact HB.out) | apply below_alloc | apply pw_below_drewN | apply below_drew1 | exact HB.out)) HS1.out _ HL1.out) ?_); rintro e w2 ⟨⟨q2, rfl, hd2⟩, hx, hs⟩; have HX2 := Lib.hid hx; have HS2 := Lib.hid hs; have HD2 := Lib.hid hd2; have HB2 := Lib.hid (hx.opn _ _ _ _ _ _ _ HB1.out); have d5 := oc5 HB2.out; have d6 := oc6 HB2.out; clear hx hs hd2))
    | (go_at_call 43; go_loud ((with_reducible refine Calls.mono (HBAL.out _ _ _ (HX2.out.openAt HOA.out) HS2.out HD2.out (HX2.out.den _ _ HR1.out)) ?_); rintro e w3 ⟨⟨b3, rfl, ho3⟩, hx, hs⟩; have HX3 := Lib.hid (HX2.out.trans hx); have HS3 := Lib.hid hs; have HO3 := Lib.hid ho3; have HB3 := Lib.hid (HX3.out.opn _ _ _ _ _ _ _ HB1.out); have e5 := oc5 HB3.out; have e6 := oc6 HB3.out; clear hx hs ho3))
    | (fail "no arm"))
  go_wp2
  all_goals
    go_ret
    exact ⟨⟨some b3, rfl, HO3.out.den⟩, HX1.out.trans HX3.out, by rw [← List.append_assoc]; exact HS3.out⟩
set_option maxHeartbeats 4000000 in
theorem del_gt (w0 : World) (m aa eb : Nat) (sv fv : Value) (a : Ar N2) (HM : MapAt w0 m aa cmpF sv fv a) (KT : Kit w0 eb m a) (h : Hd) (k' v' : Int) (l r : T2) (hi : Int) (k : Int) (ih : DelSays w0 m eb a k r) (hc : k' < k) : DelSays w0 m eb a k (.node h k' v' l r hi) := by
  intro W p g HS hd av hhas hh hg
  obtain ⟨b, rfl, hd0⟩ := hd
  have HO := Lib.hid (KT.opened W b g h k' v' l r hi HS ⟨b, rfl, hd0⟩)
  obtain ⟨e1, a1, a2, al, ar⟩ := av
  have m0 := mx_le l.hi r.hi
  have l0 := al.nonneg
  have r0 := ar.nonneg
  have hh' : hi ≤ 50000 := hh
  have hg' : (g.length : Int) + 4 * hi ≤ 900000 := hg
  have hmc := Lib.hid (fun (V : World) (hs : St w0 V eb m g) => (show V.cell? ⟨m, 1, none⟩ = some cmpF from (blk_cell (blk_below HM.hm hs.bel) 1).trans rfl))
  have hec := Lib.hid (fun (V : World) (hs : St w0 V eb m g) => (show V.cell? ⟨eb, 0, none⟩ = some (.pointer (some ⟨m, 0, none⟩)) by obtain ⟨gv, he, _⟩ := hs.ed; exact blk_cell he 0))
  clear HS hd0 hh hg
  simp only [Option.map_some, cmpF] at hmc ⊢
  have hck : cmpI k k' = 1 := by unfold cmpI; rw [if_neg (by omega), if_pos hc]
  have hs1 : Has cmpI k r := hhas.2 (by rw [hck]; decide) (by rw [hck]; decide)
  have hlen := tdel_len k r ar
  obtain ⟨avp, hp1, hp2⟩ := tdel_avl cmpI k r ar
  have HIH := Lib.hid (fun (V0 V : World) (hb : Below V0.heap.size V0 V) (hs : St w0 V0 eb m g) (q : Option Nat) (hd : Den w0.heap.size V0 a q r) => (ih V q g (hs.below hb) ((Ext.below hb).den _ _ hd) ar hs1 (by omega) (by omega)).mono (R' := fun e w' => (∃ q, e = .returned (.pointer (q.map fun b => ⟨b, 0, none⟩)) ∧ Den w0.heap.size w' a q (tdel cmpI r k).1) ∧ Ext w0.heap.size a V0 w' ∧ St w0 w' eb m (g ++ (tdel cmpI r k).2)) fun _ _ ⟨x1, x2, x3⟩ => ⟨x1, (Ext.below hb).trans x2, x3⟩)
  have HBAL := Lib.hid (fun (V : World) (ql qr : Option Nat) (ho : OpenAt w0.heap.size V a b h k' v' l r hi) (hs : St w0 V eb m (g ++ (tdel cmpI r k).2)) (hl : Den w0.heap.size V a ql l) (hr : Den w0.heap.size V a qr (tdel cmpI r k).1) => balance_calls w0 V m a eb b ql qr (g ++ (tdel cmpI r k).2) h k' v' l r hi l (tdel cmpI r k).1 KT hs ho hl hr (by rw [List.length_append]; omega) al avp (by omega) (by omega))
  rw [tdel_gt (by rw [hck]; decide) (by rw [hck]; decide)]
  dsimp only
  clear hlen avp hp1 hp2 ih a1 a2 al ar e1 m0 hhas hs1
  generalize (bal h k' v' l (tdel cmpI r k).1) = BB at *
  generalize (tdel cmpI r k) = TT at *
  go_enter Try.func37, Try.ntmps37
  go_wp2_with (first
    | (go_at_call 42; ((refine Calls.mono HO.out ?_); rintro e w1 ⟨rfl, ho, hx, hs⟩; have x0 := hec.out _ hs; have x1 := hmc.out _ hs; obtain ⟨hB, ql, qr, hb, hql, hqr⟩ := id ho; have c3 : w1.cell? ⟨b, 3, none⟩ = some (.int .i64 k') := blk_cell hb 3; have HOA := Lib.hid ho; have HX1 := Lib.hid hx; have HS1 := Lib.hid hs; have HB1 := Lib.hid hb; have HL1 := Lib.hid hql; have HR1 := Lib.hid hqr; clear ho hx hs hb hql hqr))
    | (fail "no arm"))
  go_quiet ((go_at_call 11; exact Calls.quiet_of_same (cmp_calls _ _ _)))
  rw [hck]
  have HB := Lib.hid (Below.refl w1.heap.size w1)
  go_wp2
  have c5 := oc5 HB1.out
  have c6 := oc6 HB1.out
  go_region_held3 (fun V => V.cell? ⟨b, 5, none⟩ = some (.pointer (ql.map fun b => ⟨b, 0, none⟩)) ∧ V.cell? ⟨b, 6, none⟩ = some (.pointer (qr.map fun b => ⟨b, 0, none⟩))) (first | exact ⟨c5, c6⟩ | exact ⟨d5, d6⟩ | exact ⟨e5, e6⟩) (first
    | (go_at_call 37; go_loud ((with_reducible refine Calls.mono (HIH.out w1 _ (by repeat (first | (with_reducible exact HB.out) | apply below_alloc | apply pw_below_drewN | apply below_drew1 | exact HB.out)) HS1.out _ HR1.out) ?_); rintro e w2 ⟨⟨q2, rfl, hd2⟩, hx, hs⟩; have HX2 := Lib.hid hx; have HS2 := Lib.hid hs; have HD2 := Lib.hid hd2; have HB2 := Lib.hid (hx.opn _ _ _ _ _ _ _ HB1.out); have d5 := oc5 HB2.out; have d6 := oc6 HB2.out; clear hx hs hd2))
    | (go_at_call 43; go_loud ((with_reducible refine Calls.mono (HBAL.out _ _ _ (HX2.out.openAt HOA.out) HS2.out (HX2.out.den _ _ HL1.out) HD2.out) ?_); rintro e w3 ⟨⟨b3, rfl, ho3⟩, hx, hs⟩; have HX3 := Lib.hid (HX2.out.trans hx); have HS3 := Lib.hid hs; have HO3 := Lib.hid ho3; have HB3 := Lib.hid (HX3.out.opn _ _ _ _ _ _ _ HB1.out); have e5 := oc5 HB3.out; have e6 := oc6 HB3.out; clear hx hs ho3))
    | (fail "no arm"))
  go_wp2
  all_goals
    go_ret
    exact ⟨⟨some b3, rfl, HO3.out.den⟩, HX1.out.trans HX3.out, by rw [← List.append_assoc]; exact HS3.out⟩
set_option maxHeartbeats 4000000 in
theorem del_l (w0 : World) (m aa eb : Nat) (sv fv : Value) (a : Ar N2) (HM : MapAt w0 m aa cmpF sv fv a) (KT : Kit w0 eb m a) (h : Hd) (k' v' : Int) (r : T2) (hi : Int) (k : Int) (hc : k = k') : DelSays w0 m eb a k (.node h k' v' .leaf r hi) := by
  intro W p g HS hd av hhas hh hg
  obtain ⟨b, rfl, hd0⟩ := hd
  have HO := Lib.hid (KT.opened W b g h k' v' .leaf r hi HS ⟨b, rfl, hd0⟩)
  obtain ⟨e1, a1, a2, al, ar⟩ := av
  have m0 := mx_le (T.hi (.leaf : T2)) (T.hi (r : T2))
  have l0 := al.nonneg
  have r0 := ar.nonneg
  have hh' : hi ≤ 50000 := hh
  have hg' : (g.length : Int) + 4 * hi ≤ 900000 := hg
  have hmc := Lib.hid (fun (V : World) (hs : St w0 V eb m g) => (show V.cell? ⟨m, 1, none⟩ = some cmpF from (blk_cell (blk_below HM.hm hs.bel) 1).trans rfl))
  have hec := Lib.hid (fun (V : World) (hs : St w0 V eb m g) => (show V.cell? ⟨eb, 0, none⟩ = some (.pointer (some ⟨m, 0, none⟩)) by obtain ⟨gv, he, _⟩ := hs.ed; exact blk_cell he 0))
  have hck : cmpI k k' = 0 := by unfold cmpI; rw [if_neg (by omega), if_neg (by omega)]
  have HLV := Lib.hid (fun (V0 V : World) (hb : Below V0.heap.size V0 V) (ql qr : Option Nat) (hs : St w0 V0 eb m g) (hk : V0.heap[b]? = some (.cells (openC h k' v' ql qr hi) 89 (0, 0))) => (leave_calls w0 V m a eb b g h _ (hs.below hb) (blk_below hk hb) rfl rfl (by omega)).mono (R' := fun e w' => e = .returned (.tuple #[]) ∧ Ext w0.heap.size a V0 w' ∧ St w0 w' eb m (g ++ gh h)) fun _ _ ⟨x1, x2, x3⟩ => ⟨x1, (Ext.below hb).trans x2, x3⟩)
  rw [tdel_l (by rw [hck]; decide) (by rw [hck]; decide)]
  dsimp only
  clear a1 a2 al ar e1 m0 hc hhas HS hd0 hh hg
  simp only [Option.map_some, cmpF] at hmc ⊢
  go_enter Try.func37, Try.ntmps37
  go_wp2_with (first
    | (go_at_call 42; ((refine Calls.mono HO.out ?_); rintro e w1 ⟨rfl, ho, hx, hs⟩; have x0 := hec.out _ hs; have x1 := hmc.out _ hs; obtain ⟨hB, ql, qr, hb, hql, hqr⟩ := id ho; have c3 : w1.cell? ⟨b, 3, none⟩ = some (.int .i64 k') := blk_cell hb 3; have HOA := Lib.hid ho; have HX1 := Lib.hid hx; have HS1 := Lib.hid hs; have HB1 := Lib.hid hb; have HL1 := Lib.hid hql; have HR1 := Lib.hid hqr; clear ho hx hs hb hql hqr))
    | (fail "no arm"))
  go_quiet ((go_at_call 11; exact Calls.quiet_of_same (cmp_calls _ _ _)))
  rw [hck]
  have HB := Lib.hid (Below.refl w1.heap.size w1)
  go_wp2_with (first
    | (go_at_call 44; go_loud ((with_reducible refine Calls.mono (HLV.out w1 _ (by repeat (first | (with_reducible exact HB.out) | apply below_alloc | apply pw_below_drewN | apply below_drew1 | exact HB.out)) _ _ HS1.out HB1.out) ?_); rintro e w2 ⟨rfl, hx, hs⟩; have HX2 := Lib.hid hx; have HS2 := Lib.hid hs; have HB2 := Lib.hid (hx.opn _ _ _ _ _ _ _ HB1.out); have d5 := oc5 HB2.out; have d6 := oc6 HB2.out; have hq0 : ql = none := HL1.out; rw [hq0] at d5; simp only [Option.map_none] at d5; clear hx hs))
    | (fail "no arm"))
  all_goals
    go_ret
    exact ⟨⟨_, rfl, HX2.out.den _ _ HR1.out⟩, HX1.out.trans HX2.out, HS2.out⟩
set_option maxHeartbeats 4000000 in
theorem del_r (w0 : World) (m aa eb : Nat) (sv fv : Value) (a : Ar N2) (HM : MapAt w0 m aa cmpF sv fv a) (KT : Kit w0 eb m a) (h : Hd) (k' v' : Int) (lh : Hd) (lk lv : Int) (ll lr : T2) (lhi : Int) (hi : Int) (k : Int) (hc : k = k') : DelSays w0 m eb a k (.node h k' v' (.node lh lk lv ll lr lhi) .leaf hi) := by
  intro W p g HS hd av hhas hh hg
  obtain ⟨b, rfl, hd0⟩ := hd
  have HO := Lib.hid (KT.opened W b g h k' v' (.node lh lk lv ll lr lhi) .leaf hi HS ⟨b, rfl, hd0⟩)
  obtain ⟨e1, a1, a2, al, ar⟩ := av
  have m0 := mx_le (T.hi ((.node lh lk lv ll lr lhi) : T2)) (T.hi (.leaf : T2))
  have l0 := al.nonneg
  have r0 := ar.nonneg
  have hh' : hi ≤ 50000 := hh
  have hg' : (g.length : Int) + 4 * hi ≤ 900000 := hg
  have hmc := Lib.hid (fun (V : World) (hs : St w0 V eb m g) => (show V.cell? ⟨m, 1, none⟩ = some cmpF from (blk_cell (blk_below HM.hm hs.bel) 1).trans rfl))
  have hec := Lib.hid (fun (V : World) (hs : St w0 V eb m g) => (show V.cell? ⟨eb, 0, none⟩ = some (.pointer (some ⟨m, 0, none⟩)) by obtain ⟨gv, he, _⟩ := hs.ed; exact blk_cell he 0))
  have hck : cmpI k k' = 0 := by unfold cmpI; rw [if_neg (by omega), if_neg (by omega)]
  have HLV := Lib.hid (fun (V0 V : World) (hb : Below V0.heap.size V0 V) (ql qr : Option Nat) (hs : St w0 V0 eb m g) (hk : V0.heap[b]? = some (.cells (openC h k' v' ql qr hi) 89 (0, 0))) => (leave_calls w0 V m a eb b g h _ (hs.below hb) (blk_below hk hb) rfl rfl (by omega)).mono (R' := fun e w' => e = .returned (.tuple #[]) ∧ Ext w0.heap.size a V0 w' ∧ St w0 w' eb m (g ++ gh h)) fun _ _ ⟨x1, x2, x3⟩ => ⟨x1, (Ext.below hb).trans x2, x3⟩)
  rw [tdel_r (by rw [hck]; decide) (by rw [hck]; decide)]
  dsimp only
  clear a1 a2 al ar e1 m0 hc hhas HS hd0 hh hg
  simp only [Option.map_some, cmpF] at hmc ⊢
  go_enter Try.func37, Try.ntmps37
  go_wp2_with (first
    | (go_at_call 42; ((refine Calls.mono HO.out ?_); rintro e w1 ⟨rfl, ho, hx, hs⟩; have x0 := hec.out _ hs; have x1 := hmc.out _ hs; obtain ⟨hB, ql, qr, hb, hql, hqr⟩ := id ho; have c3 : w1.cell? ⟨b, 3, none⟩ = some (.int .i64 k') := blk_cell hb 3; have HOA := Lib.hid ho; have HX1 := Lib.hid hx; have HS1 := Lib.hid hs; have HB1 := Lib.hid hb; have HL1 := Lib.hid hql; have HR1 := Lib.hid hqr; clear ho hx hs hb hql hqr))
    | (fail "no arm"))
  go_quiet ((go_at_call 11; exact Calls.quiet_of_same (cmp_calls _ _ _)))
  rw [hck]
  have HB := Lib.hid (Below.refl w1.heap.size w1)
  go_wp2_with (first
    | (go_at_call 44; go_loud ((with_reducible refine Calls.mono (HLV.out w1 _ (by repeat (first | (with_reducible exact HB.out) | apply below_alloc | apply pw_below_drewN | apply below_drew1 | exact HB.out)) _ _ HS1.out HB1.out) ?_); rintro e w2 ⟨rfl, hx, hs⟩; have HX2 := Lib.hid hx; have HS2 := Lib.hid hs; have HB2 := Lib.hid (hx.opn _ _ _ _ _ _ _ HB1.out); have d5 := oc5 HB2.out; have d6 := oc6 HB2.out; obtain ⟨b5, hq5, hd5⟩ := id HL1.out; clear hd5; rw [hq5] at d5; simp only [Option.map_some] at d5; have hq6 : qr = none := HR1.out; rw [hq6] at d6; simp only [Option.map_none] at d6; clear hx hs))
    | (fail "no arm"))
  all_goals
    go_ret
    exact ⟨⟨some b5, rfl, by rw [← hq5]; exact HX2.out.den _ _ HL1.out⟩, HX1.out.trans HX2.out, HS2.out⟩
set_option maxHeartbeats 4000000 in
theorem del_m (w0 : World) (m aa eb : Nat) (sv fv : Value) (a : Ar N2) (HM : MapAt w0 m aa cmpF sv fv a) (KT : Kit w0 eb m a) (h : Hd) (k' v' : Int) (lh : Hd) (lk lv : Int) (ll lr : T2) (lhi : Int) (rh : Hd) (rk rv : Int) (rl rr : T2) (rhi : Int) (hi : Int) (k : Int) (hc : k = k') : DelSays w0 m eb a k (.node h k' v' (.node lh lk lv ll lr lhi) (.node rh rk rv rl rr rhi) hi) := by
  intro W p g HS hd av hhas hh hg
  obtain ⟨b, rfl, hd0⟩ := hd
  have HO := Lib.hid (KT.opened W b g h k' v' (.node lh lk lv ll lr lhi) (.node rh rk rv rl rr rhi) hi HS ⟨b, rfl, hd0⟩)
  obtain ⟨e1, a1, a2, al, ar⟩ := av
  have m0 := mx_le (T.hi ((.node lh lk lv ll lr lhi) : T2)) (T.hi ((.node rh rk rv rl rr rhi) : T2))
  have l0 := al.nonneg
  have r0 := ar.nonneg
  have hh' : hi ≤ 50000 := hh
  have hg' : (g.length : Int) + 4 * hi ≤ 900000 := hg
  have hmc := Lib.hid (fun (V : World) (hs : St w0 V eb m g) => (show V.cell? ⟨m, 1, none⟩ = some cmpF from (blk_cell (blk_below HM.hm hs.bel) 1).trans rfl))
  have hec := Lib.hid (fun (V : World) (hs : St w0 V eb m g) => (show V.cell? ⟨eb, 0, none⟩ = some (.pointer (some ⟨m, 0, none⟩)) by obtain ⟨gv, he, _⟩ := hs.ed; exact blk_cell he 0))
  have hck : cmpI k k' = 0 := by unfold cmpI; rw [if_neg (by omega), if_neg (by omega)]
  have HLV := Lib.hid (fun (V0 V : World) (hb : Below V0.heap.size V0 V) (ql qr : Option Nat) (hs : St w0 V0 eb m g) (hk : V0.heap[b]? = some (.cells (openC h k' v' ql qr hi) 89 (0, 0))) => (leave_calls w0 V m a eb b g h _ (hs.below hb) (blk_below hk hb) rfl rfl (by omega)).mono (R' := fun e w' => e = .returned (.tuple #[]) ∧ Ext w0.heap.size a V0 w' ∧ St w0 w' eb m (g ++ gh h)) fun _ _ ⟨x1, x2, x3⟩ => ⟨x1, (Ext.below hb).trans x2, x3⟩)
  have hrr : (T.node rh rk rv rl rr rhi).hi = rhi := rfl
  rw [hrr] at m0 e1 a1 a2
  have hlen := tleast_len rl rh rk rv rr rhi ar
  obtain ⟨avp, hp1, hp2⟩ := tleast_avl rl rh rk rv rr rhi ar
  have g0 := gh_len h
  have HLE0 := (fun (V : World) (b6 : Nat) (hs : St w0 V eb m (g ++ gh h)) (hd : Den w0.heap.size V a (some b6) (.node rh rk rv rl rr rhi)) => least_calls w0 m eb a KT rl rh rk rv rr rhi V (some b6) (g ++ gh h) hs hd ar (by omega) (by rw [List.length_append]; omega))
  simp only [Option.map_some] at HLE0
  have HLE := Lib.hid HLE0
  have HBAL0 := (fun (V : World) (b2 : Nat) (l0 r0 : T2) (hi0 : Int) (b5 : Nat) (q : Option Nat) (ho : OpenAt w0.heap.size V a b2 (tleast rh rk rv rl rr).1.1 (tleast rh rk rv rl rr).1.2.1 (tleast rh rk rv rl rr).1.2.2 l0 r0 hi0) (hs : St w0 V eb m (g ++ gh h ++ (tleast rh rk rv rl rr).2.2)) (hl : Den w0.heap.size V a (some b5) (.node lh lk lv ll lr lhi)) (hr : Den w0.heap.size V a q (tleast rh rk rv rl rr).2.1) => balance_calls w0 V m a eb b2 (some b5) q (g ++ gh h ++ (tleast rh rk rv rl rr).2.2) (tleast rh rk rv rl rr).1.1 (tleast rh rk rv rl rr).1.2.1 (tleast rh rk rv rl rr).1.2.2 l0 r0 hi0 (.node lh lk lv ll lr lhi) (tleast rh rk rv rl rr).2.1 KT hs ho hl hr (by rw [List.length_append, List.length_append]; omega) al avp (by omega) (by omega))
  simp only [Option.map_some] at HBAL0
  have HBAL := Lib.hid HBAL0
  rw [tdel_m (by rw [hck]; decide) (by rw [hck]; decide)]
  dsimp only
  clear a1 a2 al ar e1 m0 hc hhas HS hd0 hh hg
  clear HLE0 HBAL0 hlen avp hp1 hp2 hrr g0
  generalize (bal (tleast rh rk rv rl rr).1.1 (tleast rh rk rv rl rr).1.2.1 (tleast rh rk rv rl rr).1.2.2 (.node lh lk lv ll lr lhi) (tleast rh rk rv rl rr).2.1) = BB at *
  generalize (tleast rh rk rv rl rr) = TT at *
  simp only [Option.map_some, cmpF] at hmc ⊢
  go_enter Try.func37, Try.ntmps37
  go_wp2_with (first
    | (go_at_call 42; ((refine Calls.mono HO.out ?_); rintro e w1 ⟨rfl, ho, hx, hs⟩; have x0 := hec.out _ hs; have x1 := hmc.out _ hs; obtain ⟨hB, ql, qr, hb, hql, hqr⟩ := id ho; have c3 : w1.cell? ⟨b, 3, none⟩ = some (.int .i64 k') := blk_cell hb 3; have HOA := Lib.hid ho; have HX1 := Lib.hid hx; have HS1 := Lib.hid hs; have HB1 := Lib.hid hb; have HL1 := Lib.hid hql; have HR1 := Lib.hid hqr; clear ho hx hs hb hql hqr))
    | (fail "no arm"))
  go_quiet ((go_at_call 11; exact Calls.quiet_of_same (cmp_calls _ _ _)))
  rw [hck]
  have HB := Lib.hid (Below.refl w1.heap.size w1)
  go_wp2_with (first
    | (go_at_call 44; go_loud ((with_reducible refine Calls.mono (HLV.out w1 _ (by repeat (first | (with_reducible exact HB.out) | apply below_alloc | apply pw_below_drewN | apply below_drew1 | exact HB.out)) _ _ HS1.out HB1.out) ?_); rintro e w2 ⟨rfl, hx, hs⟩; have HX2 := Lib.hid hx; have HS2 := Lib.hid hs; have HB2 := Lib.hid (hx.opn _ _ _ _ _ _ _ HB1.out); have d5 := oc5 HB2.out; have d6 := oc6 HB2.out; obtain ⟨b5, hq5, hd5⟩ := id HL1.out; clear hd5; rw [hq5] at d5; simp only [Option.map_some] at d5; obtain ⟨b6, hq6, hd6⟩ := id HR1.out; clear hd6; rw [hq6] at d6; simp only [Option.map_some] at d6; have HR5 := Lib.hid (HX2.out.den _ _ HR1.out); rw [hq6] at HR5; have HL5 := Lib.hid (HX2.out.den _ _ HL1.out); rw [hq5] at HL5; clear hx hs))
    | (go_at_call 46; go_loud ((with_reducible refine Calls.mono (HLE.out _ _ HS2.out HR5.out) ?_); rintro e w3 ⟨⟨b2, q2, l2, r2, hi2, rfl, ho2, hd2⟩, hx, hs⟩; have HX3 := Lib.hid hx; have HS3 := Lib.hid hs; have HO3 := Lib.hid ho2; have HD3 := Lib.hid hd2; have HB3 := Lib.hid (hx.opn _ _ _ _ _ _ _ HB2.out); have e5 := oc5 HB3.out; rw [hq5] at e5; simp only [Option.map_some] at e5; clear hx hs ho2 hd2))
    | (go_at_call 43; go_loud ((with_reducible refine Calls.mono (HBAL.out _ _ _ _ _ _ _ HO3.out HS3.out (HX3.out.den _ _ HL5.out) HD3.out) ?_); rintro e w4 ⟨⟨b3, rfl, ho3⟩, hx, hs⟩; have HX4 := Lib.hid hx; have HS4 := Lib.hid hs; have HO4 := Lib.hid ho3; clear hx hs ho3))
    | (fail "no arm"))
  all_goals
    go_ret
    exact ⟨⟨some b3, rfl, HO4.out.den⟩, HX1.out.trans (HX2.out.trans (HX3.out.trans HX4.out)), by rw [← List.append_assoc, ← List.append_assoc]; exact HS4.out⟩
theorem del_calls (w0 : World) (m aa eb : Nat) (sv fv : Value) (a : Ar N2) (HM : MapAt w0 m aa cmpF sv fv a) (k : Int) : ∀ (t : T2), DelSays w0 m eb a k t
  | .leaf => fun _ _ _ _ _ _ h => h.elim
  | .node h k' v' l r hi => by
    have il := del_calls w0 m aa eb sv fv a HM k l
    have ir := del_calls w0 m aa eb sv fv a HM k r
    have KT := kit eb HM
    by_cases h1 : k < k'
    · exact del_lt w0 m aa eb sv fv a HM KT h k' v' l r hi k il h1
    · by_cases h2 : k' < k
      · exact del_gt w0 m aa eb sv fv a HM KT h k' v' l r hi k ir h2
      · cases l with
        | leaf => exact del_l w0 m aa eb sv fv a HM KT h k' v' r hi k (by omega)
        | node lh lk lv ll lr lhi =>
          cases r with
          | leaf => exact del_r w0 m aa eb sv fv a HM KT h k' v' lh lk lv ll lr lhi hi k (by omega)
          | node rh rk rv rl rr rhi => exact del_m w0 m aa eb sv fv a HM KT h k' v' lh lk lv ll lr lhi rh rk rv rl rr rhi hi k (by omega)
end Go.Proofs.Ytmhfbpdahfepgaa.Pm
/- Package pmap's fresh. -/
namespace Go.Proofs.Ytmhfbpdahfepgaa.Pm
open Go.RowKit Go.Proofs.YtmhfbpdahfepgaaW.PrintWords
attribute [local go_sem high] eqHd
theorem hd_ne {h : Hd} (hz : h ≠ H0) : ((h.s == 0) && (h.g == 0)) = false := by
  obtain ⟨s, g⟩ := h
  rw [Bool.eq_false_iff]
  intro e
  simp only [Bool.and_eq_true, beq_iff_eq] at e
  exact hz (by rw [e.1, e.2]; rfl)
/-- A new item is open. -/
theorem den_new {B : Nat} {W : World} {a : Ar N2} {p : Option Nat} {k v : Int} {l r : T2} {hi : Int} (h : Den B W a p (.node H0 k v l r hi)) : ∃ b, p = some b ∧ OpenAt B W a b H0 k v l r hi := by
  obtain ⟨b, hb, h0, h⟩ := h
  rcases h with ⟨_, h2⟩ | h2
  · exact absurd rfl h2.1
  · exact ⟨b, hb, h0, h2⟩
theorem den_head {B : Nat} {W : World} {a : Ar N2} {p : Option Nat} {h : Hd} {k v : Int} {l r : T2} {hi : Int} (H : Den B W a p (.node h k v l r hi)) : ∃ b, p = some b ∧ B ≤ b ∧ b < W.heap.size ∧ W.cell? ⟨b, 0, none⟩ = some (.int .i64 h.s) ∧ W.cell? ⟨b, 1, none⟩ = some (.int .i64 h.g) := by
  obtain ⟨b, hb, h0, H⟩ := H
  rcases H with ⟨h1, _⟩ | ⟨_, _, h1, _, _⟩
  · exact ⟨b, hb, h0, blk_lt h1, blk_cell h1 0, blk_cell h1 1⟩
  · exact ⟨b, hb, h0, blk_lt h1, blk_cell h1 0, blk_cell h1 1⟩
def FreshSays (B eb : Nat) (a : Ar N2) (t : T2) : Prop :=
  ∀ (W : World) (p : Option Nat), Den B W a p t → (fresh t : Int) ≤ 1000000 →
    Calls Try.prog 40 #[.pointer (some ⟨eb, 0, none⟩), .pointer (p.map fun b => ⟨b, 0, none⟩)] W fun e w' => e = .returned (.int .i64 (fresh t)) ∧ ∃ n, w' = W.drewN n
theorem fresh_leaf (B eb : Nat) (a : Ar N2) : FreshSays B eb a .leaf := by
  intro W p hd _
  cases hd
  simp only [Option.map_none]
  go_enter Try.func40, Try.ntmps40
  go_wp2
  go_ret
  exact ⟨rfl, 0, rfl⟩
theorem fresh_old (B eb : Nat) (a : Ar N2) (h : Hd) (k v : Int) (l r : T2) (hi : Int) (hz : h ≠ H0) : FreshSays B eb a (.node h k v l r hi) := by
  intro W p hd _
  obtain ⟨b, rfl, _, hlt, c0, c1⟩ := den_head hd
  have hne := hd_ne hz
  rw [show fresh (.node h k v l r hi : T2) = 0 by rw [fresh, if_neg hz]]
  clear hz hd
  simp only [Option.map_some]
  go_enter Try.func40, Try.ntmps40
  go_wp2
  go_ret
  exact ⟨rfl, 0, rfl⟩
set_option maxHeartbeats 4000000 in
theorem fresh_new (B eb : Nat) (a : Ar N2) (k v : Int) (l r : T2) (hi : Int) (il : FreshSays B eb a l) (ir : FreshSays B eb a r) : FreshSays B eb a (.node H0 k v l r hi) := by
  intro W p hd hb
  obtain ⟨b, rfl, _, hlt, c0, c1⟩ := den_head hd
  obtain ⟨b', e, hB, pl, pr, h1, h2, h3⟩ := den_new hd
  cases e
  have c5 := oc5 h1
  have c6 := oc6 h1
  rw [show fresh (.node H0 k v l r hi : T2) = 1 + fresh l + fresh r by rw [fresh, if_pos rfl]] at hb ⊢
  simp only [H0] at c0 c1
  have HH := Lib.hid h1
  have e1 : IntKind.i64.wrap (1 + (fresh l : Int)) = 1 + (fresh l : Int) := by rw [IntKind.wrap_i64]; omega
  have e2 : IntKind.i64.wrap (1 + (fresh l : Int) + (fresh r : Int)) = ((1 + fresh l + fresh r : Nat) : Int) := by rw [IntKind.wrap_i64]; omega
  have HIL := Lib.hid (fun (n : Nat) => Calls.quiet_of (il (W.drewN n) pl ((Ext.below (pw_below_drewN (Below.refl _ _) n)).den _ _ h2) (by omega)))
  have HIR := Lib.hid (fun (n : Nat) => Calls.quiet_of (ir (W.drewN n) pr ((Ext.below (pw_below_drewN (Below.refl _ _) n)).den _ _ h3) (by omega)))
  clear hd hb il ir h1 h2 h3 hB
  generalize fresh l = fl at *
  generalize fresh r = fr at *
  simp only [Option.map_some]
  go_enter Try.func40, Try.ntmps40
  go_wp2
  go_quiet (first
    | (go_at_call 40; with_reducible exact HIL.out _)
    | (go_at_call 40; with_reducible exact HIR.out _))
  go_wp2
  go_ret
  exact ⟨rfl, _, rfl⟩
theorem fresh_calls (B eb : Nat) (a : Ar N2) : ∀ (t : T2), FreshSays B eb a t
  | .leaf => fresh_leaf B eb a
  | .node h k v l r hi => by
    by_cases hz : h = H0
    · subst hz
      exact fresh_new B eb a k v l r hi (fresh_calls B eb a l) (fresh_calls B eb a r)
    · exact fresh_old B eb a h k v l r hi hz
end Go.Proofs.Ytmhfbpdahfepgaa.Pm
/- Package arena in memory: its own blocks; Room, next. -/
namespace Go.Proofs.Ytmhfbpdahfepgaa.Pm
open Go.RowKit Go.Proofs.YtmhfbpdahfepgaaW.PrintWords
abbrev OwnS (W : World) (base : Nat) (v : Value) (ss : List (Slot N2)) : Prop := OwnRow (fun s cs => cs = slotC s) 96 9 W base v ss
/-- An arena lies in block aa, all of it behind B; since w0 nothing ahead of B was changed. -/
structure AtB (w0 W : World) (B aa : Nat) (sv fv : Value) (a : Ar N2) : Prop where
  bel : Below B w0 W
  sz : B ≤ W.heap.size
  ge : B ≤ aa
  ha : W.heap[aa]? = some (.cells #[.int .i64 a.most, sv, fv] 84 (0, 0))
  hs : OwnS W B sv a.slots
  hf : W.ownsRow B 3 1 fv a.free.length (nums .i64 a.free)
/-- Of the old blocks only the arena's own were changed. -/
structure Fr (W W' : World) : Prop where
  os : W'.os = W.os
  tape : W'.tape = W.tape
  output : W'.output = W.output
  size : W.heap.size ≤ W'.heap.size
  block : ∀ (k : Nat) (cs : Array Value) (t : TypeId), W.heap[k]? = some (.cells cs t (0, 0)) → t ≠ 84 → t ≠ 96 → t ≠ 3 → W'.heap[k]? = some (.cells cs t (0, 0))
theorem Fr.refl (W : World) : Fr W W := ⟨rfl, rfl, rfl, Nat.le_refl _, fun _ _ _ h _ _ _ => h⟩
theorem Fr.trans {W W' W'' : World} (h : Fr W W') (k : Fr W' W'') : Fr W W'' := ⟨k.os.trans h.os, k.tape.trans h.tape, k.output.trans h.output, Nat.le_trans h.size k.size, fun j cs t hc h1 h2 h3 => k.block j cs t (h.block j cs t hc h1 h2 h3) h1 h2 h3⟩
theorem Fr.below {W W' : World} (h : Below W.heap.size W W') : Fr W W' := ⟨h.os, h.tape, h.output, h.size, fun _ _ _ hc _ _ _ => blk_below hc h⟩
theorem AtB.below {w0 W W' : World} {B aa : Nat} {sv fv : Value} {a : Ar N2} (h : AtB w0 W B aa sv fv a) (hb : Below W.heap.size W W') : AtB w0 W' B aa sv fv a :=
  ⟨h.bel.trans (hb.mono h.sz), Nat.le_trans h.sz hb.size, h.ge, blk_below h.ha hb, OwnRow.below h.hs hb, pw_own_below h.hf hb⟩
/-- How much there may be. -/
structure Small (a : Ar N2) : Prop where
  most : a.most ≤ 1048576
  slots : a.slots.length ≤ a.most
  free : a.free.length ≤ a.slots.length
theorem own_apart {W : World} {B B' : Nat} {e : TypeId} {size n : Nat} {v v' : Value} {xs : List Value} {ss : List (Slot N2)} (h : W.ownsRow B e size v n xs) (k : OwnS W B' v' ss) (he : 96 ≠ e) : v.ownBlock = none ∨ v.ownBlock ≠ v'.ownBlock := by
  rcases h.2 with ⟨rfl, _⟩ | ⟨g, cap, cur, rfl, _, hg, _⟩
  · exact .inl rfl
  · exact .inr (OwnRow.ne_block k hg he)
theorem Fr.grown {W W' : World} {B : Nat} {v : Value} {ss : List (Slot N2)} (hg : W.grownBy W' v.ownBlock) (k : OwnS W B v ss) : Fr W W' :=
  ⟨hg.os, hg.tape, hg.output, hg.size, fun j _ _ hc _ h2 _ => (hg.block j (blk_lt hc) (OwnRow.ne_block k hc (Ne.symm h2))).trans hc⟩
theorem Fr.set {W : World} {b : Nat} {cs0 : Array Value} {t0 : TypeId} (hb : W.heap[b]? = some (.cells cs0 t0 (0, 0))) (ht : t0 = 84 ∨ t0 = 96 ∨ t0 = 3) (j : Nat) (u : Value) : Fr W (W.setCell ⟨b, j, none⟩ u) :=
  ⟨rfl, rfl, rfl, by simp, fun k cs t hc h1 h2 h3 => (Below.heap_setCell W ⟨b, j, none⟩ u k (by
    rintro rfl
    have e : (some (Obj.cells cs t (0, 0)) : Option Obj) = some (.cells cs0 t0 (0, 0)) := hc.symm.trans hb
    injection e with e
    injection e with e1 e2
    subst e2
    rcases ht with h | h | h
    · exact h1 h
    · exact h2 h
    · exact h3 h)).trans hc⟩
theorem slotInfo : (Try.prog.info? 96).map (fun i => (i.zero, i.size, i.bytes)) = some (some (.agg #[.int .i64 0, .bool false, .int .i64 0, .int .i64 0, .int .i64 0, .int .i64 0, .int .i64 0, .int .i64 0, .int .i64 0]), 9, 72) := by kernel_rfl
theorem room_calls (w0 W : World) (B aa : Nat) (sv fv : Value) (a : Ar N2) (H : AtB w0 W B aa sv fv a) (hs : Small a) :
    Calls Try.prog 36 #[.pointer (some ⟨aa, 0, none⟩)] W fun e w' => e = .returned (.int .i64 a.room) ∧ ∃ n, w' = W.drewN n := by
  obtain ⟨A, c, rfl, _⟩ := OwnRow.slice_ H.hs
  obtain ⟨A', c', rfl⟩ := own_slice H.hf
  have c0 := blk_cell H.ha 0
  have c1 := blk_cell H.ha 1
  have c2 := blk_cell H.ha 2
  simp at c0 c1 c2
  obtain ⟨h1, h2, h3⟩ := hs
  have e1 : IntKind.i64.wrap ((a.most : Int) - (a.slots.length : Int)) = (a.most : Int) - (a.slots.length : Int) := by rw [IntKind.wrap_i64]; omega
  have e2 : IntKind.i64.wrap ((a.most : Int) - (a.slots.length : Int) + (a.free.length : Int)) = (a.most : Int) - (a.slots.length : Int) + (a.free.length : Int) := by rw [IntKind.wrap_i64]; omega
  unfold Ar.room
  clear H h1 h2 h3
  generalize a.slots.length = L at *
  generalize a.free.length = F at *
  generalize a.most = M at *
  go_enter Try.func36, Try.ntmps36
  go_wp2
  go_quiet (fail)
  go_wp2
  go_ret
  exact ⟨rfl, _, rfl⟩
set_option maxHeartbeats 4000000 in
theorem next_new (w0 W : World) (B aa : Nat) (sv fv : Value) (a : Ar N2) (H : AtB w0 W B aa sv fv a) (hs : Small a) (hf : a.free = []) (hl : a.slots.length < a.most) :
    Calls Try.prog 52 #[.pointer (some ⟨aa, 0, none⟩)] W fun e w' => e = .returned (.int .i64 ((a.slots.length : Int) + 1)) ∧ (∃ sv', AtB w0 w' B aa sv' fv ⟨a.most, a.slots ++ [⟨0, false, nd0⟩], a.free⟩) ∧ Fr W w' := by
  have hA := H.ha
  have hO := H.hs
  have hF := H.hf
  have hne1 := OwnRow.ne_block hO hA (by decide)
  obtain ⟨A', c', rfl⟩ := own_slice hF
  have c1 := blk_cell H.ha 1
  have c2 := blk_cell H.ha 2
  simp at c1 c2
  rw [hf] at c2
  have HH := Lib.hid H
  have HA := Lib.hid hA
  have HO := Lib.hid hO
  have HBB := Lib.hid H.bel
  have hsz := H.sz
  obtain ⟨h1, h2, h3⟩ := hs
  have hlt := blk_lt hA
  clear hA hO hF H
  simp only [List.length_nil] at c2
  replace hne1 := Lib.hid hne1
  replace hf := Lib.hid hf
  go_enter Try.func52, Try.ntmps52
  go_wp2_with (first
    | (at_builtin; go_loud ((refine OwnRow.append (R := fun s cs => cs = slotC s) (w0 := w0) (W := W) B rfl (.tmp 16) (.tmp 18) 81 96 _ 9 72 rfl Try.underlying81 slotInfo rfl (by decide) (by decide) sv a.slots ⟨0, false, nd0⟩ [.int .i64 0, .bool false, .int .i64 0, .int .i64 0, .int .i64 0, .int .i64 0, .int .i64 0, .int .i64 0, .int .i64 0] rfl (by simp [Act.eval]) rfl rfl (by simp [Value.oneCell']) HO.out HBB.out hsz ?hl ?_; (case hl => omega); intro v8 w8 ho hb hg hat; obtain ⟨A8, c8, rfl, _⟩ := OwnRow.slice_ ho; have HO8 := Lib.hid ho; have HB8 := Lib.hid hb; have HG8 := Lib.hid hg; have HT8 := Lib.hid hat; have HE8 := Lib.hid (show w8.heap[aa]? = _ from (hg.block aa (by simpa using hlt) hne1.out).trans HA.out); have z1 := blk_frozen HE8.out 1; have k1 := blk_cell HE8.out 1; simp at k1; have hsz8 := hg.size; clear ho hb hg hat)))
    | (fail "no arm"))
  go_ret
  have hF8 := own_other HH.out.hf HG8.out (own_apart HH.out.hf HO.out (by decide))
  exact ⟨rfl, ⟨_, HB8.out.setCell (p := ⟨aa, 1, none⟩) HH.out.ge _, by simp; omega, HH.out.ge, blk_put HE8.out 1 _ rfl, OwnRow.set_ (by simpa using HO8.out) HE8.out (by decide) 1 _, own_setCell hF8 (own_ne hF8 HE8.out (by decide)) _⟩, (Fr.grown HG8.out HO.out).trans (Fr.set HE8.out (.inl rfl) 1 _)⟩
theorem own_cut {W : World} {B g c n : Nat} {e : TypeId} {xs : List Value} {x : Value} (h : W.ownsRow B e 1 (.slice (some ⟨g, 0, none⟩) (n + 1) c) (n + 1) (xs ++ [x])) : W.ownsRow B e 1 (.slice (some ⟨g, 0, none⟩) n c) n xs := by
  obtain ⟨h1, h2⟩ := h
  rw [List.length_append, List.length_singleton] at h1
  have hx : xs.length = n := by omega
  rcases h2 with ⟨h2, _⟩ | ⟨g', cap, cur, e1, hb, hg, hc, hm, hs, ht⟩
  · simp at h2
  · injection e1 with e1 e2 e3
    injection e1 with e1
    injection e1 with e1
    subst e1 e3
    refine ⟨by omega, .inr ⟨g, c, cur, rfl, hb, hg, by omega, hm, hs, ?_⟩⟩
    have := congrArg (List.take (n * 1)) ht
    rw [List.take_take, Nat.min_eq_left (by omega)] at this
    rw [this, List.take_append_of_le_length (by omega), List.take_of_length_le (by omega)]
set_option maxHeartbeats 4000000 in
theorem next_old (w0 W : World) (B aa : Nat) (sv fv : Value) (a : Ar N2) (fs : List Int) (i : Int) (H : AtB w0 W B aa sv fv a) (hs : Small a) (hf : a.free = fs ++ [i]) :
    Calls Try.prog 52 #[.pointer (some ⟨aa, 0, none⟩)] W fun e w' => e = .returned (.int .i64 i) ∧ (∃ fv', AtB w0 w' B aa sv fv' ⟨a.most, a.slots, fs⟩) ∧ Fr W w' := by
  obtain ⟨h1, h2, h3⟩ := hs
  have hA := H.ha
  have hF := H.hf
  rw [hf] at hF h3
  have hlen : (fs ++ [i]).length = fs.length + 1 := by rw [List.length_append]; rfl
  rw [hlen] at hF h3
  rw [show nums .i64 (fs ++ [i]) = nums .i64 fs ++ [.int .i64 i] by simp [nums]] at hF
  have hq : ∃ g c, fv = .slice (some ⟨g, 0, none⟩) (fs.length + 1) c := by
    rcases hF.2 with ⟨_, h⟩ | ⟨g, c, _, h, _⟩
    · omega
    · exact ⟨g, c, h⟩
  obtain ⟨g, c, rfl⟩ := hq
  have hle := own_le hF
  have ci : W.cell? ⟨g, fs.length, none⟩ = some (.int .i64 i) := by rw [World.ownsRow.cellAt hF fs.length (by omega)]; simp [nums]
  have hgl : g < W.heap.size := (hF.lt g rfl).2
  have HF := Lib.hid (own_cut hF)
  have c2 := blk_cell hA 2
  have z2 := blk_frozen hA 2
  simp at c2
  have HH := Lib.hid H
  have hlt := blk_lt hA
  have e1 : IntKind.i64.wrap (((fs.length + 1 : Nat) : Int) - 1) = (fs.length : Int) := by rw [IntKind.wrap_i64]; omega
  have q : ((((fs.length + 1 : Nat) : Int)) == 0) = false := by rw [Bool.eq_false_iff]; simp; omega
  clear hA hF H hlen
  replace hf := Lib.hid hf
  generalize hFe : fs.length = F at *
  go_enter Try.func52, Try.ntmps52
  go_wp2
  go_ret
  subst hFe
  exact ⟨rfl, ⟨_, HH.out.bel.setCell (p := ⟨aa, 2, none⟩) HH.out.ge _, by simpa using HH.out.sz, HH.out.ge, blk_put HH.out.ha 2 _ rfl, OwnRow.set_ HH.out.hs HH.out.ha (by decide) 2 _, own_setCell HF.out (own_ne HF.out HH.out.ha (by decide)) _⟩, Fr.set HH.out.ha (.inl rfl) 2 _⟩
end Go.Proofs.Ytmhfbpdahfepgaa.Pm
/- Package arena in memory: Put. -/
namespace Go.Proofs.Ytmhfbpdahfepgaa.Pm
open Go.RowKit Go.Proofs.YtmhfbpdahfepgaaW.PrintWords
/-- Cells one behind the other are written. -/
def sets (xs : List Value) (o : Nat) : List Value → List Value
  | [] => xs
  | u :: us => sets (xs.set o u) (o + 1) us
def wsets (W : World) (g o : Nat) : List Value → World
  | [] => W
  | u :: us => wsets (W.setCell ⟨g, o, none⟩ u) g (o + 1) us
theorem sets_length : ∀ (us : List Value) (xs : List Value) (o : Nat), (sets xs o us).length = xs.length
  | [], _, _ => rfl
  | _ :: us, xs, o => by rw [sets, sets_length us, List.length_set]
theorem sets_out : ∀ (us : List Value) (xs : List Value) (o k : Nat), (k < o ∨ o + us.length ≤ k) → (sets xs o us)[k]? = xs[k]?
  | [], _, _, _, _ => rfl
  | u :: us, xs, o, k, h => by
    rw [sets, sets_out us _ _ _ (by simp at h; omega), List.getElem?_set_ne (by simp at h; omega)]
theorem sets_in : ∀ (us : List Value) (xs : List Value) (o i : Nat), i < us.length → o + us.length ≤ xs.length → (sets xs o us)[o + i]? = us[i]?
  | [], _, _, i, h, _ => absurd h (by simp)
  | u :: us, xs, o, 0, _, h => by
    rw [sets, sets_out us _ _ _ (.inl (by omega)), Nat.add_zero, List.getElem?_set_self (by simp at h; omega)]; rfl
  | u :: us, xs, o, i + 1, hi, h => by
    rw [sets, show o + (i + 1) = o + 1 + i by omega, sets_in us _ _ _ (by simpa using hi) (by rw [List.length_set]; simp at h; omega)]; rfl
theorem wsets_own {B g n c : Nat} {e : TypeId} {size : Nat} : ∀ (us : List Value) (W : World) (xs : List Value) (o : Nat), W.ownsRow B e size (.slice (some ⟨g, 0, none⟩) n c) n xs → (wsets W g o us).ownsRow B e size (.slice (some ⟨g, 0, none⟩) n c) n (sets xs o us)
  | [], _, _, _, h => h
  | u :: us, _, _, o, h => wsets_own us _ _ _ (World.ownsRow.stored h o u).1
/-- A slot is written whole. -/
theorem OwnS.put {W : World} {B g c : Nat} {ss : List (Slot N2)} (h : OwnS W B (.slice (some ⟨g, 0, none⟩) ss.length c) ss) (j : Nat) (hj : j < ss.length) (s : Slot N2) : OwnS (wsets W g (j * 9) (slotC s)) B (.slice (some ⟨g, 0, none⟩) ss.length c) (ss.set j s) := by
  obtain ⟨inner, ho, hr⟩ := h
  have hl := hr.1
  refine ⟨sets inner (j * 9) (slotC s), by rw [List.length_set]; exact wsets_own _ _ _ _ ho, by rw [sets_length, List.length_set]; exact hl, fun i p hp => ?_⟩
  have hi : i < ss.length := by
    have := (List.getElem?_eq_some_iff.mp hp).1
    rwa [List.length_set] at this
  have h9 : (slotC s).length = 9 := rfl
  have hjl : j * 9 + 9 ≤ inner.length := by rw [hl]; omega
  have hil : i * 9 + 9 ≤ inner.length := by rw [hl]; omega
  by_cases e : i = j
  · subst e
    rw [List.getElem?_set_self hi] at hp
    injection hp with hp
    subst hp
    apply List.ext_getElem?
    intro k
    rw [List.getElem?_take]
    by_cases hk : k < 9
    · rw [if_pos hk, List.getElem?_drop, sets_in _ _ _ _ (by omega) (by omega)]
    · rw [if_neg hk, List.getElem?_eq_none (by omega)]
  · rw [List.getElem?_set_ne (by omega)] at hp
    show _ = _
    rw [← (show _ = _ from hr.2 i p hp)]
    apply List.ext_getElem?
    intro k
    rw [List.getElem?_take, List.getElem?_take]
    by_cases hk : k < 9
    · rw [if_pos hk, if_pos hk, List.getElem?_drop, List.getElem?_drop, sets_out _ _ _ _ (by omega)]
    · rw [if_neg hk, if_neg hk]
theorem OwnS.slot {W : World} {B : Nat} {sv : Value} {ss : List (Slot N2)} (h : OwnS W B sv ss) (i : Nat) (hi : i < ss.length) :
    ∃ g c cs, sv = .slice (some ⟨g, 0, none⟩) ss.length c ∧ W.heap[g]? = some (.cells cs 96 (0, 0)) ∧ B ≤ g ∧ ss.length ≤ c ∧ ss.length ≤ 9223372036854775807 ∧ ∀ (j : Nat) (u : Value), (slotC ss[i])[j]? = some u → W.cell? ⟨g, i * 9 + j, none⟩ = some u := by
  obtain ⟨inner, ho, hr⟩ := id h
  obtain ⟨A, c, he, hc, hrd⟩ := OwnRow.reads h
  rcases ho.2 with ⟨_, h0⟩ | ⟨g, c', cur, he', hg, hcur, h1, h2, _⟩
  · omega
  · rw [he'] at he
    injection he with e1 e2 e3
    subst e1 e3
    refine ⟨g, c', cur, he', hcur, hg, hc, hrd.2.1, fun j u hj => ?_⟩
    obtain ⟨ad, e, hcell⟩ := hrd.2.2 (by omega)
    cases e
    obtain ⟨cs, hl, rfl, hcc⟩ := hcell i ss[i] (List.getElem?_eq_getElem hi)
    have := hcc j u hj
    rw [show (Addr.mk g 0 none).add (i * 9 + j) = ⟨g, i * 9 + j, none⟩ by unfold Addr.add; split <;> simp_all] at this
    exact this
theorem wsets_block {g k : Nat} (hk : k ≠ g) : ∀ (us : List Value) (W : World) (o : Nat), (wsets W g o us).heap[k]? = W.heap[k]?
  | [], _, _ => rfl
  | u :: us, W, o => (wsets_block hk us _ _).trans (Below.heap_setCell W ⟨g, o, none⟩ u k hk)
theorem wsets_fr {g : Nat} : ∀ (us : List Value) (W : World) (o : Nat) (cs : Array Value), W.heap[g]? = some (.cells cs 96 (0, 0)) → Fr W (wsets W g o us)
  | [], W, _, _, _ => Fr.refl W
  | u :: us, W, o, cs, h => (Fr.set h (.inr (.inl rfl)) o u).trans (wsets_fr us _ _ _ (heap_setCell_same W g o cs 96 u h))
theorem wsets_below {g B : Nat} {w0 : World} (hB : B ≤ g) : ∀ (us : List Value) (W : World) (o : Nat), Below B w0 W → Below B w0 (wsets W g o us)
  | [], _, _, h => h
  | u :: us, _, o, h => wsets_below hB us _ _ (h.setCell (p := ⟨g, o, none⟩) hB u)
theorem wsets_other {g B n size : Nat} {e : TypeId} {v : Value} {xs : List Value} (hne : some g ≠ v.ownBlock) : ∀ (us : List Value) (W : World) (o : Nat), W.ownsRow B e size v n xs → (wsets W g o us).ownsRow B e size v n xs
  | [], _, _, h => h
  | u :: us, _, o, h => wsets_other hne us _ _ (own_setCell h (p := ⟨g, o, none⟩) hne u)
theorem AtB.put {w0 W : World} {B aa g c : Nat} {fv : Value} {a : Ar N2} {cs : Array Value} (H : AtB w0 W B aa (.slice (some ⟨g, 0, none⟩) a.slots.length c) fv a) (hg : W.heap[g]? = some (.cells cs 96 (0, 0))) (hB : B ≤ g) (j : Nat) (hj : j < a.slots.length) (s : Slot N2) :
    AtB w0 (wsets W g (j * 9) (slotC s)) B aa (.slice (some ⟨g, 0, none⟩) a.slots.length c) fv ⟨a.most, a.slots.set j s, a.free⟩ :=
  ⟨wsets_below hB _ _ _ H.bel, Nat.le_trans H.sz (wsets_fr _ _ _ _ hg).size, H.ge, (wsets_block (typed_ne H.ha hg (by decide)) _ _ _).trans H.ha, OwnS.put H.hs j hj s, wsets_other (own_ne H.hf hg (by decide)) _ _ _ H.hf⟩
theorem AtB.gen0 {w0 W : World} {B aa g n c : Nat} {fv : Value} {a : Ar N2} (H : AtB w0 W B aa (.slice (some ⟨g, 0, none⟩) n c) fv a) (j : Nat) (hj : j < a.slots.length) : W.cell? ⟨g, j * 9, none⟩ = some (.int .i64 a.slots[j].gen) := by
  obtain ⟨g', c', cs', e, _, _, _, _, hcell⟩ := OwnS.slot H.hs j hj
  injection e with e
  injection e with e
  injection e with e
  subst e
  exact hcell 0 _ rfl
theorem AtB.set {w0 W : World} {B aa b : Nat} {sv fv : Value} {a : Ar N2} {cs : Array Value} {t : TypeId} (H : AtB w0 W B aa sv fv a) (hb : W.heap[b]? = some (.cells cs t (0, 0))) (h1 : t ≠ 84) (h2 : t ≠ 96) (h3 : t ≠ 3) (hB : B ≤ b) (j : Nat) (u : Value) : AtB w0 (W.setCell ⟨b, j, none⟩ u) B aa sv fv a :=
  ⟨H.bel.setCell (p := ⟨b, j, none⟩) hB u, by simpa using H.sz, H.ge, (Below.heap_setCell W ⟨b, j, none⟩ u aa (typed_ne H.ha hb (Ne.symm h1))).trans H.ha, OwnRow.set_ H.hs hb (Ne.symm h2) j u, own_setCell H.hf (own_ne H.hf hb (Ne.symm h3)) u⟩
theorem Fr.new {W V : World} (h : Fr W V) {b : Nat} (hb : W.heap.size ≤ b) (j : Nat) (u : Value) : Fr W (V.setCell ⟨b, j, none⟩ u) :=
  ⟨h.os, h.tape, h.output, by simpa using h.size, fun k cs t hc h1 h2 h3 => (Below.heap_setCell V ⟨b, j, none⟩ u k (by have := blk_lt hc; show k ≠ b; omega)).trans (h.block k cs t hc h1 h2 h3)⟩
set_option maxHeartbeats 1000000 in
theorem put_core (w0 W : World) (B aa : Nat) (sv fv : Value) (a a1 : Ar N2) (x : N2) (j : Nat) (H : AtB w0 W B aa sv fv a) (hs : Small a) (hr : a.room ≠ 0) (hjm : a1.slots.length ≤ 1048576) (hj : j < a1.slots.length) (hgen : 0 ≤ a1.slots[j].gen ∧ a1.slots[j].gen ≤ 1000000000)
    (hN : ∀ V, AtB w0 V B aa sv fv a → Calls Try.prog 52 #[.pointer (some ⟨aa, 0, none⟩)] V fun e w' => e = .returned (.int .i64 ((j : Int) + 1)) ∧ (∃ sv' fv', AtB w0 w' B aa sv' fv' a1) ∧ Fr V w') :
    Calls Try.prog 47 #[.pointer (some ⟨aa, 0, none⟩), ndV x] W fun e w' => e = .returned (.tuple #[hdV ⟨(j : Int) + 1, a1.slots[j].gen + 1⟩, .bool true]) ∧ (∃ sv' fv', AtB w0 w' B aa sv' fv' ⟨a1.most, a1.slots.set j ⟨a1.slots[j].gen + 1, true, x⟩, a1.free⟩) ∧ Fr W w' := by
  have HR := Lib.hid (fun (V : World) (hb : Below W.heap.size W V) => room_calls w0 V B aa sv fv a (H.below hb) hs)
  have HN := Lib.hid (fun (V : World) (hb : Below W.heap.size W V) => hN V (H.below hb))
  have HB := Lib.hid (Below.refl W.heap.size W)
  have hBW := H.sz
  have q : (a.room == 0) = false := by rw [Bool.eq_false_iff]; simpa using hr
  have e2 : IntKind.i64.wrap (a1.slots[j].gen + 1) = a1.slots[j].gen + 1 := by rw [IntKind.wrap_i64]; omega
  have e1 : IntKind.i64.wrap ((j : Int) + 1 - 1) = (j : Int) := by rw [IntKind.wrap_i64]; omega
  clear hs hr hN H
  generalize a.room = RM at *
  unfold ndV hdV
  go_enter Try.func47, Try.ntmps47
  go_wp2_with (first
    | (go_at_call 36; (refine Calls.mono (HR.out _ (by repeat (first | (with_reducible exact HB.out) | apply below_alloc | apply pw_below_drewN | apply below_drew1 | exact HB.out))) ?_); rintro e w1 ⟨rfl, n1, rfl⟩)
    | (go_at_call 52; (refine Calls.mono (HN.out _ (by repeat (first | (with_reducible exact HB.out) | apply below_alloc | apply pw_below_drewN | apply below_drew1 | exact HB.out))) ?_); rintro e w2 ⟨rfl, ⟨sv2, fv2, ha2⟩, hx⟩; have HX2 := Lib.hid (Fr.trans (Fr.below (W := W) (by repeat (first | (with_reducible exact HB.out) | apply below_alloc | apply pw_below_drewN | apply below_drew1 | exact HB.out))) hx); have HBX := Lib.hid (hx.block W.heap.size #[.int .i64 x.k, .int .i64 x.v, .int .i64 x.l.s, .int .i64 x.l.g, .int .i64 x.r.s, .int .i64 x.r.g, .int .i64 x.hi] 44 (by exact blk_alloc (blk_new _ _) _) (by decide) (by decide) (by decide)); have HBY := Lib.hid (hx.block (W.heap.size + 1) #[.int .i64 0, .int .i64 0] 28 (by have h := blk_new (W.alloc (.cells #[.int .i64 x.k, .int .i64 x.v, .int .i64 x.l.s, .int .i64 x.l.g, .int .i64 x.r.s, .int .i64 x.r.g, .int .i64 x.hi] 44)) (.cells #[.int .i64 0, .int .i64 0] 28); rw [World.size_alloc] at h; exact h) (by decide) (by decide) (by decide)); have x0 := blk_cell HBX.out 0; have x1 := blk_cell HBX.out 1; have x2 := blk_cell HBX.out 2; have x3 := blk_cell HBX.out 3; have x4 := blk_cell HBX.out 4; have x5 := blk_cell HBX.out 5; have x6 := blk_cell HBX.out 6; obtain ⟨g, c, cs, rfl, hg, hBg, hc, hm, hcell⟩ := OwnS.slot ha2.hs j hj; have HA2 := Lib.hid ha2; have c1 := blk_cell ha2.ha 1; simp at c1; have HG2 := Lib.hid hg; have k0 := hcell 0 _ rfl; have z0 := blk_frozen hg (j * 9 + 0); have k1 := hcell 1 _ rfl; have z1 := blk_frozen hg (j * 9 + 1); have k2 := hcell 2 _ rfl; have z2 := blk_frozen hg (j * 9 + 2); have k3 := hcell 3 _ rfl; have z3 := blk_frozen hg (j * 9 + 3); have k4 := hcell 4 _ rfl; have z4 := blk_frozen hg (j * 9 + 4); have k5 := hcell 5 _ rfl; have z5 := blk_frozen hg (j * 9 + 5); have k6 := hcell 6 _ rfl; have z6 := blk_frozen hg (j * 9 + 6); have k7 := hcell 7 _ rfl; have z7 := blk_frozen hg (j * 9 + 7); have k8 := hcell 8 _ rfl; have z8 := blk_frozen hg (j * 9 + 8); simp only [Nat.add_zero] at k0 z0; have HC2 := Lib.hid hcell; have n1 := typed_ne hg HBX.out (by decide); have n2 := Ne.symm n1; have n3 := typed_ne hg HBY.out (by decide); have n4 := Ne.symm n3; have y0 := blk_cell HBY.out 0; have y1 := blk_cell HBY.out 1; have v0 := blk_frozen HBY.out 0; have v1 := blk_frozen HBY.out 1; clear hx ha2 hg hcell)
    | (fail "no arm"))
  go_region
  change Exit.then _ _ _ _ (World.drew (wsets w2 g (j * 9) (slotC ⟨a1.slots[j].gen + 1, true, x⟩)))
  have H5 := Lib.hid ((AtB.put HA2.out HG2.out hBg j hj ⟨a1.slots[j].gen + 1, true, x⟩).below (below_drew1 (Below.refl _ _)))
  have F5 := Lib.hid (HX2.out.trans ((wsets_fr (slotC ⟨a1.slots[j].gen + 1, true, x⟩) _ (j * 9) _ HG2.out).trans (Fr.below (below_drew1 (Below.refl _ _)))))
  have d0 := AtB.gen0 H5.out j (by rw [List.length_set]; exact hj)
  simp only [List.getElem_set_self] at d0
  have d1 := ((wsets_block (Ne.symm n3) (slotC ⟨a1.slots[j].gen + 1, true, x⟩) w2 (j * 9)).trans HBY.out)
  have HY5 := Lib.hid (blk_drew d1)
  clear d1
  clear k0 k1 k2 k3 k4 k5 k6 k7 k8 z0 z1 z2 z3 z4 z5 z6 z7 z8 x0 x1 x2 x3 x4 x5 x6 y0 y1 v0 v1 c1
  generalize (World.drew (wsets w2 g (j * 9) (slotC ⟨a1.slots[j].gen + 1, true, x⟩))) = w5 at *
  have y0 := blk_cell HY5.out 0
  have y1 := blk_cell HY5.out 1
  have v0 := blk_frozen HY5.out 0
  have v1 := blk_frozen HY5.out 1
  go_wp2
  have hy0 := blk_put HY5.out 0 (.int .i64 ((j : Int) + 1)) rfl
  refine (show ∀ V : World, (V.heap[W.heap.size + 1]? = some (.cells #[.int .i64 ((j : Int) + 1), .int .i64 (a1.slots[j].gen + 1)] 28 (0, 0)) ∧ AtB w0 V B aa (.slice (some ⟨g, 0, none⟩) a1.slots.length c) fv2 ⟨a1.most, a1.slots.set j ⟨a1.slots[j].gen + 1, true, x⟩, a1.free⟩ ∧ Fr W V) → bodyPost _ _ _ _ _ V from fun V h => ?_) _ ⟨blk_put hy0 1 (.int .i64 (a1.slots[j].gen + 1)) rfl, AtB.set (AtB.set H5.out HY5.out (by decide) (by decide) (by decide) (by omega) 0 (.int .i64 ((j : Int) + 1))) hy0 (by decide) (by decide) (by decide) (by omega) 1 (.int .i64 (a1.slots[j].gen + 1)), Fr.new (Fr.new F5.out (by omega) 0 _) (by omega) 1 _⟩
  obtain ⟨hG, hA5, hF5⟩ := h
  have q0 : V.cell? ⟨W.heap.size + 1, 0, none⟩ = some (.int .i64 ((j : Int) + 1)) := blk_cell hG 0
  have q1 : V.cell? ⟨W.heap.size + 1, 1, none⟩ = some (.int .i64 (a1.slots[j].gen + 1)) := blk_cell hG 1
  have HA5 := Lib.hid hA5
  have HF5 := Lib.hid hF5
  clear hG hA5 hF5
  refine bodyPost_ret (by simp [results, Try.results47, go_sem, q0, q1]; try rfl) rfl ?_
  exact ⟨rfl, ⟨_, _, HA5.out⟩, HF5.out⟩
end Go.Proofs.Ytmhfbpdahfepgaa.Pm
/- Package arena: Put, as the plain arena's put; what holds of an arena. -/
namespace Go.Proofs.Ytmhfbpdahfepgaa.Pm
open Go.RowKit Go.Proofs.YtmhfbpdahfepgaaW.PrintWords
/-- What holds of an arena whose slots were used G times at most. -/
structure ArOk (G : Nat) (a : Ar N2) : Prop where
  small : Small a
  free : ∀ i ∈ a.free, 1 ≤ i ∧ i ≤ a.slots.length ∧ ((a.slots.getD (i - 1).toNat ⟨0, false, nd0⟩).used = false)
  nodup : a.free.Nodup
  gen : ∀ s ∈ a.slots, 0 ≤ s.gen ∧ s.gen ≤ G
theorem put_free_nil {a : Ar N2} {x : N2} (h : a.free = []) : a.put nd0 x = (⟨a.most, a.slots ++ [⟨1, true, x⟩], a.free⟩, ⟨a.slots.length + 1, 1⟩) := by unfold Ar.put; rw [h]; rfl
theorem put_free_snoc {a : Ar N2} {x : N2} {fs : List Int} {i : Int} (h : a.free = fs ++ [i]) : a.put nd0 x = (⟨a.most, a.slots.set (i - 1).toNat ⟨(a.slots.getD (i - 1).toNat ⟨0, false, nd0⟩).gen + 1, true, x⟩, fs⟩, ⟨i, (a.slots.getD (i - 1).toNat ⟨0, false, nd0⟩).gen + 1⟩) := by
  unfold Ar.put
  rw [h, List.getLast?_append, List.dropLast_concat]
  rfl
theorem arput_calls (w0 W : World) (B aa : Nat) (sv fv : Value) (a : Ar N2) (x : N2) (G : Nat) (H : AtB w0 W B aa sv fv a) (hG : G ≤ 1000000) (ok : ArOk G a) (hr : 0 < a.room) :
    Calls Try.prog 47 #[.pointer (some ⟨aa, 0, none⟩), ndV x] W fun e w' => e = .returned (.tuple #[hdV (a.put nd0 x).2, .bool true]) ∧ (∃ sv' fv', AtB w0 w' B aa sv' fv' (a.put nd0 x).1) ∧ Fr W w' := by
  have h1 := ok.small.most
  have h2 := ok.small.slots
  rcases List.eq_nil_or_concat a.free with hf | ⟨fs, i, hf⟩
  · rw [put_free_nil hf]
    have hl : a.slots.length < a.most := by
      have : a.room = (a.most : Int) - a.slots.length + a.free.length := rfl
      rw [hf] at this
      simp at this
      omega
    have hlen : (a.slots ++ [(⟨0, false, nd0⟩ : Slot N2)]).length = a.slots.length + 1 := by rw [List.length_append]; rfl
    have hj : a.slots.length < (a.slots ++ [(⟨0, false, nd0⟩ : Slot N2)]).length := by omega
    have hg : (a.slots ++ [(⟨0, false, nd0⟩ : Slot N2)])[a.slots.length] = ⟨0, false, nd0⟩ := by simp
    have K := put_core w0 W B aa sv fv a ⟨a.most, a.slots ++ [⟨0, false, nd0⟩], a.free⟩ x a.slots.length H ok.small (by omega) (by show (a.slots ++ [(⟨0, false, nd0⟩ : Slot N2)]).length ≤ _; omega) hj
      (by show 0 ≤ ((a.slots ++ [(⟨0, false, nd0⟩ : Slot N2)])[a.slots.length]).gen ∧ ((a.slots ++ [(⟨0, false, nd0⟩ : Slot N2)])[a.slots.length]).gen ≤ _; rw [hg]; decide)
      (fun V hV => (next_new w0 V B aa sv fv a hV ok.small hf hl).mono fun _ _ ⟨e1, ⟨sv', e2⟩, e3⟩ => ⟨e1, ⟨sv', fv, e2⟩, e3⟩)
    dsimp only at K
    rw [hg, List.set_append_right _ _ (Nat.le_refl _), Nat.sub_self] at K
    exact K
  · rw [List.concat_eq_append] at hf
    rw [put_free_snoc hf]
    obtain ⟨i1, i2, _⟩ := ok.free i (by rw [hf]; simp)
    obtain ⟨j, rfl⟩ : ∃ j : Nat, i = (j : Int) + 1 := ⟨(i - 1).toNat, by omega⟩
    have hj : j < a.slots.length := by omega
    have hjj : ((j : Int) + 1 - 1).toNat = j := by omega
    have hd : a.slots.getD j ⟨0, false, nd0⟩ = a.slots[j] := by simp [List.getD, hj]
    have hgj := ok.gen a.slots[j] (List.getElem_mem hj)
    rw [hjj, hd]
    exact put_core w0 W B aa sv fv a ⟨a.most, a.slots, fs⟩ x j H ok.small (by omega) (by show a.slots.length ≤ _; omega) hj (by show 0 ≤ a.slots[j].gen ∧ a.slots[j].gen ≤ _; omega)
      (fun V hV => (next_old w0 V B aa sv fv a fs _ hV ok.small hf).mono fun _ _ ⟨e1, ⟨fv', e2⟩, e3⟩ => ⟨e1, ⟨sv, fv', e2⟩, e3⟩)
theorem put_room {a : Ar N2} {x : N2} : (a.put nd0 x).1.room = a.room - 1 := by
  rcases List.eq_nil_or_concat a.free with hf | ⟨fs, i, hf⟩
  · rw [put_free_nil hf]; simp [Ar.room]; omega
  · rw [List.concat_eq_append] at hf
    rw [put_free_snoc hf]; simp [Ar.room, hf]; omega
theorem put_ok {G : Nat} {a : Ar N2} {x : N2} (ok : ArOk G a) (hr : 0 < a.room) : ArOk (G + 1) (a.put nd0 x).1 := by
  have h1 := ok.small.most
  have h2 := ok.small.slots
  have h3 := ok.small.free
  rcases List.eq_nil_or_concat a.free with hf | ⟨fs, i, hf⟩
  · have hl : a.slots.length < a.most := by
      have : a.room = (a.most : Int) - a.slots.length + a.free.length := rfl
      rw [hf] at this
      simp at this
      omega
    rw [put_free_nil hf]
    refine ⟨⟨h1, by simp; omega, by simp [hf]⟩, by simp [hf], by simp [hf], fun s hs => ?_⟩
    simp only [List.mem_append, List.mem_singleton] at hs
    rcases hs with hs | rfl
    · have := ok.gen s hs; omega
    · exact ⟨by show (0 : Int) ≤ 1; decide, by show (1 : Int) ≤ ((G + 1 : Nat) : Int); omega⟩
  · rw [List.concat_eq_append] at hf
    obtain ⟨i1, i2, _⟩ := ok.free i (by rw [hf]; simp)
    have hn := ok.nodup
    rw [hf] at hn h3
    rw [List.length_append] at h3
    rw [put_free_snoc hf]
    refine ⟨⟨h1, by simpa using h2, by simp at h3 ⊢; omega⟩, fun k hk => ?_, (List.nodup_append.mp hn).1, fun s hs => ?_⟩
    · obtain ⟨k1, k2, k3⟩ := ok.free k (by rw [hf]; simp [hk])
      have hne : k ≠ i := (List.nodup_append.mp hn).2.2 k hk i (by simp)
      refine ⟨k1, by simpa using k2, ?_⟩
      show ((a.slots.set (i - 1).toNat _).getD (k - 1).toNat _).used = false
      rw [List.getD_eq_getElem?_getD, List.getElem?_set_ne (by omega), ← List.getD_eq_getElem?_getD]
      exact k3
    · rcases List.mem_or_eq_of_mem_set hs with hs | rfl
      · have := ok.gen s hs; omega
      · have hj : (i - 1).toNat < a.slots.length := by omega
        have hd : a.slots.getD (i - 1).toNat ⟨0, false, nd0⟩ = a.slots[(i - 1).toNat] := by rw [List.getD_eq_getElem?_getD, List.getElem?_eq_getElem hj]; rfl
        have := ok.gen _ (List.getElem_mem hj)
        dsimp only
        rw [hd]; omega
end Go.Proofs.Ytmhfbpdahfepgaa.Pm
