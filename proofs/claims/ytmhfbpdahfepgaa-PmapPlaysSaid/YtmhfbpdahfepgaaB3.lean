/-
  Package pmap's fromRight; balance; Package pmap's put; Package pmap's least
-/
import Derived.Test.YtmhfbpdahfepgaaB2
/- Package pmap's fromRight; balance. -/
namespace Go.Proofs.Ytmhfbpdahfepgaa.Pm
open Go.RowKit Go.Proofs.YtmhfbpdahfepgaaW.PrintWords
set_option maxHeartbeats 4000000 in
theorem fromR_one (w0 W : World) (m : Nat) (a : Ar N2) (eb bo br : Nat) (pl : Option Nat) (g : List Hd) (oh : Hd) (ok ov : Int) (ol or' : T2) (ohi : Int) (rh : Hd) (rk rv : Int) (rl rr : T2) (rhi : Int) (l : T2) (KT : Kit w0 eb m a) (HS : St w0 W eb m g) (ho : OpenAt w0.heap.size W a bo oh ok ov ol or' ohi) (hr : OpenAt w0.heap.size W a br rh rk rv rl rr rhi) (hl : Den w0.heap.size W a pl l) (hg : g.length + 3 ≤ 1000000)
    (h1 : 0 ≤ rl.hi ∧ rl.hi ≤ 100000) (h2 : 0 ≤ rr.hi ∧ rr.hi ≤ 100000) (h3 : 0 ≤ l.hi ∧ l.hi ≤ 100000) (hc : rl.hi ≤ rr.hi) :
    Calls Try.prog 50 #[.pointer (some ⟨eb, 0, none⟩), .pointer (some ⟨bo, 0, none⟩), .pointer (pl.map fun b => ⟨b, 0, none⟩), .pointer (some ⟨br, 0, none⟩)] W fun e w' => (∃ b', e = .returned (.pointer (some ⟨b', 0, none⟩)) ∧ OpenT w0.heap.size w' a b' (mk rk rv (mk ok ov l rl) rr)) ∧ Ext w0.heap.size a W w' ∧ St w0 w' eb m (g ++ (gh oh ++ gh rh)) := by
  obtain ⟨hB, ql, qr, hb, hql, hqr⟩ := hr
  have c5 := oc5 hb
  have c6 := oc6 hb
  have HB0 := Lib.hid hb
  have HO0 := Lib.hid ho
  have HL0 := Lib.hid hql
  have HR0 := Lib.hid hqr
  have HP0 := Lib.hid hl
  have HS0 := Lib.hid HS
  have HK := Lib.hid KT
  have hdx := Lib.hid (Ext.drew w0.heap.size a W)
  have hgl : (gh oh).length ≤ 1 := by unfold gh; split <;> simp
  have hmx := mx_le l.hi rl.hi
  have HHB := Lib.hid (show 0 ≤ (mk ok ov l rl).hi ∧ (mk ok ov l rl).hi ≤ 1000000 ∧ 0 ≤ rr.hi ∧ rr.hi ≤ 1000000 by rw [show (mk ok ov l rl).hi = 1 + mx l.hi rl.hi from rfl]; omega)
  have hge : (rl.hi : Int) ≤ rr.hi := hc
  clear hb ho hql hqr hl HS KT hmx
  go_enter Try.func50, Try.ntmps50
  go_wp2
  go_region_held3 (fun V => V.cell? ⟨br, 5, none⟩ = some (.pointer (ql.map fun b => ⟨b, 0, none⟩)) ∧ V.cell? ⟨br, 6, none⟩ = some (.pointer (qr.map fun b => ⟨b, 0, none⟩))) (first | exact ⟨c5, c6⟩ | exact ⟨d5, d6⟩ | exact ⟨e5, e6⟩) (first
    | (go_at_call 48; ((with_reducible refine Calls.mono (HK.out.high _ _ _ _ HS0.out.drew (hdx.out.den _ _ HR0.out)) ?_); rintro e w1 ⟨rfl, hx, hs⟩; have HX1 := Lib.hid (hdx.out.trans hx); have HS1 := Lib.hid hs; have HB1 := Lib.hid (HX1.out.opn _ _ _ _ _ _ _ HB0.out); have d5 := oc5 HB1.out; have d6 := oc6 HB1.out; clear hx hs))
    | (go_at_call 48; go_loud ((with_reducible refine Calls.mono (HK.out.high _ _ _ _ HS1.out (HX1.out.den _ _ HL0.out)) ?_); rintro e w2 ⟨rfl, hx, hs⟩; have HX2 := Lib.hid (HX1.out.trans hx); have HS2 := Lib.hid hs; have HB2 := Lib.hid (HX2.out.opn _ _ _ _ _ _ _ HB0.out); have e5 := oc5 HB2.out; have e6 := oc6 HB2.out; clear hx hs))
    | (fail "no arm"))
  go_wp2
  have HX2d := Lib.hid (HX2.out.trans (Ext.drew w0.heap.size a w2))
  go_region_held3 (fun V => V.cell? ⟨br, 5, none⟩ = some (.pointer (ql.map fun b => ⟨b, 0, none⟩)) ∧ V.cell? ⟨br, 6, none⟩ = some (.pointer (qr.map fun b => ⟨b, 0, none⟩))) (first | exact ⟨e5, e6⟩ | exact ⟨i5, i6⟩ | exact ⟨j5, j6⟩) (first
    | (go_at_call 51; ((with_reducible refine Calls.mono (HK.out.node _ bo pl ql _ oh ok ov ol or' l rl ohi HS2.out.drew (HX2d.out.openAt HO0.out) (HX2d.out.den _ _ HP0.out) (HX2d.out.den _ _ HL0.out) (by omega) ⟨h3.1, by omega, h1.1, by omega⟩) ?_); rintro e w3 ⟨⟨b3, rfl, ho3⟩, hx, hs⟩; have HX3 := Lib.hid (HX2d.out.trans hx); have HS3 := Lib.hid hs; have HO3 := Lib.hid ho3; have HB3 := Lib.hid (HX3.out.opn _ _ _ _ _ _ _ HB0.out); have i5 := oc5 HB3.out; have i6 := oc6 HB3.out; clear hx hs ho3))
    | (go_at_call 51; go_loud ((refine Calls.mono (HK.out.node _ br (some b3) qr _ rh rk rv rl rr (mk ok ov l rl) rr rhi HS3.out ⟨hB, ql, qr, HB3.out, HX3.out.den _ _ HL0.out, HX3.out.den _ _ HR0.out⟩ HO3.out.den (HX3.out.den _ _ HR0.out) (by rw [List.length_append]; omega) HHB.out) ?_); rintro e w4 ⟨⟨b4, rfl, ho4⟩, hx, hs⟩; have HX4 := Lib.hid (HX3.out.trans hx); have HS4 := Lib.hid hs; have HO4 := Lib.hid ho4; have HB4 := Lib.hid (HX4.out.opn _ _ _ _ _ _ _ HB0.out); have j5 := oc5 HB4.out; have j6 := oc6 HB4.out; clear hx hs ho4))
    | (fail "no arm"))
  go_wp2
  all_goals
    go_ret
    exact ⟨⟨b4, rfl, HO4.out⟩, HX4.out, by rw [← List.append_assoc]; exact HS4.out⟩
set_option maxHeartbeats 4000000 in
theorem fromR_two (w0 W : World) (m : Nat) (a : Ar N2) (eb bo br : Nat) (pl : Option Nat) (g : List Hd) (oh : Hd) (ok ov : Int) (ol or' : T2) (ohi : Int) (rh : Hd) (rk rv : Int) (rr : T2) (mh : Hd) (mk1 mv : Int) (ml mr : T2) (mhi : Int) (rhi : Int) (l : T2) (KT : Kit w0 eb m a) (HS : St w0 W eb m g) (ho : OpenAt w0.heap.size W a bo oh ok ov ol or' ohi) (hr : OpenAt w0.heap.size W a br rh rk rv (.node mh mk1 mv ml mr mhi) rr rhi) (hl : Den w0.heap.size W a pl l) (hg : g.length + 3 ≤ 1000000)
    (h1 : 0 ≤ rr.hi ∧ rr.hi ≤ 100000) (h2 : 0 ≤ ml.hi ∧ ml.hi ≤ 100000) (h4 : 0 ≤ mr.hi ∧ mr.hi ≤ 100000) (h3 : 0 ≤ l.hi ∧ l.hi ≤ 100000) (hc : ¬ mhi ≤ rr.hi) :
    Calls Try.prog 50 #[.pointer (some ⟨eb, 0, none⟩), .pointer (some ⟨bo, 0, none⟩), .pointer (pl.map fun b => ⟨b, 0, none⟩), .pointer (some ⟨br, 0, none⟩)] W fun e w' => (∃ b', e = .returned (.pointer (some ⟨b', 0, none⟩)) ∧ OpenT w0.heap.size w' a b' (mk mk1 mv (mk ok ov l ml) (mk rk rv mr rr))) ∧ Ext w0.heap.size a W w' ∧ St w0 w' eb m (g ++ (gh oh ++ gh rh ++ gh mh)) := by
  obtain ⟨hB, ql, qr, hb, hql, hqr⟩ := hr
  have c5 := oc5 hb
  have c6 := oc6 hb
  obtain ⟨bm, rfl, hqr'⟩ := id hql
  clear hqr'
  have HB0 := Lib.hid hb
  have HO0 := Lib.hid ho
  have HL0 := Lib.hid hql
  have HR0 := Lib.hid hqr
  have HP0 := Lib.hid hl
  have HS0 := Lib.hid HS
  have HK := Lib.hid KT
  have hdx := Lib.hid (Ext.drew w0.heap.size a W)
  have hgl : (gh oh).length ≤ 1 := by unfold gh; split <;> simp
  have hgl2 : (gh rh).length ≤ 1 := by unfold gh; split <;> simp
  have hmx := mx_le l.hi ml.hi
  have hmx2 := mx_le mr.hi rr.hi
  have HHB := Lib.hid (show 0 ≤ (mk ok ov l ml).hi ∧ (mk ok ov l ml).hi ≤ 1000000 ∧ 0 ≤ (mk rk rv mr rr).hi ∧ (mk rk rv mr rr).hi ≤ 1000000 by rw [show (mk ok ov l ml).hi = 1 + mx l.hi ml.hi from rfl, show (mk rk rv mr rr).hi = 1 + mx mr.hi rr.hi from rfl]; omega)
  have hge : ¬ (mhi : Int) ≤ rr.hi := hc
  have hmh : (T.node mh mk1 mv ml mr mhi).hi = mhi := rfl
  have hhigh := fun (V : World) (g : List Hd) (hs : St w0 V eb m g) (hd : Den w0.heap.size V a (some bm) (.node mh mk1 mv ml mr mhi)) => KT.high V g (some bm) _ hs hd
  rw [hmh] at hhigh
  simp only [Option.map_some] at hhigh c5
  have HH := Lib.hid hhigh
  clear hb ho hql hqr hl HS KT hmx hmx2 hhigh hmh
  go_enter Try.func50, Try.ntmps50
  go_wp2
  go_region_held3 (fun V => V.cell? ⟨br, 5, none⟩ = some (.pointer (some ⟨bm, 0, none⟩)) ∧ V.cell? ⟨br, 6, none⟩ = some (.pointer (qr.map fun b => ⟨b, 0, none⟩))) (first | exact ⟨c5, c6⟩ | exact ⟨d5, d6⟩ | exact ⟨e5, e6⟩) (first
    | (go_at_call 48; ((with_reducible refine Calls.mono (HK.out.high _ _ _ _ HS0.out.drew (hdx.out.den _ _ HR0.out)) ?_); rintro e w1 ⟨rfl, hx, hs⟩; have HX1 := Lib.hid (hdx.out.trans hx); have HS1 := Lib.hid hs; have HB1 := Lib.hid (HX1.out.opn _ _ _ _ _ _ _ HB0.out); have d5 : w1.cell? ⟨br, 5, none⟩ = some (.pointer (some ⟨bm, 0, none⟩)) := oc5 HB1.out; have d6 := oc6 HB1.out; clear hx hs))
    | (go_at_call 48; go_loud ((with_reducible refine Calls.mono (HH.out _ _ HS1.out (HX1.out.den _ _ HL0.out)) ?_); rintro e w2 ⟨rfl, hx, hs⟩; have HX2 := Lib.hid (HX1.out.trans hx); have HS2 := Lib.hid hs; have HB2 := Lib.hid (HX2.out.opn _ _ _ _ _ _ _ HB0.out); have e5 : w2.cell? ⟨br, 5, none⟩ = some (.pointer (some ⟨bm, 0, none⟩)) := oc5 HB2.out; have e6 := oc6 HB2.out; clear hx hs))
    | (fail "no arm"))
  go_wp2_with (first
    | (go_at_call 42; ((with_reducible refine Calls.mono (HK.out.opened _ _ _ _ _ _ _ _ _ HS2.out (HX2.out.den _ _ HL0.out)) ?_); rintro e w3 ⟨rfl, ho3, hx, hs⟩; have HX3 := Lib.hid (HX2.out.trans hx); have HS3 := Lib.hid hs; have HM3 := Lib.hid ho3; obtain ⟨hBm, qml, qmr, hbm, hdml, hdmr⟩ := ho3; have HBM := Lib.hid hbm; have HML := Lib.hid hdml; have HMR := Lib.hid hdmr; have HB3 := Lib.hid (HX3.out.opn _ _ _ _ _ _ _ HB0.out); have f5 := oc6 HB3.out; have m5 := oc5 HBM.out; have m6 := oc6 HBM.out; clear hx hs hbm hdml hdmr))
    | (fail "no arm"))
  have HD3 := Lib.hid (Ext.drew w0.heap.size a w3)
  have HX3d := Lib.hid (HX3.out.trans (Ext.drew w0.heap.size a w3))
  go_region_held3 (fun V => V.cell? ⟨br, 6, none⟩ = some (.pointer (qr.map fun b => ⟨b, 0, none⟩)) ∧ V.cell? ⟨bm, 5, none⟩ = some (.pointer (qml.map fun b => ⟨b, 0, none⟩)) ∧ V.cell? ⟨bm, 6, none⟩ = some (.pointer (qmr.map fun b => ⟨b, 0, none⟩))) (first | exact ⟨f5, m5, m6⟩ | exact ⟨g5, g6, g7⟩ | exact ⟨i5, i6, i7⟩ | exact ⟨j5, j6, j7⟩) (first
    | (go_at_call 51; ((with_reducible refine Calls.mono (HK.out.node _ bo pl qml _ oh ok ov ol or' l ml ohi HS3.out.drew (HX3d.out.openAt HO0.out) (HX3d.out.den _ _ HP0.out) (HD3.out.den _ _ HML.out) (by omega) ⟨h3.1, by omega, h2.1, by omega⟩) ?_); rintro e w4 ⟨⟨b4, rfl, ho4⟩, hx, hs⟩; have HY4 := Lib.hid (HD3.out.trans hx); have HX4 := Lib.hid (HX3.out.trans HY4.out); have HS4 := Lib.hid hs; have HO4 := Lib.hid ho4; have HB4 := Lib.hid (HX4.out.opn _ _ _ _ _ _ _ HB0.out); have HC4 := Lib.hid (HY4.out.opn _ _ _ _ _ _ _ HBM.out); have HOL4 := Lib.hid (show OpenAt w0.heap.size w4 a br rh rk rv (.node mh mk1 mv ml mr mhi) rr rhi from ⟨hB, some bm, qr, HB4.out, HX4.out.den _ _ HL0.out, HX4.out.den _ _ HR0.out⟩); have g5 := oc6 HB4.out; have g6 := oc5 HC4.out; have g7 := oc6 HC4.out; clear hx hs ho4))
    | (go_at_call 51; ((with_reducible refine Calls.mono (HK.out.node _ br qmr qr _ rh rk rv (.node mh mk1 mv ml mr mhi) rr mr rr rhi HS4.out HOL4.out (HY4.out.den _ _ HMR.out) (HX4.out.den _ _ HR0.out) (by rw [List.length_append]; omega) ⟨h4.1, by omega, h1.1, by omega⟩) ?_); rintro e w5 ⟨⟨b5, rfl, ho5⟩, hx, hs⟩; have HY5 := Lib.hid (HY4.out.trans hx); have HX5 := Lib.hid (HX4.out.trans hx); have HS5 := Lib.hid hs; have HO5 := Lib.hid ho5; have HO45 := Lib.hid (hx.openAt HO4.out); have HB5 := Lib.hid (HX5.out.opn _ _ _ _ _ _ _ HB0.out); have HC5 := Lib.hid (HY5.out.opn _ _ _ _ _ _ _ HBM.out); have i5 := oc6 HB5.out; have i6 := oc5 HC5.out; have i7 := oc6 HC5.out; clear hx hs ho5))
    | (go_at_call 51; go_loud ((refine Calls.mono (HK.out.node _ bm (some b4) (some b5) _ mh mk1 mv ml mr (mk ok ov l ml) (mk rk rv mr rr) mhi HS5.out (HY5.out.openAt HM3.out) HO45.out.den HO5.out.den (by rw [List.length_append, List.length_append]; omega) HHB.out) ?_); rintro e w6 ⟨⟨b6, rfl, ho6⟩, hx, hs⟩; have HX6 := Lib.hid (HX5.out.trans hx); have HY6 := Lib.hid (HY5.out.trans hx); have HS6 := Lib.hid hs; have HO6 := Lib.hid ho6; have HB6 := Lib.hid (HX6.out.opn _ _ _ _ _ _ _ HB0.out); have HC6 := Lib.hid (HY6.out.opn _ _ _ _ _ _ _ HBM.out); have j5 := oc6 HB6.out; have j6 := oc5 HC6.out; have j7 := oc6 HC6.out; clear hx hs ho6))
    | (fail "no arm"))
  go_wp2
  all_goals
    go_ret
    exact ⟨⟨b6, rfl, HO6.out⟩, HX6.out, by simpa only [List.append_assoc] using HS6.out⟩
theorem bal_l {oh : Hd} {ok ov : Int} {lh : Hd} {lk lv : Int} {ll lr : T2} {lhi : Int} {r : T2} (hd : 1 < lhi - r.hi) (hc : lr.hi ≤ ll.hi) : bal oh ok ov (.node lh lk lv ll lr lhi) r = (mk lk lv ll (mk ok ov lr r), gh oh ++ gh lh) := by
  unfold bal
  rw [if_pos (show 1 < (T.node lh lk lv ll lr lhi).hi - r.hi from hd)]
  simp only [fromL, hc, if_true]
theorem bal_ll {oh : Hd} {ok ov : Int} {lh : Hd} {lk lv : Int} {ll : T2} {mh : Hd} {mk1 mv : Int} {ml mr : T2} {mhi lhi : Int} {r : T2} (hd : 1 < lhi - r.hi) (hc : ¬ mhi ≤ ll.hi) : bal oh ok ov (.node lh lk lv ll (.node mh mk1 mv ml mr mhi) lhi) r = (mk mk1 mv (mk lk lv ll ml) (mk ok ov mr r), gh lh ++ gh oh ++ gh mh) := by
  unfold bal
  rw [if_pos (show 1 < (T.node lh lk lv ll (.node mh mk1 mv ml mr mhi) lhi).hi - r.hi from hd)]
  exact if_neg (c := mhi ≤ ll.hi) hc
theorem bal_r {oh : Hd} {ok ov : Int} {rh : Hd} {rk rv : Int} {rl rr : T2} {rhi : Int} {l : T2} (hd : l.hi - rhi < -1) (hc : rl.hi ≤ rr.hi) : bal oh ok ov l (.node rh rk rv rl rr rhi) = (mk rk rv (mk ok ov l rl) rr, gh oh ++ gh rh) := by
  unfold bal
  rw [if_neg (show ¬ 1 < l.hi - (T.node rh rk rv rl rr rhi).hi by show ¬ 1 < l.hi - rhi; omega), if_pos (show l.hi - (T.node rh rk rv rl rr rhi).hi < -1 from hd)]
  simp only [fromR, hc, if_true]
theorem bal_rr {oh : Hd} {ok ov : Int} {rh : Hd} {rk rv : Int} {rr : T2} {mh : Hd} {mk1 mv : Int} {ml mr : T2} {mhi rhi : Int} {l : T2} (hd : l.hi - rhi < -1) (hc : ¬ mhi ≤ rr.hi) : bal oh ok ov l (.node rh rk rv (.node mh mk1 mv ml mr mhi) rr rhi) = (mk mk1 mv (mk ok ov l ml) (mk rk rv mr rr), gh oh ++ gh rh ++ gh mh) := by
  unfold bal
  rw [if_neg (show ¬ 1 < l.hi - (T.node rh rk rv (.node mh mk1 mv ml mr mhi) rr rhi).hi by show ¬ 1 < l.hi - rhi; omega), if_pos (show l.hi - (T.node rh rk rv (.node mh mk1 mv ml mr mhi) rr rhi).hi < -1 from hd)]
  exact if_neg (c := mhi ≤ rr.hi) hc
theorem bal_m {oh : Hd} {ok ov : Int} {l r : T2} (h1 : ¬ 1 < l.hi - r.hi) (h2 : ¬ l.hi - r.hi < -1) : bal oh ok ov l r = (mk ok ov l r, gh oh) := by
  unfold bal
  rw [if_neg h1, if_neg h2]
/-- Heights of a tree that stands, and of its sides. -/
theorem avl_sides {h : Hd} {k v : Int} {l r : T2} {hi : Int} (a : Avl (.node h k v l r hi)) : 0 ≤ l.hi ∧ l.hi ≤ hi ∧ 0 ≤ r.hi ∧ r.hi ≤ hi := by
  have h1 := Avl.nonneg a.2.2.2.1
  have h2 := Avl.nonneg a.2.2.2.2
  have h3 := mx_le l.hi r.hi
  have h4 := a.1
  omega
set_option maxHeartbeats 4000000 in
theorem balance_l (w0 W : World) (m : Nat) (a : Ar N2) (eb bo bl : Nat) (pr : Option Nat) (g : List Hd) (oh : Hd) (ok ov : Int) (ol or' : T2) (ohi : Int) (lh : Hd) (lk lv : Int) (ll lr : T2) (lhi : Int) (l r : T2) (he : l = .node lh lk lv ll lr lhi) (KT : Kit w0 eb m a) (HS : St w0 W eb m g) (ho : OpenAt w0.heap.size W a bo oh ok ov ol or' ohi) (hl : Den w0.heap.size W a (some bl) (.node lh lk lv ll lr lhi)) (hr : Den w0.heap.size W a pr r) (hg : g.length + 3 ≤ 1000000)
    (al : Avl (.node lh lk lv ll lr lhi)) (ar : Avl r) (hl1 : lhi ≤ 100000) (hr1 : r.hi ≤ 100000) (hd : 1 < lhi - r.hi) :
    Calls Try.prog 43 #[.pointer (some ⟨eb, 0, none⟩), .pointer (some ⟨bo, 0, none⟩), .pointer (some ⟨bl, 0, none⟩), .pointer (pr.map fun b => ⟨b, 0, none⟩)] W fun e w' => (∃ b', e = .returned (.pointer (some ⟨b', 0, none⟩)) ∧ OpenT w0.heap.size w' a b' (bal oh ok ov l r).1) ∧ Ext w0.heap.size a W w' ∧ St w0 w' eb m (g ++ (bal oh ok ov l r).2) := by
  obtain ⟨s1, s2, s3, s4⟩ := avl_sides al
  have s5 := al.nonneg
  have s6 := ar.nonneg
  have HFL : ∀ V, St w0 V eb m g → OpenAt w0.heap.size V a bo oh ok ov ol or' ohi → OpenAt w0.heap.size V a bl lh lk lv ll lr lhi → Den w0.heap.size V a pr r → Calls Try.prog 49 #[.pointer (some ⟨eb, 0, none⟩), .pointer (some ⟨bo, 0, none⟩), .pointer (some ⟨bl, 0, none⟩), .pointer (pr.map fun b => ⟨b, 0, none⟩)] V fun e w' => (∃ b', e = .returned (.pointer (some ⟨b', 0, none⟩)) ∧ OpenT w0.heap.size w' a b' (bal oh ok ov l r).1) ∧ Ext w0.heap.size a V w' ∧ St w0 w' eb m (g ++ (bal oh ok ov l r).2) := by
    intro V h1 h2 h3 h4
    subst he
    by_cases hc : lr.hi ≤ ll.hi
    · rw [bal_l hd hc]
      exact fromL_one w0 V m a eb bo bl pr g oh ok ov ol or' ohi lh lk lv ll lr lhi r KT h1 h2 h3 h4 hg ⟨s1, by omega⟩ ⟨s3, by omega⟩ ⟨s6, by omega⟩ hc
    · cases lr with
      | leaf => exact absurd (show (0 : Int) ≤ ll.hi from s1) hc
      | node mh mk1 mv ml mr mhi =>
        obtain ⟨t1, t2, t3, t4⟩ := avl_sides al.2.2.2.2
        have hc' : ¬ mhi ≤ ll.hi := hc
        have s4' : mhi ≤ lhi := s4
        rw [bal_ll hd hc']
        exact fromL_two w0 V m a eb bo bl pr g oh ok ov ol or' ohi lh lk lv ll mh mk1 mv ml mr mhi lhi r KT h1 h2 h3 h4 hg ⟨s1, by omega⟩ ⟨t1, by omega⟩ ⟨t3, by omega⟩ ⟨s6, by omega⟩ hc'
  have HF := Lib.hid HFL
  have HK := Lib.hid KT
  have HS0 := Lib.hid HS
  have HO0 := Lib.hid ho
  have HL0 := Lib.hid hl
  have HR0 := Lib.hid hr
  have q1 : decide (1 < lhi - r.hi) = true := decide_eq_true hd
  clear HFL KT HS ho hl hr al ar s1 s2 s3 s4 hg he
  generalize (bal oh ok ov l r).1 = BT at *
  generalize (bal oh ok ov l r).2 = BG at *
  go_enter Try.func43, Try.ntmps43
  go_wp2_with (first
    | (go_at_call 48; ((with_reducible refine Calls.mono (HK.out.highO _ _ _ _ _ _ _ _ _ HS0.out HL0.out) ?_); rintro e w1 ⟨rfl, ho1, hx, hs⟩; have HX1 := Lib.hid hx; have HS1 := Lib.hid hs; have HOL1 := Lib.hid ho1; clear ho1 hx hs))
    | (go_at_call 48; ((with_reducible refine Calls.mono (HK.out.high _ _ _ _ HS1.out (HX1.out.den _ _ HR0.out)) ?_); rintro e w2 ⟨rfl, hx, hs⟩; have HX2 := Lib.hid (HX1.out.trans hx); have HS2 := Lib.hid hs; have HOL2 := Lib.hid (hx.openAt HOL1.out); clear hx hs))
    | (go_at_call 49; ((with_reducible refine Calls.mono (HF.out _ HS2.out (HX2.out.openAt HO0.out) HOL2.out (HX2.out.den _ _ HR0.out)) ?_); rintro e w3 ⟨⟨b3, rfl, ho3⟩, hx, hs⟩; have HX3 := Lib.hid (HX2.out.trans hx); have HS3 := Lib.hid hs; have HO3 := Lib.hid ho3; clear hx hs ho3))
    | (fail "no arm"))
  go_ret
  exact ⟨⟨b3, rfl, HO3.out⟩, HX3.out, HS3.out⟩
set_option maxHeartbeats 4000000 in
theorem balance_r (w0 W : World) (m : Nat) (a : Ar N2) (eb bo br : Nat) (pl : Option Nat) (g : List Hd) (oh : Hd) (ok ov : Int) (ol or' : T2) (ohi : Int) (rh : Hd) (rk rv : Int) (rl rr : T2) (rhi : Int) (l r : T2) (he : r = .node rh rk rv rl rr rhi) (KT : Kit w0 eb m a) (HS : St w0 W eb m g) (ho : OpenAt w0.heap.size W a bo oh ok ov ol or' ohi) (hl : Den w0.heap.size W a pl l) (hr : Den w0.heap.size W a (some br) (.node rh rk rv rl rr rhi)) (hg : g.length + 3 ≤ 1000000)
    (al : Avl l) (ar : Avl (.node rh rk rv rl rr rhi)) (hl1 : l.hi ≤ 100000) (hr1 : rhi ≤ 100000) (hd : l.hi - rhi < -1) :
    Calls Try.prog 43 #[.pointer (some ⟨eb, 0, none⟩), .pointer (some ⟨bo, 0, none⟩), .pointer (pl.map fun b => ⟨b, 0, none⟩), .pointer (some ⟨br, 0, none⟩)] W fun e w' => (∃ b', e = .returned (.pointer (some ⟨b', 0, none⟩)) ∧ OpenT w0.heap.size w' a b' (bal oh ok ov l r).1) ∧ Ext w0.heap.size a W w' ∧ St w0 w' eb m (g ++ (bal oh ok ov l r).2) := by
  obtain ⟨s1, s2, s3, s4⟩ := avl_sides ar
  have s5 := al.nonneg
  have s6 := ar.nonneg
  have HFL : ∀ V, St w0 V eb m g → OpenAt w0.heap.size V a bo oh ok ov ol or' ohi → OpenAt w0.heap.size V a br rh rk rv rl rr rhi → Den w0.heap.size V a pl l → Calls Try.prog 50 #[.pointer (some ⟨eb, 0, none⟩), .pointer (some ⟨bo, 0, none⟩), .pointer (pl.map fun b => ⟨b, 0, none⟩), .pointer (some ⟨br, 0, none⟩)] V fun e w' => (∃ b', e = .returned (.pointer (some ⟨b', 0, none⟩)) ∧ OpenT w0.heap.size w' a b' (bal oh ok ov l r).1) ∧ Ext w0.heap.size a V w' ∧ St w0 w' eb m (g ++ (bal oh ok ov l r).2) := by
    intro V h1 h2 h3 h4
    subst he
    by_cases hc : rl.hi ≤ rr.hi
    · rw [bal_r hd hc]
      exact fromR_one w0 V m a eb bo br pl g oh ok ov ol or' ohi rh rk rv rl rr rhi l KT h1 h2 h3 h4 hg ⟨s1, by omega⟩ ⟨s3, by omega⟩ ⟨s5, by omega⟩ hc
    · cases rl with
      | leaf => exact absurd (show (0 : Int) ≤ rr.hi from s3) hc
      | node mh mk1 mv ml mr mhi =>
        obtain ⟨t1, t2, t3, t4⟩ := avl_sides ar.2.2.2.1
        have hc' : ¬ mhi ≤ rr.hi := hc
        have s4' : mhi ≤ rhi := s2
        rw [bal_rr hd hc']
        exact fromR_two w0 V m a eb bo br pl g oh ok ov ol or' ohi rh rk rv rr mh mk1 mv ml mr mhi rhi l KT h1 h2 h3 h4 hg ⟨s3, by omega⟩ ⟨t1, by omega⟩ ⟨t3, by omega⟩ ⟨s5, by omega⟩ hc'
  have HF := Lib.hid HFL
  have HK := Lib.hid KT
  have HS0 := Lib.hid HS
  have HO0 := Lib.hid ho
  have HL0 := Lib.hid hl
  have HR0 := Lib.hid hr
  have q1 : decide (1 < l.hi - rhi) = false := decide_eq_false (by omega)
  have q2 : decide (l.hi - rhi < -1) = true := decide_eq_true hd
  clear HFL KT HS ho hl hr al ar s1 s2 s3 s4 hg he
  generalize (bal oh ok ov l r).1 = BT at *
  generalize (bal oh ok ov l r).2 = BG at *
  go_enter Try.func43, Try.ntmps43
  go_wp2_with (first
    | (go_at_call 48; ((with_reducible refine Calls.mono (HK.out.high _ _ _ _ HS0.out HL0.out) ?_); rintro e w1 ⟨rfl, hx, hs⟩; have HX1 := Lib.hid hx; have HS1 := Lib.hid hs; clear hx hs))
    | (go_at_call 48; ((with_reducible refine Calls.mono (HK.out.highO _ _ _ _ _ _ _ _ _ HS1.out (HX1.out.den _ _ HR0.out)) ?_); rintro e w2 ⟨rfl, ho1, hx, hs⟩; have HX2 := Lib.hid (HX1.out.trans hx); have HS2 := Lib.hid hs; have HOL2 := Lib.hid ho1; clear hx hs ho1))
    | (go_at_call 50; ((with_reducible refine Calls.mono (HF.out _ HS2.out (HX2.out.openAt HO0.out) HOL2.out (HX2.out.den _ _ HL0.out)) ?_); rintro e w3 ⟨⟨b3, rfl, ho3⟩, hx, hs⟩; have HX3 := Lib.hid (HX2.out.trans hx); have HS3 := Lib.hid hs; have HO3 := Lib.hid ho3; clear hx hs ho3))
    | (fail "no arm"))
  go_ret
  exact ⟨⟨b3, rfl, HO3.out⟩, HX3.out, HS3.out⟩
set_option maxHeartbeats 4000000 in
theorem balance_m (w0 W : World) (m : Nat) (a : Ar N2) (eb bo : Nat) (pl pr : Option Nat) (g : List Hd) (oh : Hd) (ok ov : Int) (ol or' : T2) (ohi : Int) (l r : T2) (KT : Kit w0 eb m a) (HS : St w0 W eb m g) (ho : OpenAt w0.heap.size W a bo oh ok ov ol or' ohi) (hl : Den w0.heap.size W a pl l) (hr : Den w0.heap.size W a pr r) (hg : g.length + 3 ≤ 1000000)
    (al : Avl l) (ar : Avl r) (hl1 : l.hi ≤ 100000) (hr1 : r.hi ≤ 100000) (hd : ¬ 1 < l.hi - r.hi) (hd2 : ¬ l.hi - r.hi < -1) :
    Calls Try.prog 43 #[.pointer (some ⟨eb, 0, none⟩), .pointer (some ⟨bo, 0, none⟩), .pointer (pl.map fun b => ⟨b, 0, none⟩), .pointer (pr.map fun b => ⟨b, 0, none⟩)] W fun e w' => (∃ b', e = .returned (.pointer (some ⟨b', 0, none⟩)) ∧ OpenT w0.heap.size w' a b' (bal oh ok ov l r).1) ∧ Ext w0.heap.size a W w' ∧ St w0 w' eb m (g ++ (bal oh ok ov l r).2) := by
  have s5 := al.nonneg
  have s6 := ar.nonneg
  rw [bal_m hd hd2]
  have HN := Lib.hid (fun (V : World) (h1 : St w0 V eb m g) (h2 : OpenAt w0.heap.size V a bo oh ok ov ol or' ohi) (h3 : Den w0.heap.size V a pl l) (h4 : Den w0.heap.size V a pr r) => KT.node V bo pl pr g oh ok ov ol or' l r ohi h1 h2 h3 h4 (by omega) ⟨s5, by omega, s6, by omega⟩)
  have HK := Lib.hid KT
  have HS0 := Lib.hid HS
  have HO0 := Lib.hid ho
  have HL0 := Lib.hid hl
  have HR0 := Lib.hid hr
  have q1 : decide (1 < l.hi - r.hi) = false := decide_eq_false hd
  have q2 : decide (l.hi - r.hi < -1) = false := decide_eq_false hd2
  clear KT HS ho hl hr al ar hg
  go_enter Try.func43, Try.ntmps43
  go_wp2_with (first
    | (go_at_call 48; ((with_reducible refine Calls.mono (HK.out.high _ _ _ _ HS0.out HL0.out) ?_); rintro e w1 ⟨rfl, hx, hs⟩; have HX1 := Lib.hid hx; have HS1 := Lib.hid hs; clear hx hs))
    | (go_at_call 48; ((with_reducible refine Calls.mono (HK.out.high _ _ _ _ HS1.out (HX1.out.den _ _ HR0.out)) ?_); rintro e w2 ⟨rfl, hx, hs⟩; have HX2 := Lib.hid (HX1.out.trans hx); have HS2 := Lib.hid hs; clear hx hs))
    | (go_at_call 51; ((with_reducible refine Calls.mono (HN.out _ HS2.out (HX2.out.openAt HO0.out) (HX2.out.den _ _ HL0.out) (HX2.out.den _ _ HR0.out)) ?_); rintro e w3 ⟨⟨b3, rfl, ho3⟩, hx, hs⟩; have HX3 := Lib.hid (HX2.out.trans hx); have HS3 := Lib.hid hs; have HO3 := Lib.hid ho3; clear hx hs ho3))
    | (fail "no arm"))
  go_ret
  exact ⟨⟨b3, rfl, HO3.out⟩, HX3.out, HS3.out⟩
theorem balance_calls (w0 W : World) (m : Nat) (a : Ar N2) (eb bo : Nat) (pl pr : Option Nat) (g : List Hd) (oh : Hd) (ok ov : Int) (ol or' : T2) (ohi : Int) (l r : T2) (KT : Kit w0 eb m a) (HS : St w0 W eb m g) (ho : OpenAt w0.heap.size W a bo oh ok ov ol or' ohi) (hl : Den w0.heap.size W a pl l) (hr : Den w0.heap.size W a pr r) (hg : g.length + 3 ≤ 1000000)
    (al : Avl l) (ar : Avl r) (hl1 : l.hi ≤ 100000) (hr1 : r.hi ≤ 100000) :
    Calls Try.prog 43 #[.pointer (some ⟨eb, 0, none⟩), .pointer (some ⟨bo, 0, none⟩), .pointer (pl.map fun b => ⟨b, 0, none⟩), .pointer (pr.map fun b => ⟨b, 0, none⟩)] W fun e w' => (∃ b', e = .returned (.pointer (some ⟨b', 0, none⟩)) ∧ OpenT w0.heap.size w' a b' (bal oh ok ov l r).1) ∧ Ext w0.heap.size a W w' ∧ St w0 w' eb m (g ++ (bal oh ok ov l r).2) := by
  by_cases h1 : 1 < l.hi - r.hi
  · cases l with
    | leaf => exact absurd (show (1 : Int) < 0 - r.hi from h1) (by have := ar.nonneg; omega)
    | node lh lk lv ll lr lhi =>
      obtain ⟨bl, rfl, H⟩ := hl
      exact balance_l w0 W m a eb bo bl pr g oh ok ov ol or' ohi lh lk lv ll lr lhi _ r rfl KT HS ho ⟨bl, rfl, H⟩ hr hg al ar hl1 hr1 h1
  · by_cases h2 : l.hi - r.hi < -1
    · cases r with
      | leaf => exact absurd (show l.hi - (0 : Int) < -1 from h2) (by have := al.nonneg; omega)
      | node rh rk rv rl rr rhi =>
        obtain ⟨br, rfl, H⟩ := hr
        exact balance_r w0 W m a eb bo br pl g oh ok ov ol or' ohi rh rk rv rl rr rhi l _ rfl KT HS ho hl ⟨br, rfl, H⟩ hg al ar hl1 hr1 h2
    · exact balance_m w0 W m a eb bo pl pr g oh ok ov ol or' ohi l r KT HS ho hl hr hg al ar hl1 hr1 h1 h2
end Go.Proofs.Ytmhfbpdahfepgaa.Pm
/- Package pmap's put. -/
namespace Go.Proofs.Ytmhfbpdahfepgaa.Pm
open Go.RowKit Go.Proofs.YtmhfbpdahfepgaaW.PrintWords
def cmpI (a b : Int) : Int := if a < b then -1 else if b < a then 1 else 0
theorem nan_calls (a : Int) (w : World) : Calls Try.prog 30 #[.int .i64 a] w fun e w' => e = .returned (.bool false) ∧ w = w' := by
  have q : (a != a) = false := by simp
  go_enter Try.func30, Try.ntmps30
  go_wp2
  go_ret
  exact ⟨by simp, rfl⟩
theorem cmp_calls (a b : Int) (w : World) : Calls Try.prog 11 #[.int .i64 a, .int .i64 b] w fun e w' => e = .returned (.int .i64 (cmpI a b)) ∧ w' = w := by
  unfold cmpI
  by_cases h1 : a < b
  · rw [if_pos h1]
    go_enter Try.func11, Try.ntmps11
    go_wp2_with (first
      | (go_at_call 30; (refine (nan_calls _ _).mono ?_); rintro e w1 ⟨rfl, rfl⟩)
      | (fail "no arm"))
    go_ret
    exact ⟨rfl, rfl⟩
  · rw [if_neg h1]
    by_cases h2 : b < a
    · rw [if_pos h2]
      go_enter Try.func11, Try.ntmps11
      go_wp2_with (first
        | (go_at_call 30; (refine (nan_calls _ _).mono ?_); rintro e w1 ⟨rfl, rfl⟩)
        | (fail "no arm"))
      go_ret
      exact ⟨rfl, rfl⟩
    · rw [if_neg h2]
      go_enter Try.func11, Try.ntmps11
      go_wp2_with (first
        | (go_at_call 30; (refine (nan_calls _ _).mono ?_); rintro e w1 ⟨rfl, rfl⟩)
        | (fail "no arm"))
      go_ret
      exact ⟨rfl, rfl⟩
def cmpF : Value := .func (.func 11) #[] #[]

theorem gh_len (h : Hd) : (gh h).length ≤ 1 := by unfold gh; split <;> simp
theorem fromL_len {oh : Hd} {ok ov : Int} {l r : T2} : (fromL oh ok ov l r).2.length ≤ 3 := by
  have h0 := gh_len oh
  cases l with
  | leaf => show (gh oh).length ≤ 3; omega
  | node lh lk lv ll lr lhi =>
    have h1 := gh_len lh
    by_cases hc : lr.hi ≤ ll.hi
    · rw [show fromL oh ok ov (.node lh lk lv ll lr lhi) r = (mk lk lv ll (mk ok ov lr r), gh oh ++ gh lh) from if_pos hc]
      rw [List.length_append]; omega
    · cases lr with
      | leaf =>
        rw [show fromL oh ok ov (.node lh lk lv ll .leaf lhi) r = (mk ok ov (.node lh lk lv ll .leaf lhi) r, gh oh) from if_neg hc]
        dsimp only; omega
      | node mh mk1 mv ml mr mhi =>
        have h2 := gh_len mh
        rw [show fromL oh ok ov (.node lh lk lv ll (.node mh mk1 mv ml mr mhi) lhi) r = (mk mk1 mv (mk lk lv ll ml) (mk ok ov mr r), gh lh ++ gh oh ++ gh mh) from if_neg hc]
        rw [List.length_append, List.length_append]; omega
theorem fromR_len {oh : Hd} {ok ov : Int} {l r : T2} : (fromR oh ok ov l r).2.length ≤ 3 := by
  have h0 := gh_len oh
  cases r with
  | leaf => show (gh oh).length ≤ 3; omega
  | node rh rk rv rl rr rhi =>
    have h1 := gh_len rh
    by_cases hc : rl.hi ≤ rr.hi
    · rw [show fromR oh ok ov l (.node rh rk rv rl rr rhi) = (mk rk rv (mk ok ov l rl) rr, gh oh ++ gh rh) from if_pos hc]
      rw [List.length_append]; omega
    · cases rl with
      | leaf =>
        rw [show fromR oh ok ov l (.node rh rk rv .leaf rr rhi) = (mk ok ov l (.node rh rk rv .leaf rr rhi), gh oh) from if_neg hc]
        dsimp only; omega
      | node mh mk1 mv ml mr mhi =>
        have h2 := gh_len mh
        rw [show fromR oh ok ov l (.node rh rk rv (.node mh mk1 mv ml mr mhi) rr rhi) = (mk mk1 mv (mk ok ov l ml) (mk rk rv mr rr), gh oh ++ gh rh ++ gh mh) from if_neg hc]
        rw [List.length_append, List.length_append]; omega
theorem bal_len {oh : Hd} {ok ov : Int} {l r : T2} : (bal oh ok ov l r).2.length ≤ 3 := by
  have h0 := gh_len oh
  unfold bal
  split
  · exact fromL_len
  · split
    · exact fromR_len
    · show (gh oh).length ≤ 3; omega
theorem tput_len (k v : Int) : ∀ (t : T2), Avl t → ((tput cmpI t k v).2.length : Int) ≤ 4 * t.hi
  | .leaf, _ => by show ((0 : Nat) : Int) ≤ 4 * 0; decide
  | .node h k' v' l r hi, a => by
    have ha := a.1
    have m0 := mx_le l.hi r.hi
    have l0 := a.2.2.2.1.nonneg
    have r0 := a.2.2.2.2.nonneg
    have hh : (T.node h k' v' l r hi).hi = hi := rfl
    rw [hh, tput]
    split
    · have h1 := tput_len k v l a.2.2.2.1
      have h2 := bal_len (oh := h) (ok := k') (ov := v') (l := (tput cmpI l k v).1) (r := r)
      dsimp only
      rw [List.length_append]; omega
    · split
      · have h1 := tput_len k v r a.2.2.2.2
        have h2 := bal_len (oh := h) (ok := k') (ov := v') (l := l) (r := (tput cmpI r k v).1)
        dsimp only
        rw [List.length_append]; omega
      · have := gh_len h
        dsimp only
        omega
def PutSays (w0 : World) (m eb : Nat) (a : Ar N2) (t : T2) : Prop :=
  ∀ (W : World) (p : Option Nat) (g : List Hd) (k v : Int), St w0 W eb m g → Den w0.heap.size W a p t → Avl t → t.hi ≤ 50000 → (g.length : Int) + 4 * t.hi ≤ 900000 →
    Calls Try.prog 32 #[.pointer (some ⟨eb, 0, none⟩), .pointer (p.map fun b => ⟨b, 0, none⟩), .int .i64 k, .int .i64 v] W fun e w' => (∃ b', e = .returned (.pointer (some ⟨b', 0, none⟩)) ∧ OpenT w0.heap.size w' a b' (tput cmpI t k v).1) ∧ Ext w0.heap.size a W w' ∧ St w0 w' eb m (g ++ (tput cmpI t k v).2)
theorem put_leaf (w0 : World) (m eb : Nat) (a : Ar N2) : PutSays w0 m eb a .leaf := by
  intro W p g k v HS hd _ _ _
  cases hd
  have HSS := Lib.hid HS
  clear HS
  simp only [Option.map_none]
  go_enter Try.func32, Try.ntmps32
  go_wp2
  go_ret
  exact ⟨⟨_, rfl, HSS.out.bel.size, none, none, blk_new _ _, rfl, rfl⟩, Ext.below (below_alloc (Below.refl _ _) _), by rw [show (tput cmpI (.leaf : T2) k v).2 = [] from rfl, List.append_nil]; exact HSS.out.below (below_alloc (Below.refl _ _) _)⟩
set_option maxHeartbeats 4000000 in
theorem put_lt (w0 : World) (m aa eb : Nat) (sv fv : Value) (a : Ar N2) (HM : MapAt w0 m aa cmpF sv fv a) (KT : Kit w0 eb m a) (h : Hd) (k' v' : Int) (l r : T2) (hi : Int) (ih : PutSays w0 m eb a l) (k : Int) (hc : k < k') :
    ∀ (W : World) (p : Option Nat) (g : List Hd) (v : Int), St w0 W eb m g → Den w0.heap.size W a p (.node h k' v' l r hi) → Avl (.node h k' v' l r hi) → (T.node h k' v' l r hi).hi ≤ 50000 → (g.length : Int) + 4 * (T.node h k' v' l r hi).hi ≤ 900000 →
    Calls Try.prog 32 #[.pointer (some ⟨eb, 0, none⟩), .pointer (p.map fun b => ⟨b, 0, none⟩), .int .i64 k, .int .i64 v] W fun e w' => (∃ b', e = .returned (.pointer (some ⟨b', 0, none⟩)) ∧ OpenT w0.heap.size w' a b' (bal h k' v' (tput cmpI l k v).1 r).1) ∧ Ext w0.heap.size a W w' ∧ St w0 w' eb m (g ++ ((tput cmpI l k v).2 ++ (bal h k' v' (tput cmpI l k v).1 r).2)) := by
  intro W p g v HS hd av hh hg
  obtain ⟨b, rfl, hd0⟩ := hd
  have HO := Lib.hid (KT.opened W b g h k' v' l r hi HS ⟨b, rfl, hd0⟩)
  obtain ⟨e1, a1, a2, al, ar⟩ := av
  have m0 := mx_le l.hi r.hi
  have l0 := al.nonneg
  have r0 := ar.nonneg
  have hh' : hi ≤ 50000 := hh
  have hg' : (g.length : Int) + 4 * hi ≤ 900000 := hg
  have hmc := Lib.hid (fun (V : World) (hs : St w0 V eb m g) => (show V.cell? ⟨m, 1, none⟩ = some cmpF from (blk_cell (blk_below HM.hm hs.bel) 1).trans rfl))
  have hec := Lib.hid (fun (V : World) (hs : St w0 V eb m g) => (show V.cell? ⟨eb, 0, none⟩ = some (.pointer (some ⟨m, 0, none⟩)) by obtain ⟨gv, he, _⟩ := hs.ed; exact blk_cell he 0))
  clear HS hd0 hh hg
  simp only [Option.map_some, cmpF] at hmc ⊢
  have hck : cmpI k k' = -1 := by unfold cmpI; rw [if_pos hc]
  have hlen := tput_len k v l al
  obtain ⟨avp, hp1, hp2⟩ := tput_avl cmpI k v l al
  have HIH := Lib.hid (fun (V0 V : World) (hb : Below V0.heap.size V0 V) (hs : St w0 V0 eb m g) (q : Option Nat) (hd : Den w0.heap.size V0 a q l) => (ih V q g k v (hs.below hb) ((Ext.below hb).den _ _ hd) al (by omega) (by omega)).mono (R' := fun e w' => (∃ b', e = .returned (.pointer (some ⟨b', 0, none⟩)) ∧ OpenT w0.heap.size w' a b' (tput cmpI l k v).1) ∧ Ext w0.heap.size a V0 w' ∧ St w0 w' eb m (g ++ (tput cmpI l k v).2)) fun _ _ ⟨x1, x2, x3⟩ => ⟨x1, (Ext.below hb).trans x2, x3⟩)
  have HBAL0 := (fun (V : World) (b2 : Nat) (ql qr : Option Nat) (ho : OpenAt w0.heap.size V a b h k' v' l r hi) (hs : St w0 V eb m (g ++ (tput cmpI l k v).2)) (hl : Den w0.heap.size V a (some b2) (tput cmpI l k v).1) (hr : Den w0.heap.size V a qr r) => balance_calls w0 V m a eb b (some b2) qr (g ++ (tput cmpI l k v).2) h k' v' l r hi (tput cmpI l k v).1 r KT hs ho hl hr (by rw [List.length_append]; omega) avp ar (by omega) (by omega))
  simp only [Option.map_some] at HBAL0
  have HBAL := Lib.hid HBAL0
  clear HBAL0 hlen avp hp1 hp2 ih a1 a2 al ar e1 m0
  generalize (bal h k' v' (tput cmpI l k v).1 r) = BB at *
  generalize (tput cmpI l k v) = TT at *
  go_enter Try.func32, Try.ntmps32
  go_wp2_with (first
    | (go_at_call 42; ((refine Calls.mono HO.out ?_); rintro e w1 ⟨rfl, ho, hx, hs⟩; have x0 := hec.out _ hs; have x1 := hmc.out _ hs; obtain ⟨hB, ql, qr, hb, hql, hqr⟩ := id ho; have c3 : w1.cell? ⟨b, 3, none⟩ = some (.int .i64 k') := blk_cell hb 3; have HOA := Lib.hid ho; have HX1 := Lib.hid hx; have HS1 := Lib.hid hs; have HB1 := Lib.hid hb; have HL1 := Lib.hid hql; have HR1 := Lib.hid hqr; clear ho hx hs hb hql hqr))
    | (fail "no arm"))
  go_quiet ((go_at_call 11; exact Calls.quiet_of_same (cmp_calls _ _ _)))
  rw [hck]
  have HB := Lib.hid (Below.refl w1.heap.size w1)
  go_wp2
  have c5 := oc5 HB1.out
  have c6 := oc6 HB1.out
  go_region_held3 (fun V => V.cell? ⟨b, 5, none⟩ = some (.pointer (ql.map fun b => ⟨b, 0, none⟩)) ∧ V.cell? ⟨b, 6, none⟩ = some (.pointer (qr.map fun b => ⟨b, 0, none⟩))) (first | exact ⟨c5, c6⟩ | exact ⟨d5, d6⟩ | exact ⟨e5, e6⟩) (first
    | (go_at_call 32; go_loud ((with_reducible refine Calls.mono (HIH.out w1 _ (by repeat (first | (with_reducible exact HB.out) | apply below_alloc | apply pw_below_drewN | apply below_drew1 | exact HB.out)) HS1.out _ HL1.out) ?_); rintro e w2 ⟨⟨b2, rfl, ho2⟩, hx, hs⟩; have HX2 := Lib.hid hx; have HS2 := Lib.hid hs; have HO2 := Lib.hid ho2; have HB2 := Lib.hid (hx.opn _ _ _ _ _ _ _ HB1.out); have d5 := oc5 HB2.out; have d6 := oc6 HB2.out; clear hx hs ho2))
    | (go_at_call 43; go_loud ((with_reducible refine Calls.mono (HBAL.out _ b2 none qr (HX2.out.openAt HOA.out) HS2.out HO2.out.den (HX2.out.den _ _ HR1.out)) ?_); rintro e w3 ⟨⟨b3, rfl, ho3⟩, hx, hs⟩; have HX3 := Lib.hid (HX2.out.trans hx); have HS3 := Lib.hid hs; have HO3 := Lib.hid ho3; have HB3 := Lib.hid (HX3.out.opn _ _ _ _ _ _ _ HB1.out); have e5 := oc5 HB3.out; have e6 := oc6 HB3.out; clear hx hs ho3))
    | (fail "no arm"))
  go_wp2
  all_goals
    go_ret
    exact ⟨⟨b3, rfl, HO3.out⟩, HX1.out.trans HX3.out, by rw [← List.append_assoc]; exact HS3.out⟩
set_option maxHeartbeats 4000000 in
theorem put_gt (w0 : World) (m aa eb : Nat) (sv fv : Value) (a : Ar N2) (HM : MapAt w0 m aa cmpF sv fv a) (KT : Kit w0 eb m a) (h : Hd) (k' v' : Int) (l r : T2) (hi : Int) (ih : PutSays w0 m eb a r) (k : Int) (hc : k' < k) :
    ∀ (W : World) (p : Option Nat) (g : List Hd) (v : Int), St w0 W eb m g → Den w0.heap.size W a p (.node h k' v' l r hi) → Avl (.node h k' v' l r hi) → (T.node h k' v' l r hi).hi ≤ 50000 → (g.length : Int) + 4 * (T.node h k' v' l r hi).hi ≤ 900000 →
    Calls Try.prog 32 #[.pointer (some ⟨eb, 0, none⟩), .pointer (p.map fun b => ⟨b, 0, none⟩), .int .i64 k, .int .i64 v] W fun e w' => (∃ b', e = .returned (.pointer (some ⟨b', 0, none⟩)) ∧ OpenT w0.heap.size w' a b' (bal h k' v' l (tput cmpI r k v).1).1) ∧ Ext w0.heap.size a W w' ∧ St w0 w' eb m (g ++ ((tput cmpI r k v).2 ++ (bal h k' v' l (tput cmpI r k v).1).2)) := by
  intro W p g v HS hd av hh hg
  obtain ⟨b, rfl, hd0⟩ := hd
  have HO := Lib.hid (KT.opened W b g h k' v' l r hi HS ⟨b, rfl, hd0⟩)
  obtain ⟨e1, a1, a2, al, ar⟩ := av
  have m0 := mx_le l.hi r.hi
  have l0 := al.nonneg
  have r0 := ar.nonneg
  have hh' : hi ≤ 50000 := hh
  have hg' : (g.length : Int) + 4 * hi ≤ 900000 := hg
  have hmc := Lib.hid (fun (V : World) (hs : St w0 V eb m g) => (show V.cell? ⟨m, 1, none⟩ = some cmpF from (blk_cell (blk_below HM.hm hs.bel) 1).trans rfl))
  have hec := Lib.hid (fun (V : World) (hs : St w0 V eb m g) => (show V.cell? ⟨eb, 0, none⟩ = some (.pointer (some ⟨m, 0, none⟩)) by obtain ⟨gv, he, _⟩ := hs.ed; exact blk_cell he 0))
  clear HS hd0 hh hg
  simp only [Option.map_some, cmpF] at hmc ⊢
  have hck : cmpI k k' = 1 := by unfold cmpI; rw [if_neg (by omega), if_pos hc]
  have hlen := tput_len k v r ar
  obtain ⟨avp, hp1, hp2⟩ := tput_avl cmpI k v r ar
  have HIH := Lib.hid (fun (V0 V : World) (hb : Below V0.heap.size V0 V) (hs : St w0 V0 eb m g) (q : Option Nat) (hd : Den w0.heap.size V0 a q r) => (ih V q g k v (hs.below hb) ((Ext.below hb).den _ _ hd) ar (by omega) (by omega)).mono (R' := fun e w' => (∃ b', e = .returned (.pointer (some ⟨b', 0, none⟩)) ∧ OpenT w0.heap.size w' a b' (tput cmpI r k v).1) ∧ Ext w0.heap.size a V0 w' ∧ St w0 w' eb m (g ++ (tput cmpI r k v).2)) fun _ _ ⟨x1, x2, x3⟩ => ⟨x1, (Ext.below hb).trans x2, x3⟩)
  have HBAL0 := (fun (V : World) (b2 : Nat) (ql qr : Option Nat) (ho : OpenAt w0.heap.size V a b h k' v' l r hi) (hs : St w0 V eb m (g ++ (tput cmpI r k v).2)) (hl : Den w0.heap.size V a ql l) (hr : Den w0.heap.size V a (some b2) (tput cmpI r k v).1) => balance_calls w0 V m a eb b ql (some b2) (g ++ (tput cmpI r k v).2) h k' v' l r hi l (tput cmpI r k v).1 KT hs ho hl hr (by rw [List.length_append]; omega) al avp (by omega) (by omega))
  simp only [Option.map_some] at HBAL0
  have HBAL := Lib.hid HBAL0
  clear HBAL0 hlen avp hp1 hp2 ih a1 a2 al ar e1 m0
  generalize (bal h k' v' l (tput cmpI r k v).1) = BB at *
  generalize (tput cmpI r k v) = TT at *
  go_enter Try.func32, Try.ntmps32
  go_wp2_with (first
    | (go_at_call 42; ((refine Calls.mono HO.out ?_); rintro e w1 ⟨rfl, ho, hx, hs⟩; have x0 := hec.out _ hs; have x1 := hmc.out _ hs; obtain ⟨hB, ql, qr, hb, hql, hqr⟩ := id ho; have c3 : w1.cell? ⟨b, 3, none⟩ = some (.int .i64 k') := blk_cell hb 3; have HOA := Lib.hid ho; have HX1 := Lib.hid hx; have HS1 := Lib.hid hs; have HB1 := Lib.hid hb; have HL1 := Lib.hid hql; have HR1 := Lib.hid hqr; clear ho hx hs hb hql hqr))
    | (fail "no arm"))
  go_quiet ((go_at_call 11; exact Calls.quiet_of_same (cmp_calls _ _ _)))
  rw [hck]
  have HB := Lib.hid (Below.refl w1.heap.size w1)
  go_wp2
  have c5 := oc5 HB1.out
  have c6 := oc6 HB1.out
  go_region_held3 (fun V => V.cell? ⟨b, 5, none⟩ = some (.pointer (ql.map fun b => ⟨b, 0, none⟩)) ∧ V.cell? ⟨b, 6, none⟩ = some (.pointer (qr.map fun b => ⟨b, 0, none⟩))) (first | exact ⟨c5, c6⟩ | exact ⟨d5, d6⟩ | exact ⟨e5, e6⟩) (first
    | (go_at_call 32; go_loud ((with_reducible refine Calls.mono (HIH.out w1 _ (by repeat (first | (with_reducible exact HB.out) | apply below_alloc | apply pw_below_drewN | apply below_drew1 | exact HB.out)) HS1.out _ HR1.out) ?_); rintro e w2 ⟨⟨b2, rfl, ho2⟩, hx, hs⟩; have HX2 := Lib.hid hx; have HS2 := Lib.hid hs; have HO2 := Lib.hid ho2; have HB2 := Lib.hid (hx.opn _ _ _ _ _ _ _ HB1.out); have d5 := oc5 HB2.out; have d6 := oc6 HB2.out; clear hx hs ho2))
    | (go_at_call 43; go_loud ((with_reducible refine Calls.mono (HBAL.out _ b2 ql none (HX2.out.openAt HOA.out) HS2.out (HX2.out.den _ _ HL1.out) HO2.out.den) ?_); rintro e w3 ⟨⟨b3, rfl, ho3⟩, hx, hs⟩; have HX3 := Lib.hid (HX2.out.trans hx); have HS3 := Lib.hid hs; have HO3 := Lib.hid ho3; have HB3 := Lib.hid (HX3.out.opn _ _ _ _ _ _ _ HB1.out); have e5 := oc5 HB3.out; have e6 := oc6 HB3.out; clear hx hs ho3))
    | (fail "no arm"))
  go_wp2
  all_goals
    go_ret
    exact ⟨⟨b3, rfl, HO3.out⟩, HX1.out.trans HX3.out, by rw [← List.append_assoc]; exact HS3.out⟩
set_option maxHeartbeats 4000000 in
theorem put_eq (w0 : World) (m aa eb : Nat) (sv fv : Value) (a : Ar N2) (HM : MapAt w0 m aa cmpF sv fv a) (KT : Kit w0 eb m a) (h : Hd) (k' v' : Int) (l r : T2) (hi : Int) (k : Int) (hc : k = k') :
    ∀ (W : World) (p : Option Nat) (g : List Hd) (v : Int), St w0 W eb m g → Den w0.heap.size W a p (.node h k' v' l r hi) → Avl (.node h k' v' l r hi) → (T.node h k' v' l r hi).hi ≤ 50000 → (g.length : Int) + 4 * (T.node h k' v' l r hi).hi ≤ 900000 →
    Calls Try.prog 32 #[.pointer (some ⟨eb, 0, none⟩), .pointer (p.map fun b => ⟨b, 0, none⟩), .int .i64 k, .int .i64 v] W fun e w' => (∃ b', e = .returned (.pointer (some ⟨b', 0, none⟩)) ∧ OpenT w0.heap.size w' a b' (.node H0 k v l r hi)) ∧ Ext w0.heap.size a W w' ∧ St w0 w' eb m (g ++ gh h) := by
  intro W p g v HS hd av hh hg
  obtain ⟨b, rfl, hd0⟩ := hd
  have HO := Lib.hid (KT.opened W b g h k' v' l r hi HS ⟨b, rfl, hd0⟩)
  obtain ⟨e1, a1, a2, al, ar⟩ := av
  have m0 := mx_le l.hi r.hi
  have l0 := al.nonneg
  have r0 := ar.nonneg
  have hh' : hi ≤ 50000 := hh
  have hg' : (g.length : Int) + 4 * hi ≤ 900000 := hg
  have hmc := Lib.hid (fun (V : World) (hs : St w0 V eb m g) => (show V.cell? ⟨m, 1, none⟩ = some cmpF from (blk_cell (blk_below HM.hm hs.bel) 1).trans rfl))
  have hec := Lib.hid (fun (V : World) (hs : St w0 V eb m g) => (show V.cell? ⟨eb, 0, none⟩ = some (.pointer (some ⟨m, 0, none⟩)) by obtain ⟨gv, he, _⟩ := hs.ed; exact blk_cell he 0))
  clear HS hd0 hh hg
  simp only [Option.map_some, cmpF] at hmc ⊢
  have hck : cmpI k k' = 0 := by unfold cmpI; rw [if_neg (by omega), if_neg (by omega)]
  have HLV := Lib.hid (fun (V0 V : World) (hb : Below V0.heap.size V0 V) (ql qr : Option Nat) (hs : St w0 V0 eb m g) (hk : V0.heap[b]? = some (.cells (openC h k' v' ql qr hi) 89 (0, 0))) => (leave_calls w0 V m a eb b g h _ (hs.below hb) (blk_below hk hb) rfl rfl (by omega)).mono (R' := fun e w' => e = .returned (.tuple #[]) ∧ Ext w0.heap.size a V0 w' ∧ St w0 w' eb m (g ++ gh h)) fun _ _ ⟨x1, x2, x3⟩ => ⟨x1, (Ext.below hb).trans x2, x3⟩)
  clear a1 a2 al ar e1 m0 hc
  go_enter Try.func32, Try.ntmps32
  go_wp2_with (first
    | (go_at_call 42; ((refine Calls.mono HO.out ?_); rintro e w1 ⟨rfl, ho, hx, hs⟩; have x0 := hec.out _ hs; have x1 := hmc.out _ hs; obtain ⟨hB, ql, qr, hb, hql, hqr⟩ := id ho; have c3 : w1.cell? ⟨b, 3, none⟩ = some (.int .i64 k') := blk_cell hb 3; have HOA := Lib.hid ho; have HX1 := Lib.hid hx; have HS1 := Lib.hid hs; have HB1 := Lib.hid hb; have HL1 := Lib.hid hql; have HR1 := Lib.hid hqr; clear ho hx hs hb hql hqr))
    | (fail "no arm"))
  go_quiet ((go_at_call 11; exact Calls.quiet_of_same (cmp_calls _ _ _)))
  rw [hck]
  have HB := Lib.hid (Below.refl w1.heap.size w1)
  go_wp2_with (first
    | (go_at_call 44; go_loud ((refine Calls.mono (HLV.out w1 _ (by repeat (first | (with_reducible exact HB.out) | apply below_alloc | apply pw_below_drewN | apply below_drew1 | exact HB.out)) _ _ HS1.out HB1.out) ?_); rintro e w2 ⟨rfl, hx, hs⟩; have HX2 := Lib.hid hx; have HS2 := Lib.hid hs; have HB2 := Lib.hid (hx.opn _ _ _ _ _ _ _ HB1.out); have d5 := oc5 HB2.out; have d6 := oc6 HB2.out; have d7 : w2.cell? ⟨b, 7, none⟩ = some (.int .i64 hi) := blk_cell HB2.out 7; clear hx hs))
    | (fail "no arm"))
  go_region
  go_wp2
  all_goals
    go_ret
    exact ⟨⟨_, rfl, HS2.out.bel.size, ql, qr, blk_new _ _, (Ext.below (by repeat (first | exact Below.refl _ _ | apply below_drew1 | apply below_alloc | apply pw_below_drewN))).den _ _ (HX2.out.den _ _ HL1.out), (Ext.below (by repeat (first | exact Below.refl _ _ | apply below_drew1 | apply below_alloc | apply pw_below_drewN))).den _ _ (HX2.out.den _ _ HR1.out)⟩, HX1.out.trans (HX2.out.trans (Ext.below (by repeat (first | exact Below.refl _ _ | apply below_drew1 | apply below_alloc | apply pw_below_drewN)))), HS2.out.below (by repeat (first | exact Below.refl _ _ | apply below_drew1 | apply below_alloc | apply pw_below_drewN))⟩
theorem put_calls (w0 : World) (m aa eb : Nat) (sv fv : Value) (a : Ar N2) (HM : MapAt w0 m aa cmpF sv fv a) : ∀ (t : T2), PutSays w0 m eb a t
  | .leaf => put_leaf w0 m eb a
  | .node h k' v' l r hi => by
    have il := put_calls w0 m aa eb sv fv a HM l
    have ir := put_calls w0 m aa eb sv fv a HM r
    have KT := kit eb HM
    intro W p g k v HS hd av hh hg
    rw [tput]
    unfold cmpI
    by_cases h1 : k < k'
    · rw [if_pos h1, if_pos (by decide)]
      exact put_lt w0 m aa eb sv fv a HM KT h k' v' l r hi il k h1 W p g v HS hd av hh hg
    · by_cases h2 : k' < k
      · rw [if_neg h1, if_pos h2, if_neg (by decide), if_pos (by decide)]
        exact put_gt w0 m aa eb sv fv a HM KT h k' v' l r hi ir k h2 W p g v HS hd av hh hg
      · rw [if_neg h1, if_neg h2, if_neg (by decide), if_neg (by decide)]
        exact put_eq w0 m aa eb sv fv a HM KT h k' v' l r hi k (by omega) W p g v HS hd av hh hg
end Go.Proofs.Ytmhfbpdahfepgaa.Pm
/- Package pmap's least. -/
namespace Go.Proofs.Ytmhfbpdahfepgaa.Pm
open Go.RowKit Go.Proofs.YtmhfbpdahfepgaaW.PrintWords
theorem tleast_len : ∀ (l : T2) (h : Hd) (k v : Int) (r : T2) (hi : Int), Avl (.node h k v l r hi) → ((tleast h k v l r).2.2.length : Int) ≤ 4 * hi
  | .leaf, h, k, v, r, hi, a => by
    have e : hi = 1 + mx 0 r.hi := a.1
    have m0 := mx_le 0 r.hi
    rw [tleast]
    show ((0 : Nat) : Int) ≤ 4 * hi
    omega
  | .node h' k' v' l' r' hi', h, k, v, r, hi, a => by
    have e := a.1
    have m0 := mx_le hi' r.hi
    have hh : (T.node h' k' v' l' r' hi').hi = hi' := rfl
    rw [hh] at e
    have h1 := tleast_len l' h' k' v' r' hi' a.2.2.2.1
    rw [tleast]
    have h2 := bal_len (oh := h) (ok := k) (ov := v) (l := (tleast h' k' v' l' r').2.1) (r := r)
    dsimp only
    rw [List.length_append]; omega
def LeastSays (w0 : World) (m eb : Nat) (a : Ar N2) (l : T2) : Prop :=
  ∀ (h : Hd) (k v : Int) (r : T2) (hi : Int) (W : World) (p : Option Nat) (g : List Hd), St w0 W eb m g → Den w0.heap.size W a p (.node h k v l r hi) → Avl (.node h k v l r hi) → hi ≤ 50000 → (g.length : Int) + 4 * hi ≤ 900000 →
    Calls Try.prog 46 #[.pointer (some ⟨eb, 0, none⟩), .pointer (p.map fun b => ⟨b, 0, none⟩)] W fun e w' => (∃ b' q l0 r0 hi0, e = .returned (.tuple #[.pointer (some ⟨b', 0, none⟩), .pointer (q.map fun b => ⟨b, 0, none⟩)]) ∧ OpenAt w0.heap.size w' a b' (tleast h k v l r).1.1 (tleast h k v l r).1.2.1 (tleast h k v l r).1.2.2 l0 r0 hi0 ∧ Den w0.heap.size w' a q (tleast h k v l r).2.1) ∧ Ext w0.heap.size a W w' ∧ St w0 w' eb m (g ++ (tleast h k v l r).2.2)
set_option maxHeartbeats 4000000 in
theorem least_leaf (w0 : World) (m eb : Nat) (a : Ar N2) (KT : Kit w0 eb m a) : LeastSays w0 m eb a .leaf := by
  intro h k v r hi W p g HS hd av hh hg
  obtain ⟨b, rfl, hd0⟩ := hd
  have HO := Lib.hid (KT.opened W b g h k v .leaf r hi HS ⟨b, rfl, hd0⟩)
  clear HS hd0 hh hg av KT
  simp only [Option.map_some, tleast, List.append_nil] at *
  go_enter Try.func46, Try.ntmps46
  go_wp2_with (first
    | (go_at_call 42; ((refine Calls.mono HO.out ?_); rintro e w1 ⟨rfl, ho, hx, hs⟩; obtain ⟨hB, ql, qr, hb, hql, hqr⟩ := id ho; cases hql; have HOA := Lib.hid ho; have HX1 := Lib.hid hx; have HS1 := Lib.hid hs; have HB1 := Lib.hid hb; have HR1 := Lib.hid hqr; have c5 := oc5 hb; have c6 := oc6 hb; simp only [Option.map_none] at c5; clear ho hx hs hb hqr))
    | (fail "no arm"))
  go_quiet (fail)
  go_wp2
  go_ret2
  have hz : Below w1.heap.size w1 (w1.drewN nq) := by repeat (first | exact Below.refl _ _ | apply below_drew1 | apply below_alloc | apply pw_below_drewN)
  exact ⟨⟨b, qr, .leaf, r, hi, rfl, (Ext.below hz).openAt HOA.out, (Ext.below hz).den _ _ HR1.out⟩, HX1.out.trans (Ext.below hz), HS1.out.below hz⟩
set_option maxHeartbeats 4000000 in
theorem least_node (w0 : World) (m eb : Nat) (a : Ar N2) (KT : Kit w0 eb m a) (h' : Hd) (k' v' : Int) (l' r' : T2) (hi' : Int) (ih : LeastSays w0 m eb a l') : LeastSays w0 m eb a (.node h' k' v' l' r' hi') := by
  intro h k v r hi W p g HS hd av hh hg
  obtain ⟨b, rfl, hd0⟩ := hd
  have HO := Lib.hid (KT.opened W b g h k v (.node h' k' v' l' r' hi') r hi HS ⟨b, rfl, hd0⟩)
  obtain ⟨e1, a1, a2, al, ar⟩ := av
  have m0 := mx_le hi' r.hi
  have hh' : (T.node h' k' v' l' r' hi').hi = hi' := rfl
  rw [hh'] at e1 a1 a2
  have l0 : 0 ≤ hi' := al.nonneg
  have r0 := ar.nonneg
  have hlen := tleast_len l' h' k' v' r' hi' al
  obtain ⟨avp, hp1, hp2⟩ := tleast_avl l' h' k' v' r' hi' al
  have HIH0 := (fun (V : World) (b5 : Nat) (hs : St w0 V eb m g) (hd : Den w0.heap.size V a (some b5) (.node h' k' v' l' r' hi')) => ih h' k' v' r' hi' V (some b5) g hs hd al (by omega) (by omega))
  have HBAL0 := (fun (V : World) (q qr : Option Nat) (ho : OpenAt w0.heap.size V a b h k v (.node h' k' v' l' r' hi') r hi) (hs : St w0 V eb m (g ++ (tleast h' k' v' l' r').2.2)) (hl : Den w0.heap.size V a q (tleast h' k' v' l' r').2.1) (hr : Den w0.heap.size V a qr r) => balance_calls w0 V m a eb b q qr (g ++ (tleast h' k' v' l' r').2.2) h k v (.node h' k' v' l' r' hi') r hi (tleast h' k' v' l' r').2.1 r KT hs ho hl hr (by rw [List.length_append]; omega) avp ar (by omega) (by omega))
  simp only [Option.map_some] at HIH0
  have HIH := Lib.hid HIH0
  have HBAL := Lib.hid HBAL0
  rw [tleast]
  dsimp only
  clear HIH0 HBAL0 HS hd0 hh hg KT hlen avp hp1 hp2 ih a1 a2 al ar e1 m0
  trace "A"
  generalize (bal h k v (tleast h' k' v' l' r').2.1 r) = BB at *
  generalize (tleast h' k' v' l' r') = TT at *
  trace "B"
  simp only [Option.map_some]
  go_enter Try.func46, Try.ntmps46
  go_wp2_with (first
    | (go_at_call 42; ((refine Calls.mono HO.out ?_); rintro e w1 ⟨rfl, ho, hx, hs⟩; obtain ⟨hB, ql, qr, hb, hql, hqr⟩ := id ho; obtain ⟨b5, rfl, hrest⟩ := id hql; clear hrest; have HOA := Lib.hid ho; have HX1 := Lib.hid hx; have HS1 := Lib.hid hs; have HB1 := Lib.hid hb; have HL1 := Lib.hid hql; have HR1 := Lib.hid hqr; have c5 := oc5 hb; have c6 := oc6 hb; simp only [Option.map_some] at c5; clear ho hx hs hb hql hqr))
    | (go_at_call 46; ((with_reducible refine Calls.mono (HIH.out _ _ HS1.out HL1.out) ?_); rintro e w2 ⟨⟨b2, q2, l2, r2, hi2, rfl, ho2, hd2⟩, hx, hs⟩; have HX2 := Lib.hid hx; have HS2 := Lib.hid hs; have HO2 := Lib.hid ho2; have HD2 := Lib.hid hd2; have HB2 := Lib.hid (hx.opn _ _ _ _ _ _ _ HB1.out); have d6 := oc6 HB2.out; clear hx hs ho2 hd2))
    | (go_at_call 43; ((with_reducible refine Calls.mono (HBAL.out _ _ _ (HX2.out.openAt HOA.out) HS2.out HD2.out (HX2.out.den _ _ HR1.out)) ?_); rintro e w3 ⟨⟨b3, rfl, ho3⟩, hx, hs⟩; have HX3 := Lib.hid hx; have HS3 := Lib.hid hs; have HO3 := Lib.hid ho3; clear hx hs ho3))
    | (fail "no arm"))
  go_ret2
  exact ⟨⟨b2, some b3, l2, r2, hi2, rfl, HX3.out.openAt HO2.out, HO3.out.den⟩, HX1.out.trans (HX2.out.trans HX3.out), by rw [← List.append_assoc]; exact HS3.out⟩
theorem least_calls (w0 : World) (m eb : Nat) (a : Ar N2) (KT : Kit w0 eb m a) : ∀ (l : T2), LeastSays w0 m eb a l
  | .leaf => least_leaf w0 m eb a KT
  | .node h' k' v' l' r' hi' => least_node w0 m eb a KT h' k' v' l' r' hi' (least_calls w0 m eb a KT l')
def Has {K V : Type} (cmp : K → K → Int) (k : K) : T K V → Prop
  | .leaf => False
  | .node _ k' _ l r _ => (cmp k k' < 0 → Has cmp k l) ∧ (¬ cmp k k' < 0 → 0 < cmp k k' → Has cmp k r)
theorem tdel_len (k : Int) : ∀ (t : T2), Avl t → ((tdel cmpI t k).2.length : Int) ≤ 4 * t.hi
  | .leaf, _ => by show ((0 : Nat) : Int) ≤ 4 * 0; decide
  | .node h k' v' l r hi, a => by
    have ha := a.1
    have m0 := mx_le l.hi r.hi
    have l0 := a.2.2.2.1.nonneg
    have r0 := a.2.2.2.2.nonneg
    have g0 := gh_len h
    have hh : (T.node h k' v' l r hi).hi = hi := rfl
    rw [hh]
    by_cases h1 : cmpI k k' < 0
    · rw [tdel_lt h1]
      have h1 := tdel_len k l a.2.2.2.1
      have h2 := bal_len (oh := h) (ok := k') (ov := v') (l := (tdel cmpI l k).1) (r := r)
      dsimp only
      rw [List.length_append]; omega
    · by_cases h2 : 0 < cmpI k k'
      · rw [tdel_gt h1 h2]
        have h1 := tdel_len k r a.2.2.2.2
        have h2 := bal_len (oh := h) (ok := k') (ov := v') (l := l) (r := (tdel cmpI r k).1)
        dsimp only
        rw [List.length_append]; omega
      · cases l with
        | leaf => rw [tdel_l h1 h2]; dsimp only; omega
        | node lh lk lv ll lr lhi =>
          cases r with
          | leaf => rw [tdel_r h1 h2]; dsimp only; omega
          | node rh rk rv rl rr rhi =>
            have h3 := tleast_len rl rh rk rv rr rhi a.2.2.2.2
            have hr : (T.node rh rk rv rl rr rhi).hi = rhi := rfl
            rw [tdel_m h1 h2]
            have h4 := bal_len (oh := (tleast rh rk rv rl rr).1.1) (ok := (tleast rh rk rv rl rr).1.2.1) (ov := (tleast rh rk rv rl rr).1.2.2) (l := (.node lh lk lv ll lr lhi)) (r := (tleast rh rk rv rl rr).2.1)
            dsimp only
            rw [List.length_append, List.length_append]; omega
end Go.Proofs.Ytmhfbpdahfepgaa.Pm
