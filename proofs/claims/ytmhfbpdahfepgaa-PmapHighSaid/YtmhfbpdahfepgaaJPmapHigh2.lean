/-
  Package pmap's fromRight; balance; Package pmap's put; Package pmap's least; Package pmap's del; Package pmap's fresh; Package arena in memory: its own blocks; Room, next; Package arena in memory: Put
-/
import Derived.Test.YtmhfbpdahfepgaaJPmapHigh1
/- Package pmap's fromRight; balance. -/
namespace Go.Proofs.Ytmhfbpdahfepgaa.Pm
open Go.RowKit Go.Proofs.YtmhfbpdahfepgaaW.PrintWords
set_option maxHeartbeats 4000000 in
theorem fromR_one (w0 W : World) (m : Nat) (a : Ar N2) (eb bo br : Nat) (pl : Option Nat) (g : List Hd) (oh : Hd) (ok ov : Int) (ol or' : T2) (ohi : Int) (rh : Hd) (rk rv : Int) (rl rr : T2) (rhi : Int) (l : T2) (KT : Kit w0 eb m a) (HS : St w0 W eb m g) (ho : OpenAt w0.heap.size W a bo oh ok ov ol or' ohi) (hr : OpenAt w0.heap.size W a br rh rk rv rl rr rhi) (hl : Den w0.heap.size W a pl l) (hg : g.length + 3 ≤ 1000000)
    (h1 : 0 ≤ rl.hi ∧ rl.hi ≤ 100000) (h2 : 0 ≤ rr.hi ∧ rr.hi ≤ 100000) (h3 : 0 ≤ l.hi ∧ l.hi ≤ 100000) (hc : rl.hi ≤ rr.hi) :
    Calls Try.prog 50 #[.pointer (some ⟨eb, 0, none⟩), .pointer (some ⟨bo, 0, none⟩), .pointer (pl.map fun b => ⟨b, 0, none⟩), .pointer (some ⟨br, 0, none⟩)] W fun e w' => (∃ b', e = .returned (.pointer (some ⟨b', 0, none⟩)) ∧ OpenT w0.heap.size w' a b' (mk rk rv (mk ok ov l rl) rr)) ∧ Ext w0.heap.size a W w' ∧ St w0 w' eb m (g ++ (gh oh ++ gh rh)) := by
  obtain ⟨hB, ql, qr, hb, hql, hqr⟩ := hr
  have c5 := oc5 hb
  have c6 := oc6 hb
  have HB0 := Lib.hid hb
  have HO0 := Lib.hid ho
  have HL0 := Lib.hid hql
  have HR0 := Lib.hid hqr
  have HP0 := Lib.hid hl
  have HS0 := Lib.hid HS
  have HK := Lib.hid KT
  have hdx := Lib.hid (Ext.drew w0.heap.size a W)
  have hgl : (gh oh).length ≤ 1 := by unfold gh; split <;> simp
  have hmx := mx_le l.hi rl.hi
  have HHB := Lib.hid (show 0 ≤ (mk ok ov l rl).hi ∧ (mk ok ov l rl).hi ≤ 1000000 ∧ 0 ≤ rr.hi ∧ rr.hi ≤ 1000000 by rw [show (mk ok ov l rl).hi = 1 + mx l.hi rl.hi from rfl]; omega)
  have hge : (rl.hi : Int) ≤ rr.hi := hc
  clear hb ho hql hqr hl HS KT hmx
  go_enter Try.func50, Try.ntmps50
  go_wp2
  go_region_held3 (fun V => V.cell? ⟨br, 5, none⟩ = some (.pointer (ql.map fun b => ⟨b, 0, none⟩)) ∧ V.cell? ⟨br, 6, none⟩ = some (.pointer (qr.map fun b => ⟨b, 0, none⟩))) (first | exact ⟨c5, c6⟩ | exact ⟨d5, d6⟩ | exact ⟨e5, e6⟩) (first
    | (go_at_call 48; ((with_reducible refine Calls.mono (HK.out.high _ _ _ _ HS0.out.drew (hdx.out.den _ _ HR0.out)) ?_); rintro e w1 ⟨rfl, hx, hs⟩; have HX1 := Lib.hid (hdx.out.trans hx); have HS1 := Lib.hid hs; have HB1 := Lib.hid (HX1.out.opn _ _ _ _ _ _ _ HB0.out); have d5 := oc5 HB1.out; have d6 := oc6 HB1.out; clear hx hs))
    | (go_at_call 48; go_loud ((with_reducible refine Calls.mono (HK.out.high _ _ _ _ HS1.out (HX1.out.den _ _ HL0.out)) ?_); rintro e w2 ⟨rfl, hx, hs⟩; have HX2 := Lib.hid (HX1.out.trans hx); have HS2 := Lib.hid hs; have HB2 := Lib.hid (HX2.out.opn _ _ _ _ _ _ _ HB0.out); have e5 := oc5 HB2.out; have e6 := oc6 HB2.out; clear hx hs))
    | (fail "no arm"))
  go_wp2
  have HX2d := Lib.hid (HX2.out.trans (Ext.drew w0.heap.size a w2))
  go_region_held3 (fun V => V.cell? ⟨br, 5, none⟩ = some (.pointer (ql.map fun b => ⟨b, 0, none⟩)) ∧ V.cell? ⟨br, 6, none⟩ = some (.pointer (qr.map fun b => ⟨b, 0, none⟩))) (first | exact ⟨e5, e6⟩ | exact ⟨i5, i6⟩ | exact ⟨j5, j6⟩) (first
    | (go_at_call 51; ((with_reducible refine Calls.mono (HK.out.node _ bo pl ql _ oh ok ov ol or' l rl ohi HS2.out.drew (HX2d.out.openAt HO0.out) (HX2d.out.den _ _ HP0.out) (HX2d.out.den _ _ HL0.out) (by omega) ⟨h3.1, by omega, h1.1, by omega⟩) ?_); rintro e w3 ⟨⟨b3, rfl, ho3⟩, hx, hs⟩; have HX3 := Lib.hid (HX2d.out.trans hx); have HS3 := Lib.hid hs; have HO3 := Lib.hid ho3; have HB3 := Lib.hid (HX3.out.opn _ _ _ _ _ _ _ HB0.out); have i5 := oc5 HB3.out; have i6 := oc6 HB3.out; clear hx hs ho3))
    | (go_at_call 51; go_loud ((refine Calls.mono (HK.out.node _ br (some b3) qr _ rh rk rv rl rr (mk ok ov l rl) rr rhi HS3.out ⟨hB, ql, qr, HB3.out, HX3.out.den _ _ HL0.out, HX3.out.den _ _ HR0.out⟩ HO3.out.den (HX3.out.den _ _ HR0.out) (by rw [List.length_append]; omega) HHB.out) ?_); rintro e w4 ⟨⟨b4, rfl, ho4⟩, hx, hs⟩; have HX4 := Lib.hid (HX3.out.trans hx); have HS4 := Lib.hid hs; have HO4 := Lib.hid ho4; have HB4 := Lib.hid (HX4.out.opn _ _ _ _ _ _ _ HB0.out); have j5 := oc5 HB4.out; have j6 := oc6 HB4.out; clear hx hs ho4))
    | (fail "no arm"))
  go_wp2
  all_goals
    go_ret
    exact ⟨⟨b4, rfl, HO4.out⟩, HX4.out, by rw [← List.append_assoc]; exact HS4.out⟩
set_option maxHeartbeats 4000000 in
theorem fromR_two (w0 W : World) (m : Nat) (a : Ar N2) (eb bo br : Nat) (pl : Option Nat) (g : List Hd) (oh : Hd) (ok ov : Int) (ol or' : T2) (ohi : Int) (rh : Hd) (rk rv : Int) (rr : T2) (mh : Hd) (mk1 mv : Int) (ml mr : T2) (mhi : Int) (rhi : Int) (l : T2) (KT : Kit w0 eb m a) (HS : St w0 W eb m g) (ho : OpenAt w0.heap.size W a bo oh ok ov ol or' ohi) (hr : OpenAt w0.heap.size W a br rh rk rv (.node mh mk1 mv ml mr mhi) rr rhi) (hl : Den w0.heap.size W a pl l) (hg : g.length + 3 ≤ 1000000)
    (h1 : 0 ≤ rr.hi ∧ rr.hi ≤ 100000) (h2 : 0 ≤ ml.hi ∧ ml.hi ≤ 100000) (h4 : 0 ≤ mr.hi ∧ mr.hi ≤ 100000) (h3 : 0 ≤ l.hi ∧ l.hi ≤ 100000) (hc : ¬ mhi ≤ rr.hi) :
    Calls Try.prog 50 #[.pointer (some ⟨eb, 0, none⟩), .pointer (some ⟨bo, 0, none⟩), .pointer (pl.map fun b => ⟨b, 0, none⟩), .pointer (some ⟨br, 0, none⟩)] W fun e w' => (∃ b', e = .returned (.pointer (some ⟨b', 0, none⟩)) ∧ OpenT w0.heap.size w' a b' (mk mk1 mv (mk ok ov l ml) (mk rk rv mr rr))) ∧ Ext w0.heap.size a W w' ∧ St w0 w' eb m (g ++ (gh oh ++ gh rh ++ gh mh)) := by
  obtain ⟨hB, ql, qr, hb, hql, hqr⟩ := hr
  have c5 := oc5 hb
  have c6 := oc6 hb
  obtain ⟨bm, rfl, hqr'⟩ := id hql
  clear hqr'
  have HB0 := Lib.hid hb
  have HO0 := Lib.hid ho
  have HL0 := Lib.hid hql
  have HR0 := Lib.hid hqr
  have HP0 := Lib.hid hl
  have HS0 := Lib.hid HS
  have HK := Lib.hid KT
  have hdx := Lib.hid (Ext.drew w0.heap.size a W)
  have hgl : (gh oh).length ≤ 1 := by unfold gh; split <;> simp
  have hgl2 : (gh rh).length ≤ 1 := by unfold gh; split <;> simp
  have hmx := mx_le l.hi ml.hi
  have hmx2 := mx_le mr.hi rr.hi
  have HHB := Lib.hid (show 0 ≤ (mk ok ov l ml).hi ∧ (mk ok ov l ml).hi ≤ 1000000 ∧ 0 ≤ (mk rk rv mr rr).hi ∧ (mk rk rv mr rr).hi ≤ 1000000 by rw [show (mk ok ov l ml).hi = 1 + mx l.hi ml.hi from rfl, show (mk rk rv mr rr).hi = 1 + mx mr.hi rr.hi from rfl]; omega)
  have hge : ¬ (mhi : Int) ≤ rr.hi := hc
  have hmh : (T.node mh mk1 mv ml mr mhi).hi = mhi := rfl
  have hhigh := fun (V : World) (g : List Hd) (hs : St w0 V eb m g) (hd : Den w0.heap.size V a (some bm) (.node mh mk1 mv ml mr mhi)) => KT.high V g (some bm) _ hs hd
  rw [hmh] at hhigh
  simp only [Option.map_some] at hhigh c5
  have HH := Lib.hid hhigh
  clear hb ho hql hqr hl HS KT hmx hmx2 hhigh hmh
  go_enter Try.func50, Try.ntmps50
  go_wp2
  go_region_held3 (fun V => V.cell? ⟨br, 5, none⟩ = some (.pointer (some ⟨bm, 0, none⟩)) ∧ V.cell? ⟨br, 6, none⟩ = some (.pointer (qr.map fun b => ⟨b, 0, none⟩))) (first | exact ⟨c5, c6⟩ | exact ⟨d5, d6⟩ | exact ⟨e5, e6⟩) (first
    | (go_at_call 48; ((with_reducible refine Calls.mono (HK.out.high _ _ _ _ HS0.out.drew (hdx.out.den _ _ HR0.out)) ?_); rintro e w1 ⟨rfl, hx, hs⟩; have HX1 := Lib.hid (hdx.out.trans hx); have HS1 := Lib.hid hs; have HB1 := Lib.hid (HX1.out.opn _ _ _ _ _ _ _ HB0.out); have d5 : w1.cell? ⟨br, 5, none⟩ = some (.pointer (some ⟨bm, 0, none⟩)) := oc5 HB1.out; have d6 := oc6 HB1.out; clear hx hs))
    | (go_at_call 48; go_loud ((with_reducible refine Calls.mono (HH.out _ _ HS1.out (HX1.out.den _ _ HL0.out)) ?_); rintro e w2 ⟨rfl, hx, hs⟩; have HX2 := Lib.hid (HX1.out.trans hx); have HS2 := Lib.hid hs; have HB2 := Lib.hid (HX2.out.opn _ _ _ _ _ _ _ HB0.out); have e5 : w2.cell? ⟨br, 5, none⟩ = some (.pointer (some ⟨bm, 0, none⟩)) := oc5 HB2.out; have e6 := oc6 HB2.out; clear hx hs))
    | (fail "no arm"))
  go_wp2_with (first
    | (go_at_call 42; ((with_reducible refine Calls.mono (HK.out.opened _ _ _ _ _ _ _ _ _ HS2.out (HX2.out.den _ _ HL0.out)) ?_); rintro e w3 ⟨rfl, ho3, hx, hs⟩; have HX3 := Lib.hid (HX2.out.trans hx); have HS3 := Lib.hid hs; have HM3 := Lib.hid ho3; obtain ⟨hBm, qml, qmr, hbm, hdml, hdmr⟩ := ho3; have HBM := Lib.hid hbm; have HML := Lib.hid hdml; have HMR := Lib.hid hdmr; have HB3 := Lib.hid (HX3.out.opn _ _ _ _ _ _ _ HB0.out); have f5 := oc6 HB3.out; have m5 := oc5 HBM.out; have m6 := oc6 HBM.out; clear hx hs hbm hdml hdmr))
    | (fail "no arm"))
  have HD3 := Lib.hid (Ext.drew w0.heap.size a w3)
  have HX3d := Lib.hid (HX3.out.trans (Ext.drew w0.heap.size a w3))
  go_region_held3 (fun V => V.cell? ⟨br, 6, none⟩ = some (.pointer (qr.map fun b => ⟨b, 0, none⟩)) ∧ V.cell? ⟨bm, 5, none⟩ = some (.pointer (qml.map fun b => ⟨b, 0, none⟩)) ∧ V.cell? ⟨bm, 6, none⟩ = some (.pointer (qmr.map fun b => ⟨b, 0, none⟩))) (first | exact ⟨f5, m5, m6⟩ | exact ⟨g5, g6, g7⟩ | exact ⟨i5, i6, i7⟩ | exact ⟨j5, j6, j7⟩) (first
    | (go_at_call 51; ((with_reducible refine Calls.mono (HK.out.node _ bo pl qml _ oh ok ov ol or' l ml ohi HS3.out.drew (HX3d.out.openAt HO0.out) (HX3d.out.den _ _ HP0.out) (HD3.out.den _ _ HML.out) (by omega) ⟨h3.1, by omega, h2.1, by omega⟩) ?_); rintro e w4 ⟨⟨b4, rfl, ho4⟩, hx, hs⟩; have HY4 := Lib.hid (HD3.out.trans hx); have HX4 := Lib.hid (HX3.out.trans HY4.out); have HS4 := Lib.hid hs; have HO4 := Lib.hid ho4; have HB4 := Lib.hid (HX4.out.opn _ _ _ _ _ _ _ HB0.out); have HC4 := Lib.hid (HY4.out.opn _ _ _ _ _ _ _ HBM.out); have HOL4 := Lib.hid (show OpenAt w0.heap.size w4 a br rh rk rv (.node mh mk1 mv ml mr mhi) rr rhi from ⟨hB, some bm, qr, HB4.out, HX4.out.den _ _ HL0.out, HX4.out.den _ _ HR0.out⟩); have g5 := oc6 HB4.out; have g6 := oc5 HC4.out; have g7 := oc6 HC4.out; clear hx hs ho4))
    | (go_at_call 51; ((with_reducible refine Calls.mono (HK.out.node _ br qmr qr _ rh rk rv (.node mh mk1 mv ml mr mhi) rr mr rr rhi HS4.out HOL4.out (HY4.out.den _ _ HMR.out) (HX4.out.den _ _ HR0.out) (by rw [List.length_append]; omega) ⟨h4.1, by omega, h1.1, by omega⟩) ?_); rintro e w5 ⟨⟨b5, rfl, ho5⟩, hx, hs⟩; have HY5 := Lib.hid (HY4.out.trans hx); have HX5 := Lib.hid (HX4.out.trans hx); have HS5 := Lib.hid hs; have HO5 := Lib.hid ho5; have HO45 := Lib.hid (hx.openAt HO4.out); have HB5 := Lib.hid (HX5.out.opn _ _ _ _ _ _ _ HB0.out); have HC5 := Lib.hid (HY5.out.opn _ _ _ _ _ _ _ HBM.out); have i5 := oc6 HB5.out; have i6 := oc5 HC5.out; have i7 := oc6 HC5.out; clear hx hs ho5))
    | (go_at_call 51; go_loud ((refine Calls.mono (HK.out.node _ bm (some b4) (some b5) _ mh mk1 mv ml mr (mk ok ov l ml) (mk rk rv mr rr) mhi HS5.out (HY5.out.openAt HM3.out) HO45.out.den HO5.out.den (by rw [List.length_append, List.length_append]; omega) HHB.out) ?_); rintro e w6 ⟨⟨b6, rfl, ho6⟩, hx, hs⟩; have HX6 := Lib.hid (HX5.out.trans hx); have HY6 := Lib.hid (HY5.out.trans hx); have HS6 := Lib.hid hs; have HO6 := Lib.hid ho6; have HB6 := Lib.hid (HX6.out.opn _ _ _ _ _ _ _ HB0.out); have HC6 := Lib.hid (HY6.out.opn _ _ _ _ _ _ _ HBM.out); have j5 := oc6 HB6.out; have j6 := oc5 HC6.out; have j7 := oc6 HC6.out; clear hx hs ho6))
    | (fail "no arm"))
  go_wp2
  all_goals
    go_ret
    exact ⟨⟨b6, rfl, HO6.out⟩, HX6.out, by simpa only [List.append_assoc] using HS6.out⟩
theorem bal_l {oh : Hd} {ok ov : Int} {lh : Hd} {lk lv : Int} {ll lr : T2} {lhi : Int} {r : T2} (hd : 1 < lhi - r.hi) (hc : lr.hi ≤ ll.hi) : bal oh ok ov (.node lh lk lv ll lr lhi) r = (mk lk lv ll (mk ok ov lr r), gh oh ++ gh lh) := by
  unfold bal
  rw [if_pos (show 1 < (T.node lh lk lv ll lr lhi).hi - r.hi from hd)]
  simp only [fromL, hc, if_true]
theorem bal_ll {oh : Hd} {ok ov : Int} {lh : Hd} {lk lv : Int} {ll : T2} {mh : Hd} {mk1 mv : Int} {ml mr : T2} {mhi lhi : Int} {r : T2} (hd : 1 < lhi - r.hi) (hc : ¬ mhi ≤ ll.hi) : bal oh ok ov (.node lh lk lv ll (.node mh mk1 mv ml mr mhi) lhi) r = (mk mk1 mv (mk lk lv ll ml) (mk ok ov mr r), gh lh ++ gh oh ++ gh mh) := by
  unfold bal
  rw [if_pos (show 1 < (T.node lh lk lv ll (.node mh mk1 mv ml mr mhi) lhi).hi - r.hi from hd)]
  exact if_neg (c := mhi ≤ ll.hi) hc
theorem bal_r {oh : Hd} {ok ov : Int} {rh : Hd} {rk rv : Int} {rl rr : T2} {rhi : Int} {l : T2} (hd : l.hi - rhi < -1) (hc : rl.hi ≤ rr.hi) : bal oh ok ov l (.node rh rk rv rl rr rhi) = (mk rk rv (mk ok ov l rl) rr, gh oh ++ gh rh) := by
  unfold bal
  rw [if_neg (show ¬ 1 < l.hi - (T.node rh rk rv rl rr rhi).hi by show ¬ 1 < l.hi - rhi; omega), if_pos (show l.hi - (T.node rh rk rv rl rr rhi).hi < -1 from hd)]
  simp only [fromR, hc, if_true]
theorem bal_rr {oh : Hd} {ok ov : Int} {rh : Hd} {rk rv : Int} {rr : T2} {mh : Hd} {mk1 mv : Int} {ml mr : T2} {mhi rhi : Int} {l : T2} (hd : l.hi - rhi < -1) (hc : ¬ mhi ≤ rr.hi) : bal oh ok ov l (.node rh rk rv (.node mh mk1 mv ml mr mhi) rr rhi) = (mk mk1 mv (mk ok ov l ml) (mk rk rv mr rr), gh oh ++ gh rh ++ gh mh) := by
  unfold bal
  rw [if_neg (show ¬ 1 < l.hi - (T.node rh rk rv (.node mh mk1 mv ml mr mhi) rr rhi).hi by show ¬ 1 < l.hi - rhi; omega), if_pos (show l.hi - (T.node rh rk rv (.node mh mk1 mv ml mr mhi) rr rhi).hi < -1 from hd)]
  exact if_neg (c := mhi ≤ rr.hi) hc
theorem bal_m {oh : Hd} {ok ov : Int} {l r : T2} (h1 : ¬ 1 < l.hi - r.hi) (h2 : ¬ l.hi - r.hi < -1) : bal oh ok ov l r = (mk ok ov l r, gh oh) := by
  unfold bal
  rw [if_neg h1, if_neg h2]
/-- Heights of a tree that stands, and of its sides. -/
theorem avl_sides {h : Hd} {k v : Int} {l r : T2} {hi : Int} (a : Avl (.node h k v l r hi)) : 0 ≤ l.hi ∧ l.hi ≤ hi ∧ 0 ≤ r.hi ∧ r.hi ≤ hi := by
  have h1 := Avl.nonneg a.2.2.2.1
  have h2 := Avl.nonneg a.2.2.2.2
  have h3 := mx_le l.hi r.hi
  have h4 := a.1
  omega
set_option maxHeartbeats 4000000 in
theorem balance_l (w0 W : World) (m : Nat) (a : Ar N2) (eb bo bl : Nat) (pr : Option Nat) (g : List Hd) (oh : Hd) (ok ov : Int) (ol or' : T2) (ohi : Int) (lh : Hd) (lk lv : Int) (ll lr : T2) (lhi : Int) (l r : T2) (he : l = .node lh lk lv ll lr lhi) (KT : Kit w0 eb m a) (HS : St w0 W eb m g) (ho : OpenAt w0.heap.size W a bo oh ok ov ol or' ohi) (hl : Den w0.heap.size W a (some bl) (.node lh lk lv ll lr lhi)) (hr : Den w0.heap.size W a pr r) (hg : g.length + 3 ≤ 1000000)
    (al : Avl (.node lh lk lv ll lr lhi)) (ar : Avl r) (hl1 : lhi ≤ 100000) (hr1 : r.hi ≤ 100000) (hd : 1 < lhi - r.hi) :
    Calls Try.prog 43 #[.pointer (some ⟨eb, 0, none⟩), .pointer (some ⟨bo, 0, none⟩), .pointer (some ⟨bl, 0, none⟩), .pointer (pr.map fun b => ⟨b, 0, none⟩)] W fun e w' => (∃ b', e = .returned (.pointer (some ⟨b', 0, none⟩)) ∧ OpenT w0.heap.size w' a b' (bal oh ok ov l r).1) ∧ Ext w0.heap.size a W w' ∧ St w0 w' eb m (g ++ (bal oh ok ov l r).2) := by
  obtain ⟨s1, s2, s3, s4⟩ := avl_sides al
  have s5 := al.nonneg
  have s6 := ar.nonneg
  have HFL : ∀ V, St w0 V eb m g → OpenAt w0.heap.size V a bo oh ok ov ol or' ohi → OpenAt w0.heap.size V a bl lh lk lv ll lr lhi → Den w0.heap.size V a pr r → Calls Try.prog 49 #[.pointer (some ⟨eb, 0, none⟩), .pointer (some ⟨bo, 0, none⟩), .pointer (some ⟨bl, 0, none⟩), .pointer (pr.map fun b => ⟨b, 0, none⟩)] V fun e w' => (∃ b', e = .returned (.pointer (some ⟨b', 0, none⟩)) ∧ OpenT w0.heap.size w' a b' (bal oh ok ov l r).1) ∧ Ext w0.heap.size a V w' ∧ St w0 w' eb m (g ++ (bal oh ok ov l r).2) := by
    intro V h1 h2 h3 h4
    subst he
    by_cases hc : lr.hi ≤ ll.hi
    · rw [bal_l hd hc]
      exact fromL_one w0 V m a eb bo bl pr g oh ok ov ol or' ohi lh lk lv ll lr lhi r KT h1 h2 h3 h4 hg ⟨s1, by omega⟩ ⟨s3, by omega⟩ ⟨s6, by omega⟩ hc
    · cases lr with
      | leaf => exact absurd (show (0 : Int) ≤ ll.hi from s1) hc
      | node mh mk1 mv ml mr mhi =>
        obtain ⟨t1, t2, t3, t4⟩ := avl_sides al.2.2.2.2
        have hc' : ¬ mhi ≤ ll.hi := hc
        have s4' : mhi ≤ lhi := s4
        rw [bal_ll hd hc']
        exact fromL_two w0 V m a eb bo bl pr g oh ok ov ol or' ohi lh lk lv ll mh mk1 mv ml mr mhi lhi r KT h1 h2 h3 h4 hg ⟨s1, by omega⟩ ⟨t1, by omega⟩ ⟨t3, by omega⟩ ⟨s6, by omega⟩ hc'
  have HF := Lib.hid HFL
  have HK := Lib.hid KT
  have HS0 := Lib.hid HS
  have HO0 := Lib.hid ho
  have HL0 := Lib.hid hl
  have HR0 := Lib.hid hr
  have q1 : decide (1 < lhi - r.hi) = true := decide_eq_true hd
  clear HFL KT HS ho hl hr al ar s1 s2 s3 s4 hg he
  generalize (bal oh ok ov l r).1 = BT at *
  generalize (bal oh ok ov l r).2 = BG at *
  go_enter Try.func43, Try.ntmps43
  go_wp2_with (first
    | (go_at_call 48; ((with_reducible refine Calls.mono (HK.out.highO _ _ _ _ _ _ _ _ _ HS0.out HL0.out) ?_); rintro e w1 ⟨rfl, ho1, hx, hs⟩; have HX1 := Lib.hid hx; have HS1 := Lib.hid hs; have HOL1 := Lib.hid ho1; clear ho1 hx hs))
    | (go_at_call 48; ((with_reducible refine Calls.mono (HK.out.high _ _ _ _ HS1.out (HX1.out.den _ _ HR0.out)) ?_); rintro e w2 ⟨rfl, hx, hs⟩; have HX2 := Lib.hid (HX1.out.trans hx); have HS2 := Lib.hid hs; have HOL2 := Lib.hid (hx.openAt HOL1.out); clear hx hs))
    | (go_at_call 49; ((with_reducible refine Calls.mono (HF.out _ HS2.out (HX2.out.openAt HO0.out) HOL2.out (HX2.out.den _ _ HR0.out)) ?_); rintro e w3 ⟨⟨b3, rfl, ho3⟩, hx, hs⟩; have HX3 := Lib.hid (HX2.out.trans hx); have HS3 := Lib.hid hs; have HO3 := Lib.hid ho3; clear hx hs ho3))
    | (fail "no arm"))
  go_ret
  exact ⟨⟨b3, rfl, HO3.out⟩, HX3.out, HS3.out⟩
set_option maxHeartbeats 4000000 in
theorem balance_r (w0 W : World) (m : Nat) (a : Ar N2) (eb bo br : Nat) (pl : Option Nat) (g : List Hd) (oh : Hd) (ok ov : Int) (ol or' : T2) (ohi : Int) (rh : Hd) (rk rv : Int) (rl rr : T2) (rhi : Int) (l r : T2) (he : r = .node rh rk rv rl rr rhi) (KT : Kit w0 eb m a) (HS : St w0 W eb m g) (ho : OpenAt w0.heap.size W a bo oh ok ov ol or' ohi) (hl : Den w0.heap.size W a pl l) (hr : Den w0.heap.size W a (some br) (.node rh rk rv rl rr rhi)) (hg : g.length + 3 ≤ 1000000)
    (al : Avl l) (ar : Avl (.node rh rk rv rl rr rhi)) (hl1 : l.hi ≤ 100000) (hr1 : rhi ≤ 100000) (hd : l.hi - rhi < -1) :
    Calls Try.prog 43 #[.pointer (some ⟨eb, 0, none⟩), .pointer (some ⟨bo, 0, none⟩), .pointer (pl.map fun b => ⟨b, 0, none⟩), .pointer (some ⟨br, 0, none⟩)] W fun e w' => (∃ b', e = .returned (.pointer (some ⟨b', 0, none⟩)) ∧ OpenT w0.heap.size w' a b' (bal oh ok ov l r).1) ∧ Ext w0.heap.size a W w' ∧ St w0 w' eb m (g ++ (bal oh ok ov l r).2) := by
  obtain ⟨s1, s2, s3, s4⟩ := avl_sides ar
  have s5 := al.nonneg
  have s6 := ar.nonneg
  have HFL : ∀ V, St w0 V eb m g → OpenAt w0.heap.size V a bo oh ok ov ol or' ohi → OpenAt w0.heap.size V a br rh rk rv rl rr rhi → Den w0.heap.size V a pl l → Calls Try.prog 50 #[.pointer (some ⟨eb, 0, none⟩), .pointer (some ⟨bo, 0, none⟩), .pointer (pl.map fun b => ⟨b, 0, none⟩), .pointer (some ⟨br, 0, none⟩)] V fun e w' => (∃ b', e = .returned (.pointer (some ⟨b', 0, none⟩)) ∧ OpenT w0.heap.size w' a b' (bal oh ok ov l r).1) ∧ Ext w0.heap.size a V w' ∧ St w0 w' eb m (g ++ (bal oh ok ov l r).2) := by
    intro V h1 h2 h3 h4
    subst he
    by_cases hc : rl.hi ≤ rr.hi
    · rw [bal_r hd hc]
      exact fromR_one w0 V m a eb bo br pl g oh ok ov ol or' ohi rh rk rv rl rr rhi l KT h1 h2 h3 h4 hg ⟨s1, by omega⟩ ⟨s3, by omega⟩ ⟨s5, by omega⟩ hc
    · cases rl with
      | leaf => exact absurd (show (0 : Int) ≤ rr.hi from s3) hc
      | node mh mk1 mv ml mr mhi =>
        obtain ⟨t1, t2, t3, t4⟩ := avl_sides ar.2.2.2.1
        have hc' : ¬ mhi ≤ rr.hi := hc
        have s4' : mhi ≤ rhi := s2
        rw [bal_rr hd hc']
        exact fromR_two w0 V m a eb bo br pl g oh ok ov ol or' ohi rh rk rv rr mh mk1 mv ml mr mhi rhi l KT h1 h2 h3 h4 hg ⟨s3, by omega⟩ ⟨t1, by omega⟩ ⟨t3, by omega⟩ ⟨s5, by omega⟩ hc'
  have HF := Lib.hid HFL
  have HK := Lib.hid KT
  have HS0 := Lib.hid HS
  have HO0 := Lib.hid ho
  have HL0 := Lib.hid hl
  have HR0 := Lib.hid hr
  have q1 : decide (1 < l.hi - rhi) = false := decide_eq_false (by omega)
  have q2 : decide (l.hi - rhi < -1) = true := decide_eq_true hd
  clear HFL KT HS ho hl hr al ar s1 s2 s3 s4 hg he
  generalize (bal oh ok ov l r).1 = BT at *
  generalize (bal oh ok ov l r).2 = BG at *
  go_enter Try.func43, Try.ntmps43
  go_wp2_with (first
    | (go_at_call 48; ((with_reducible refine Calls.mono (HK.out.high _ _ _ _ HS0.out HL0.out) ?_); rintro e w1 ⟨rfl, hx, hs⟩; have HX1 := Lib.hid hx; have HS1 := Lib.hid hs; clear hx hs))
    | (go_at_call 48; ((with_reducible refine Calls.mono (HK.out.highO _ _ _ _ _ _ _ _ _ HS1.out (HX1.out.den _ _ HR0.out)) ?_); rintro e w2 ⟨rfl, ho1, hx, hs⟩; have HX2 := Lib.hid (HX1.out.trans hx); have HS2 := Lib.hid hs; have HOL2 := Lib.hid ho1; clear hx hs ho1))
    | (go_at_call 50; ((with_reducible refine Calls.mono (HF.out _ HS2.out (HX2.out.openAt HO0.out) HOL2.out (HX2.out.den _ _ HL0.out)) ?_); rintro e w3 ⟨⟨b3, rfl, ho3⟩, hx, hs⟩; have HX3 := Lib.hid (HX2.out.trans hx); have HS3 := Lib.hid hs; have HO3 := Lib.hid ho3; clear hx hs ho3))
    | (fail "no arm"))
  go_ret
  exact ⟨⟨b3, rfl, HO3.out⟩, HX3.out, HS3.out⟩
set_option maxHeartbeats 4000000 in
theorem balance_m (w0 W : World) (m : Nat) (a : Ar N2) (eb bo : Nat) (pl pr : Option Nat) (g : List Hd) (oh : Hd) (ok ov : Int) (ol or' : T2) (ohi : Int) (l r : T2) (KT : Kit w0 eb m a) (HS : St w0 W eb m g) (ho : OpenAt w0.heap.size W a bo oh ok ov ol or' ohi) (hl : Den w0.heap.size W a pl l) (hr : Den w0.heap.size W a pr r) (hg : g.length + 3 ≤ 1000000)
    (al : Avl l) (ar : Avl r) (hl1 : l.hi ≤ 100000) (hr1 : r.hi ≤ 100000) (hd : ¬ 1 < l.hi - r.hi) (hd2 : ¬ l.hi - r.hi < -1) :
    Calls Try.prog 43 #[.pointer (some ⟨eb, 0, none⟩), .pointer (some ⟨bo, 0, none⟩), .pointer (pl.map fun b => ⟨b, 0, none⟩), .pointer (pr.map fun b => ⟨b, 0, none⟩)] W fun e w' => (∃ b', e = .returned (.pointer (some ⟨b', 0, none⟩)) ∧ OpenT w0.heap.size w' a b' (bal oh ok ov l r).1) ∧ Ext w0.heap.size a W w' ∧ St w0 w' eb m (g ++ (bal oh ok ov l r).2) := by
  have s5 := al.nonneg
  have s6 := ar.nonneg
  rw [bal_m hd hd2]
  have HN := Lib.hid (fun (V : World) (h1 : St w0 V eb m g) (h2 : OpenAt w0.heap.size V a bo oh ok ov ol or' ohi) (h3 : Den w0.heap.size V a pl l) (h4 : Den w0.heap.size V a pr r) => KT.node V bo pl pr g oh ok ov ol or' l r ohi h1 h2 h3 h4 (by omega) ⟨s5, by omega, s6, by omega⟩)
  have HK := Lib.hid KT
  have HS0 := Lib.hid HS
  have HO0 := Lib.hid ho
  have HL0 := Lib.hid hl
  have HR0 := Lib.hid hr
  have q1 : decide (1 < l.hi - r.hi) = false := decide_eq_false hd
  have q2 : decide (l.hi - r.hi < -1) = false := decide_eq_false hd2
  clear KT HS ho hl hr al ar hg
  go_enter Try.func43, Try.ntmps43
  go_wp2_with (first
    | (go_at_call 48; ((with_reducible refine Calls.mono (HK.out.high _ _ _ _ HS0.out HL0.out) ?_); rintro e w1 ⟨rfl, hx, hs⟩; have HX1 := Lib.hid hx; have HS1 := Lib.hid hs; clear hx hs))
    | (go_at_call 48; ((with_reducible refine Calls.mono (HK.out.high _ _ _ _ HS1.out (HX1.out.den _ _ HR0.out)) ?_); rintro e w2 ⟨rfl, hx, hs⟩; have HX2 := Lib.hid (HX1.out.trans hx); have HS2 := Lib.hid hs; clear hx hs))
    | (go_at_call 51; ((with_reducible refine Calls.mono (HN.out _ HS2.out (HX2.out.openAt HO0.out) (HX2.out.den _ _ HL0.out) (HX2.out.den _ _ HR0.out)) ?_); rintro e w3 ⟨⟨b3, rfl, ho3⟩, hx, hs⟩; have HX3 := Lib.hid (HX2.out.trans hx); have HS3 := Lib.hid hs; have HO3 := Lib.hid ho3; clear hx hs ho3))
    | (fail "no arm"))
  go_ret
  exact ⟨⟨b3, rfl, HO3.out⟩, HX3.out, HS3.out⟩
theorem balance_calls (w0 W : World) (m : Nat) (a : Ar N2) (eb bo : Nat) (pl pr : Option Nat) (g : List Hd) (oh : Hd) (ok ov : Int) (ol or' : T2) (ohi : Int) (l r : T2) (KT : Kit w0 eb m a) (HS : St w0 W eb m g) (ho : OpenAt w0.heap.size W a bo oh ok ov ol or' ohi) (hl : Den w0.heap.size W a pl l) (hr : Den w0.heap.size W a pr r) (hg : g.length + 3 ≤ 1000000)
    (al : Avl l) (ar : Avl r) (hl1 : l.hi ≤ 100000) (hr1 : r.hi ≤ 100000) :
    Calls Try.prog 43 #[.pointer (some ⟨eb, 0, none⟩), .pointer (some ⟨bo, 0, none⟩), .pointer (pl.map fun b => ⟨b, 0, none⟩), .pointer (pr.map fun b => ⟨b, 0, none⟩)] W fun e w' => (∃ b', e = .returned (.pointer (some ⟨b', 0, none⟩)) ∧ OpenT w0.heap.size w' a b' (bal oh ok ov l r).1) ∧ Ext w0.heap.size a W w' ∧ St w0 w' eb m (g ++ (bal oh ok ov l r).2) := by
  by_cases h1 : 1 < l.hi - r.hi
  · cases l with
    | leaf => exact absurd (show (1 : Int) < 0 - r.hi from h1) (by have := ar.nonneg; omega)
    | node lh lk lv ll lr lhi =>
      obtain ⟨bl, rfl, H⟩ := hl
      exact balance_l w0 W m a eb bo bl pr g oh ok ov ol or' ohi lh lk lv ll lr lhi _ r rfl KT HS ho ⟨bl, rfl, H⟩ hr hg al ar hl1 hr1 h1
  · by_cases h2 : l.hi - r.hi < -1
    · cases r with
      | leaf => exact absurd (show l.hi - (0 : Int) < -1 from h2) (by have := al.nonneg; omega)
      | node rh rk rv rl rr rhi =>
        obtain ⟨br, rfl, H⟩ := hr
        exact balance_r w0 W m a eb bo br pl g oh ok ov ol or' ohi rh rk rv rl rr rhi l _ rfl KT HS ho hl ⟨br, rfl, H⟩ hg al ar hl1 hr1 h2
    · exact balance_m w0 W m a eb bo pl pr g oh ok ov ol or' ohi l r KT HS ho hl hr hg al ar hl1 hr1 h1 h2
end Go.Proofs.Ytmhfbpdahfepgaa.Pm
/- Package pmap's put. -/
namespace Go.Proofs.Ytmhfbpdahfepgaa.Pm
open Go.RowKit Go.Proofs.YtmhfbpdahfepgaaW.PrintWords
def cmpI (a b : Int) : Int := if a < b then -1 else if b < a then 1 else 0
theorem nan_calls (a : Int) (w : World) : Calls Try.prog 30 #[.int .i64 a] w fun e w' => e = .returned (.bool false) ∧ w = w' := by
  have q : (a != a) = false := by simp
  go_enter Try.func30, Try.ntmps30
  go_wp2
  go_ret
  exact ⟨by simp, rfl⟩
theorem cmp_calls (a b : Int) (w : World) : Calls Try.prog 11 #[.int .i64 a, .int .i64 b] w fun e w' => e = .returned (.int .i64 (cmpI a b)) ∧ w' = w := by
  unfold cmpI
  by_cases h1 : a < b
  · rw [if_pos h1]
    go_enter Try.func11, Try.ntmps11
    go_wp2_with (first
      | (go_at_call 30; (refine (nan_calls _ _).mono ?_); rintro e w1 ⟨rfl, rfl⟩)
      | (fail "no arm"))
    go_ret
    exact ⟨rfl, rfl⟩
  · rw [if_neg h1]
    by_cases h2 : b < a
    · rw [if_pos h2]
      go_enter Try.func11, Try.ntmps11
      go_wp2_with (first
        | (go_at_call 30; (refine (nan_calls _ _).mono ?_); rintro e w1 ⟨rfl, rfl⟩)
        | (fail "no arm"))
      go_ret
      exact ⟨rfl, rfl⟩
    · rw [if_neg h2]
      go_enter Try.func11, Try.ntmps11
      go_wp2_with (first
        | (go_at_call 30; (refine (nan_calls _ _).mono ?_); rintro e w1 ⟨rfl, rfl⟩)
        | (fail "no arm"))
      go_ret
      exact ⟨rfl, rfl⟩
def cmpF : Value := .func (.func 11) #[] #[]

theorem gh_len (h : Hd) : (gh h).length ≤ 1 := by unfold gh; split <;> simp
theorem fromL_len {oh : Hd} {ok ov : Int} {l r : T2} : (fromL oh ok ov l r).2.length ≤ 3 := by
  have h0 := gh_len oh
  cases l with
  | leaf => show (gh oh).length ≤ 3; omega
  | node lh lk lv ll lr lhi =>
    have h1 := gh_len lh
    by_cases hc : lr.hi ≤ ll.hi
    · rw [show fromL oh ok ov (.node lh lk lv ll lr lhi) r = (mk lk lv ll (mk ok ov lr r), gh oh ++ gh lh) from if_pos hc]
      rw [List.length_append]; omega
    · cases lr with
      | leaf =>
        rw [show fromL oh ok ov (.node lh lk lv ll .leaf lhi) r = (mk ok ov (.node lh lk lv ll .leaf lhi) r, gh oh) from if_neg hc]
        dsimp only; omega
      | node mh mk1 mv ml mr mhi =>
        have h2 := gh_len mh
        rw [show fromL oh ok ov (.node lh lk lv ll (.node mh mk1 mv ml mr mhi) lhi) r = (mk mk1 mv (mk lk lv ll ml) (mk ok ov mr r), gh lh ++ gh oh ++ gh mh) from if_neg hc]
        rw [List.length_append, List.length_append]; omega
theorem fromR_len {oh : Hd} {ok ov : Int} {l r : T2} : (fromR oh ok ov l r).2.length ≤ 3 := by
  have h0 := gh_len oh
  cases r with
  | leaf => show (gh oh).length ≤ 3; omega
  | node rh rk rv rl rr rhi =>
    have h1 := gh_len rh
    by_cases hc : rl.hi ≤ rr.hi
    · rw [show fromR oh ok ov l (.node rh rk rv rl rr rhi) = (mk rk rv (mk ok ov l rl) rr, gh oh ++ gh rh) from if_pos hc]
      rw [List.length_append]; omega
    · cases rl with
      | leaf =>
        rw [show fromR oh ok ov l (.node rh rk rv .leaf rr rhi) = (mk ok ov l (.node rh rk rv .leaf rr rhi), gh oh) from if_neg hc]
        dsimp only; omega
      | node mh mk1 mv ml mr mhi =>
        have h2 := gh_len mh
        rw [show fromR oh ok ov l (.node rh rk rv (.node mh mk1 mv ml mr mhi) rr rhi) = (mk mk1 mv (mk ok ov l ml) (mk rk rv mr rr), gh oh ++ gh rh ++ gh mh) from if_neg hc]
        rw [List.length_append, List.length_append]; omega
theorem bal_len {oh : Hd} {ok ov : Int} {l r : T2} : (bal oh ok ov l r).2.length ≤ 3 := by
  have h0 := gh_len oh
  unfold bal
  split
  · exact fromL_len
  · split
    · exact fromR_len
    · show (gh oh).length ≤ 3; omega
theorem tput_len (k v : Int) : ∀ (t : T2), Avl t → ((tput cmpI t k v).2.length : Int) ≤ 4 * t.hi
  | .leaf, _ => by show ((0 : Nat) : Int) ≤ 4 * 0; decide
  | .node h k' v' l r hi, a => by
    have ha := a.1
    have m0 := mx_le l.hi r.hi
    have l0 := a.2.2.2.1.nonneg
    have r0 := a.2.2.2.2.nonneg
    have hh : (T.node h k' v' l r hi).hi = hi := rfl
    rw [hh, tput]
    split
    · have h1 := tput_len k v l a.2.2.2.1
      have h2 := bal_len (oh := h) (ok := k') (ov := v') (l := (tput cmpI l k v).1) (r := r)
      dsimp only
      rw [List.length_append]; omega
    · split
      · have h1 := tput_len k v r a.2.2.2.2
        have h2 := bal_len (oh := h) (ok := k') (ov := v') (l := l) (r := (tput cmpI r k v).1)
        dsimp only
        rw [List.length_append]; omega
      · have := gh_len h
        dsimp only
        omega
def PutSays (w0 : World) (m eb : Nat) (a : Ar N2) (t : T2) : Prop :=
  ∀ (W : World) (p : Option Nat) (g : List Hd) (k v : Int), St w0 W eb m g → Den w0.heap.size W a p t → Avl t → t.hi ≤ 50000 → (g.length : Int) + 4 * t.hi ≤ 900000 →
    Calls Try.prog 32 #[.pointer (some ⟨eb, 0, none⟩), .pointer (p.map fun b => ⟨b, 0, none⟩), .int .i64 k, .int .i64 v] W fun e w' => (∃ b', e = .returned (.pointer (some ⟨b', 0, none⟩)) ∧ OpenT w0.heap.size w' a b' (tput cmpI t k v).1) ∧ Ext w0.heap.size a W w' ∧ St w0 w' eb m (g ++ (tput cmpI t k v).2)
theorem put_leaf (w0 : World) (m eb : Nat) (a : Ar N2) : PutSays w0 m eb a .leaf := by
  intro W p g k v HS hd _ _ _
  cases hd
  have HSS := Lib.hid HS
  clear HS
  simp only [Option.map_none]
  go_enter Try.func32, Try.ntmps32
  go_wp2
  go_ret
  exact ⟨⟨_, rfl, HSS.out.bel.size, none, none, blk_new _ _, rfl, rfl⟩, Ext.below (below_alloc (Below.refl _ _) _), by rw [show (tput cmpI (.leaf : T2) k v).2 = [] from rfl, List.append_nil]; exact HSS.out.below (below_alloc (Below.refl _ _) _)⟩
set_option maxHeartbeats 4000000 in
theorem put_lt (w0 : World) (m aa eb : Nat) (sv fv : Value) (a : Ar N2) (HM : MapAt w0 m aa cmpF sv fv a) (KT : Kit w0 eb m a) (h : Hd) (k' v' : Int) (l r : T2) (hi : Int) (ih : PutSays w0 m eb a l) (k : Int) (hc : k < k') :
    ∀ (W : World) (p : Option Nat) (g : List Hd) (v : Int), St w0 W eb m g → Den w0.heap.size W a p (.node h k' v' l r hi) → Avl (.node h k' v' l r hi) → (T.node h k' v' l r hi).hi ≤ 50000 → (g.length : Int) + 4 * (T.node h k' v' l r hi).hi ≤ 900000 →
    Calls Try.prog 32 #[.pointer (some ⟨eb, 0, none⟩), .pointer (p.map fun b => ⟨b, 0, none⟩), .int .i64 k, .int .i64 v] W fun e w' => (∃ b', e = .returned (.pointer (some ⟨b', 0, none⟩)) ∧ OpenT w0.heap.size w' a b' (bal h k' v' (tput cmpI l k v).1 r).1) ∧ Ext w0.heap.size a W w' ∧ St w0 w' eb m (g ++ ((tput cmpI l k v).2 ++ (bal h k' v' (tput cmpI l k v).1 r).2)) := by
  intro W p g v HS hd av hh hg
  obtain ⟨b, rfl, hd0⟩ := hd
  have HO := Lib.hid (KT.opened W b g h k' v' l r hi HS ⟨b, rfl, hd0⟩)
  obtain ⟨e1, a1, a2, al, ar⟩ := av
  have m0 := mx_le l.hi r.hi
  have l0 := al.nonneg
  have r0 := ar.nonneg
  have hh' : hi ≤ 50000 := hh
  have hg' : (g.length : Int) + 4 * hi ≤ 900000 := hg
  have hmc := Lib.hid (fun (V : World) (hs : St w0 V eb m g) => (show V.cell? ⟨m, 1, none⟩ = some cmpF from (blk_cell (blk_below HM.hm hs.bel) 1).trans rfl))
  have hec := Lib.hid (fun (V : World) (hs : St w0 V eb m g) => (show V.cell? ⟨eb, 0, none⟩ = some (.pointer (some ⟨m, 0, none⟩)) by obtain ⟨gv, he, _⟩ := hs.ed; exact blk_cell he 0))
  clear HS hd0 hh hg
  simp only [Option.map_some, cmpF] at hmc ⊢
  have hck : cmpI k k' = -1 := by unfold cmpI; rw [if_pos hc]
  have hlen := tput_len k v l al
  obtain ⟨avp, hp1, hp2⟩ := tput_avl cmpI k v l al
  have HIH := Lib.hid (fun (V0 V : World) (hb : Below V0.heap.size V0 V) (hs : St w0 V0 eb m g) (q : Option Nat) (hd : Den w0.heap.size V0 a q l) => (ih V q g k v (hs.below hb) ((Ext.below hb).den _ _ hd) al (by omega) (by omega)).mono (R' := fun e w' => (∃ b', e = .returned (.pointer (some ⟨b', 0, none⟩)) ∧ OpenT w0.heap.size w' a b' (tput cmpI l k v).1) ∧ Ext w0.heap.size a V0 w' ∧ St w0 w' eb m (g ++ (tput cmpI l k v).2)) fun _ _ ⟨x1, x2, x3⟩ => ⟨x1, (Ext.below hb).trans x2, x3⟩)
  have HBAL0 := (fun (V : World) (b2 : Nat) (ql qr : Option Nat) (ho : OpenAt w0.heap.size V a b h k' v' l r hi) (hs : St w0 V eb m (g ++ (tput cmpI l k v).2)) (hl : Den w0.heap.size V a (some b2) (tput cmpI l k v).1) (hr : Den w0.heap.size V a qr r) => balance_calls w0 V m a eb b (some b2) qr (g ++ (tput cmpI l k v).2) h k' v' l r hi (tput cmpI l k v).1 r KT hs ho hl hr (by rw [List.length_append]; omega) avp ar (by omega) (by omega))
  simp only [Option.map_some] at HBAL0
  have HBAL := Lib.hid HBAL0
  clear HBAL0 hlen avp hp1 hp2 ih a1 a2 al ar e1 m0
  generalize (bal h k' v' (tput cmpI l k v).1 r) = BB at *
  generalize (tput cmpI l k v) = TT at *
  go_enter Try.func32, Try.ntmps32
  go_wp2_with (first
    | (go_at_call 42; ((refine Calls.mono HO.out ?_); rintro e w1 ⟨rfl, ho, hx, hs⟩; have x0 := hec.out _ hs; have x1 := hmc.out _ hs; obtain ⟨hB, ql, qr, hb, hql, hqr⟩ := id ho; have c3 : w1.cell? ⟨b, 3, none⟩ = some (.int .i64 k') := blk_cell hb 3; have HOA := Lib.hid ho; have HX1 := Lib.hid hx; have HS1 := Lib.hid hs; have HB1 := Lib.hid hb; have HL1 := Lib.hid hql; have HR1 := Lib.hid hqr; clear ho hx hs hb hql hqr))
    | (fail "no arm"))
  go_quiet ((go_at_call 11; exact Calls.quiet_of_same (cmp_calls _ _ _)))
  rw [hck]
  have HB := Lib.hid (Below.refl w1.heap.size w1)
  go_wp2
  have c5 := oc5 HB1.out
  have c6 := oc6 HB1.out
  go_region_held3 (fun V => V.cell? ⟨b, 5, none⟩ = some (.pointer (ql.map fun b => ⟨b, 0, none⟩)) ∧ V.cell? ⟨b, 6, none⟩ = some (.pointer (qr.map fun b => ⟨b, 0, none⟩))) (first | exact ⟨c5, c6⟩ | exact ⟨d5, d6⟩ | exact ⟨e5, e6⟩) (first
    | (go_at_call 32; go_loud ((with_reducible refine Calls.mono (HIH.out w1 _ (by repeat (first | (with_reducible exact HB.out) | apply below_alloc | apply pw_below_drewN | apply below_drew1 | exact HB.out)) HS1.out _ HL1.out) ?_); rintro e w2 ⟨⟨b2, rfl, ho2⟩, hx, hs⟩; have HX2 := Lib.hid hx; have HS2 := Lib.hid hs; have HO2 := Lib.hid ho2; have HB2 := Lib.hid (hx.opn _ _ _ _ _ _ _ HB1.out); have d5 := oc5 HB2.out; have d6 := oc6 HB2.out; clear hx hs ho2))
    | (go_at_call 43; go_loud ((with_reducible refine Calls.mono (HBAL.out _ b2 none qr (HX2.out.openAt HOA.out) HS2.out HO2.out.den (HX2.out.den _ _ HR1.out)) ?_); rintro e w3 ⟨⟨b3, rfl, ho3⟩, hx, hs⟩; have HX3 := Lib.hid (HX2.out.trans hx); have HS3 := Lib.hid hs; have HO3 := Lib.hid ho3; have HB3 := Lib.hid (HX3.out.opn _ _ _ _ _ _ _ HB1.out); have e5 := oc5 HB3.out; have e6 := oc6 HB3.out; clear hx hs ho3))
    | (fail "no arm"))
  go_wp2
  all_goals
    go_ret
    exact ⟨⟨b3, rfl, HO3.out⟩, HX1.out.trans HX3.out, by rw [← List.append_assoc]; exact HS3.out⟩
set_option maxHeartbeats 4000000 in
theorem put_gt (w0 : World) (m aa eb : Nat) (sv fv : Value) (a : Ar N2) (HM : MapAt w0 m aa cmpF sv fv a) (KT : Kit w0 eb m a) (h : Hd) (k' v' : Int) (l r : T2) (hi : Int) (ih : PutSays w0 m eb a r) (k : Int) (hc : k' < k) :
    ∀ (W : World) (p : Option Nat) (g : List Hd) (v : Int), St w0 W eb m g → Den w0.heap.size W a p (.node h k' v' l r hi) → Avl (.node h k' v' l r hi) → (T.node h k' v' l r hi).hi ≤ 50000 → (g.length : Int) + 4 * (T.node h k' v' l r hi).hi ≤ 900000 →
    Calls Try.prog 32 #[.pointer (some ⟨eb, 0, none⟩), .pointer (p.map fun b => ⟨b, 0, none⟩), .int .i64 k, .int .i64 v] W fun e w' => (∃ b', e = .returned (.pointer (some ⟨b', 0, none⟩)) ∧ OpenT w0.heap.size w' a b' (bal h k' v' l (tput cmpI r k v).1).1) ∧ Ext w0.heap.size a W w' ∧ St w0 w' eb m (g ++ ((tput cmpI r k v).2 ++ (bal h k' v' l (tput cmpI r k v).1).2)) := by
  intro W p g v HS hd av hh hg
  obtain ⟨b, rfl, hd0⟩ := hd
  have HO := Lib.hid (KT.opened W b g h k' v' l r hi HS ⟨b, rfl, hd0⟩)
  obtain ⟨e1, a1, a2, al, ar⟩ := av
  have m0 := mx_le l.hi r.hi
  have l0 := al.nonneg
  have r0 := ar.nonneg
  have hh' : hi ≤ 50000 := hh
  have hg' : (g.length : Int) + 4 * hi ≤ 900000 := hg
  have hmc := Lib.hid (fun (V : World) (hs : St w0 V eb m g) => (show V.cell? ⟨m, 1, none⟩ = some cmpF from (blk_cell (blk_below HM.hm hs.bel) 1).trans rfl))
  have hec := Lib.hid (fun (V : World) (hs : St w0 V eb m g) => (show V.cell? ⟨eb, 0, none⟩ = some (.pointer (some ⟨m, 0, none⟩)) by obtain ⟨gv, he, _⟩ := hs.ed; exact blk_cell he 0))
  clear HS hd0 hh hg
  simp only [Option.map_some, cmpF] at hmc ⊢
  have hck : cmpI k k' = 1 := by unfold cmpI; rw [if_neg (by omega), if_pos hc]
  have hlen := tput_len k v r ar
  obtain ⟨avp, hp1, hp2⟩ := tput_avl cmpI k v r ar
  have HIH := Lib.hid (fun (V0 V : World) (hb : Below V0.heap.size V0 V) (hs : St w0 V0 eb m g) (q : Option Nat) (hd : Den w0.heap.size V0 a q r) => (ih V q g k v (hs.below hb) ((Ext.below hb).den _ _ hd) ar (by omega) (by omega)).mono (R' := fun e w' => (∃ b', e = .returned (.pointer (some ⟨b', 0, none⟩)) ∧ OpenT w0.heap.size w' a b' (tput cmpI r k v).1) ∧ Ext w0.heap.size a V0 w' ∧ St w0 w' eb m (g ++ (tput cmpI r k v).2)) fun _ _ ⟨x1, x2, x3⟩ => ⟨x1, (Ext.below hb).trans x2, x3⟩)
  have HBAL0 := (fun (V : World) (b2 : Nat) (ql qr : Option Nat) (ho : OpenAt w0.heap.size V a b h k' v' l r hi) (hs : St w0 V eb m (g ++ (tput cmpI r k v).2)) (hl : Den w0.heap.size V a ql l) (hr : Den w0.heap.size V a (some b2) (tput cmpI r k v).1) => balance_calls w0 V m a eb b ql (some b2) (g ++ (tput cmpI r k v).2) h k' v' l r hi l (tput cmpI r k v).1 KT hs ho hl hr (by rw [List.length_append]; omega) al avp (by omega) (by omega))
  simp only [Option.map_some] at HBAL0
  have HBAL := Lib.hid HBAL0
  clear HBAL0 hlen avp hp1 hp2 ih a1 a2 al ar e1 m0
  generalize (bal h k' v' l (tput cmpI r k v).1) = BB at *
  generalize (tput cmpI r k v) = TT at *
  go_enter Try.func32, Try.ntmps32
  go_wp2_with (first
    | (go_at_call 42; ((refine Calls.mono HO.out ?_); rintro e w1 ⟨rfl, ho, hx, hs⟩; have x0 := hec.out _ hs; have x1 := hmc.out _ hs; obtain ⟨hB, ql, qr, hb, hql, hqr⟩ := id ho; have c3 : w1.cell? ⟨b, 3, none⟩ = some (.int .i64 k') := blk_cell hb 3; have HOA := Lib.hid ho; have HX1 := Lib.hid hx; have HS1 := Lib.hid hs; have HB1 := Lib.hid hb; have HL1 := Lib.hid hql; have HR1 := Lib.hid hqr; clear ho hx hs hb hql hqr))
    | (fail "no arm"))
  go_quiet ((go_at_call 11; exact Calls.quiet_of_same (cmp_calls _ _ _)))
  rw [hck]
  have HB := Lib.hid (Below.refl w1.heap.size w1)
  go_wp2
  have c5 := oc5 HB1.out
  have c6 := oc6 HB1.out
  go_region_held3 (fun V => V.cell? ⟨b, 5, none⟩ = some (.pointer (ql.map fun b => ⟨b, 0, none⟩)) ∧ V.cell? ⟨b, 6, none⟩ = some (.pointer (qr.map fun b => ⟨b, 0, none⟩))) (first | exact ⟨c5, c6⟩ | exact ⟨d5, d6⟩ | exact ⟨e5, e6⟩) (first
    | (go_at_call 32; go_loud ((with_reducible refine Calls.mono (HIH.out w1 _ (by repeat (first | (with_reducible exact HB.out) | apply below_alloc | apply pw_below_drewN | apply below_drew1 | exact HB.out)) HS1.out _ HR1.out) ?_); rintro e w2 ⟨⟨b2, rfl, ho2⟩, hx, hs⟩; have HX2 := Lib.hid hx; have HS2 := Lib.hid hs; have HO2 := Lib.hid ho2; have HB2 := Lib.hid (hx.opn _ _ _ _ _ _ _ HB1.out); have d5 := oc5 HB2.out; have d6 := oc6 HB2.out; clear hx hs ho2))
    | (go_at_call 43; go_loud ((with_reducible refine Calls.mono (HBAL.out _ b2 ql none (HX2.out.openAt HOA.out) HS2.out (HX2.out.den _ _ HL1.out) HO2.out.den) ?_); rintro e w3 ⟨⟨b3, rfl, ho3⟩, hx, hs⟩; have HX3 := Lib.hid (HX2.out.trans hx); have HS3 := Lib.hid hs; have HO3 := Lib.hid ho3; have HB3 := Lib.hid (HX3.out.opn _ _ _ _ _ _ _ HB1.out); have e5 := oc5 HB3.out; have e6 := oc6 HB3.out; clear hx hs ho3))
    | (fail "no arm"))
  go_wp2
  all_goals
    go_ret
    exact ⟨⟨b3, rfl, HO3.out⟩, HX1.out.trans HX3.out, by rw [← List.append_assoc]; exact HS3.out⟩
set_option maxHeartbeats 4000000 in
theorem put_eq (w0 : World) (m aa eb : Nat) (sv fv : Value) (a : Ar N2) (HM : MapAt w0 m aa cmpF sv fv a) (KT : Kit w0 eb m a) (h : Hd) (k' v' : Int) (l r : T2) (hi : Int) (k : Int) (hc : k = k') :
    ∀ (W : World) (p : Option Nat) (g : List Hd) (v : Int), St w0 W eb m g → Den w0.heap.size W a p (.node h k' v' l r hi) → Avl (.node h k' v' l r hi) → (T.node h k' v' l r hi).hi ≤ 50000 → (g.length : Int) + 4 * (T.node h k' v' l r hi).hi ≤ 900000 →
    Calls Try.prog 32 #[.pointer (some ⟨eb, 0, none⟩), .pointer (p.map fun b => ⟨b, 0, none⟩), .int .i64 k, .int .i64 v] W fun e w' => (∃ b', e = .returned (.pointer (some ⟨b', 0, none⟩)) ∧ OpenT w0.heap.size w' a b' (.node H0 k v l r hi)) ∧ Ext w0.heap.size a W w' ∧ St w0 w' eb m (g ++ gh h) := by
  intro W p g v HS hd av hh hg
  obtain ⟨b, rfl, hd0⟩ := hd
  have HO := Lib.hid (KT.opened W b g h k' v' l r hi HS ⟨b, rfl, hd0⟩)
  obtain ⟨e1, a1, a2, al, ar⟩ := av
  have m0 := mx_le l.hi r.hi
  have l0 := al.nonneg
  have r0 := ar.nonneg
  have hh' : hi ≤ 50000 := hh
  have hg' : (g.length : Int) + 4 * hi ≤ 900000 := hg
  have hmc := Lib.hid (fun (V : World) (hs : St w0 V eb m g) => (show V.cell? ⟨m, 1, none⟩ = some cmpF from (blk_cell (blk_below HM.hm hs.bel) 1).trans rfl))
  have hec := Lib.hid (fun (V : World) (hs : St w0 V eb m g) => (show V.cell? ⟨eb, 0, none⟩ = some (.pointer (some ⟨m, 0, none⟩)) by obtain ⟨gv, he, _⟩ := hs.ed; exact blk_cell he 0))
  clear HS hd0 hh hg
  simp only [Option.map_some, cmpF] at hmc ⊢
  have hck : cmpI k k' = 0 := by unfold cmpI; rw [if_neg (by omega), if_neg (by omega)]
  have HLV := Lib.hid (fun (V0 V : World) (hb : Below V0.heap.size V0 V) (ql qr : Option Nat) (hs : St w0 V0 eb m g) (hk : V0.heap[b]? = some (.cells (openC h k' v' ql qr hi) 89 (0, 0))) => (leave_calls w0 V m a eb b g h _ (hs.below hb) (blk_below hk hb) rfl rfl (by omega)).mono (R' := fun e w' => e = .returned (.tuple #[]) ∧ Ext w0.heap.size a V0 w' ∧ St w0 w' eb m (g ++ gh h)) fun _ _ ⟨x1, x2, x3⟩ => ⟨x1, (Ext.below hb).trans x2, x3⟩)
  clear a1 a2 al ar e1 m0 hc
  go_enter Try.func32, Try.ntmps32
  go_wp2_with (first
    | (go_at_call 42; ((refine Calls.mono HO.out ?_); rintro e w1 ⟨rfl, ho, hx, hs⟩; have x0 := hec.out _ hs; have x1 := hmc.out _ hs; obtain ⟨hB, ql, qr, hb, hql, hqr⟩ := id ho; have c3 : w1.cell? ⟨b, 3, none⟩ = some (.int .i64 k') := blk_cell hb 3; have HOA := Lib.hid ho; have HX1 := Lib.hid hx; have HS1 := Lib.hid hs; have HB1 := Lib.hid hb; have HL1 := Lib.hid hql; have HR1 := Lib.hid hqr; clear ho hx hs hb hql hqr))
    | (fail "no arm"))
  go_quiet ((go_at_call 11; exact Calls.quiet_of_same (cmp_calls _ _ _)))
  rw [hck]
  have HB := Lib.hid (Below.refl w1.heap.size w1)
  go_wp2_with (first
    | (go_at_call 44; go_loud ((refine Calls.mono (HLV.out w1 _ (by repeat (first | (with_reducible exact HB.out) | apply below_alloc | apply pw_below_drewN | apply below_drew1 | exact HB.out)) _ _ HS1.out HB1.out) ?_); rintro e w2 ⟨rfl, hx, hs⟩; have HX2 := Lib.hid hx; have HS2 := Lib.hid hs; have HB2 := Lib.hid (hx.opn _ _ _ _ _ _ _ HB1.out); have d5 := oc5 HB2.out; have d6 := oc6 HB2.out; have d7 : w2.cell? ⟨b, 7, none⟩ = some (.int .i64 hi) := blk_cell HB2.out 7; clear hx hs))
    | (fail "no arm"))
  go_region
  go_wp2
  all_goals
    go_ret
    exact ⟨⟨_, rfl, HS2.out.bel.size, ql, qr, blk_new _ _, (Ext.below (by repeat (first | exact Below.refl _ _ | apply below_drew1 | apply below_alloc | apply pw_below_drewN))).den _ _ (HX2.out.den _ _ HL1.out), (Ext.below (by repeat (first | exact Below.refl _ _ | apply below_drew1 | apply below_alloc | apply pw_below_drewN))).den _ _ (HX2.out.den _ _ HR1.out)⟩, HX1.out.trans (HX2.out.trans (Ext.below (by repeat (first | exact Below.refl _ _ | apply below_drew1 | apply below_alloc | apply pw_below_drewN)))), HS2.out.below (by repeat (first | exact Below.refl _ _ | apply below_drew1 | apply below_alloc | apply pw_below_drewN))⟩
theorem put_calls (w0 : World) (m aa eb : Nat) (sv fv : Value) (a : Ar N2) (HM : MapAt w0 m aa cmpF sv fv a) : ∀ (t : T2), PutSays w0 m eb a t
  | .leaf => put_leaf w0 m eb a
  | .node h k' v' l r hi => by
    have il := put_calls w0 m aa eb sv fv a HM l
    have ir := put_calls w0 m aa eb sv fv a HM r
    have KT := kit eb HM
    intro W p g k v HS hd av hh hg
    rw [tput]
    unfold cmpI
    by_cases h1 : k < k'
    · rw [if_pos h1, if_pos (by decide)]
      exact put_lt w0 m aa eb sv fv a HM KT h k' v' l r hi il k h1 W p g v HS hd av hh hg
    · by_cases h2 : k' < k
      · rw [if_neg h1, if_pos h2, if_neg (by decide), if_pos (by decide)]
        exact put_gt w0 m aa eb sv fv a HM KT h k' v' l r hi ir k h2 W p g v HS hd av hh hg
      · rw [if_neg h1, if_neg h2, if_neg (by decide), if_neg (by decide)]
        exact put_eq w0 m aa eb sv fv a HM KT h k' v' l r hi k (by omega) W p g v HS hd av hh hg
end Go.Proofs.Ytmhfbpdahfepgaa.Pm
/- Package pmap's least. -/
namespace Go.Proofs.Ytmhfbpdahfepgaa.Pm
open Go.RowKit Go.Proofs.YtmhfbpdahfepgaaW.PrintWords
theorem tleast_len : ∀ (l : T2) (h : Hd) (k v : Int) (r : T2) (hi : Int), Avl (.node h k v l r hi) → ((tleast h k v l r).2.2.length : Int) ≤ 4 * hi
  | .leaf, h, k, v, r, hi, a => by
    have e : hi = 1 + mx 0 r.hi := a.1
    have m0 := mx_le 0 r.hi
    rw [tleast]
    show ((0 : Nat) : Int) ≤ 4 * hi
    omega
  | .node h' k' v' l' r' hi', h, k, v, r, hi, a => by
    have e := a.1
    have m0 := mx_le hi' r.hi
    have hh : (T.node h' k' v' l' r' hi').hi = hi' := rfl
    rw [hh] at e
    have h1 := tleast_len l' h' k' v' r' hi' a.2.2.2.1
    rw [tleast]
    have h2 := bal_len (oh := h) (ok := k) (ov := v) (l := (tleast h' k' v' l' r').2.1) (r := r)
    dsimp only
    rw [List.length_append]; omega
def LeastSays (w0 : World) (m eb : Nat) (a : Ar N2) (l : T2) : Prop :=
  ∀ (h : Hd) (k v : Int) (r : T2) (hi : Int) (W : World) (p : Option Nat) (g : List Hd), St w0 W eb m g → Den w0.heap.size W a p (.node h k v l r hi) → Avl (.node h k v l r hi) → hi ≤ 50000 → (g.length : Int) + 4 * hi ≤ 900000 →
    Calls Try.prog 46 #[.pointer (some ⟨eb, 0, none⟩), .pointer (p.map fun b => ⟨b, 0, none⟩)] W fun e w' => (∃ b' q l0 r0 hi0, e = .returned (.tuple #[.pointer (some ⟨b', 0, none⟩), .pointer (q.map fun b => ⟨b, 0, none⟩)]) ∧ OpenAt w0.heap.size w' a b' (tleast h k v l r).1.1 (tleast h k v l r).1.2.1 (tleast h k v l r).1.2.2 l0 r0 hi0 ∧ Den w0.heap.size w' a q (tleast h k v l r).2.1) ∧ Ext w0.heap.size a W w' ∧ St w0 w' eb m (g ++ (tleast h k v l r).2.2)
set_option maxHeartbeats 4000000 in
theorem least_leaf (w0 : World) (m eb : Nat) (a : Ar N2) (KT : Kit w0 eb m a) : LeastSays w0 m eb a .leaf := by
  intro h k v r hi W p g HS hd av hh hg
  obtain ⟨b, rfl, hd0⟩ := hd
  have HO := Lib.hid (KT.opened W b g h k v .leaf r hi HS ⟨b, rfl, hd0⟩)
  clear HS hd0 hh hg av KT
  simp only [Option.map_some, tleast, List.append_nil] at *
  go_enter Try.func46, Try.ntmps46
  go_wp2_with (first
    | (go_at_call 42; ((refine Calls.mono HO.out ?_); rintro e w1 ⟨rfl, ho, hx, hs⟩; obtain ⟨hB, ql, qr, hb, hql, hqr⟩ := id ho; cases hql; have HOA := Lib.hid ho; have HX1 := Lib.hid hx; have HS1 := Lib.hid hs; have HB1 := Lib.hid hb; have HR1 := Lib.hid hqr; have c5 := oc5 hb; have c6 := oc6 hb; simp only [Option.map_none] at c5; clear ho hx hs hb hqr))
    | (fail "no arm"))
  go_quiet (fail)
  go_wp2
  go_ret2
  have hz : Below w1.heap.size w1 (w1.drewN nq) := by repeat (first | exact Below.refl _ _ | apply below_drew1 | apply below_alloc | apply pw_below_drewN)
  exact ⟨⟨b, qr, .leaf, r, hi, rfl, (Ext.below hz).openAt HOA.out, (Ext.below hz).den _ _ HR1.out⟩, HX1.out.trans (Ext.below hz), HS1.out.below hz⟩
set_option maxHeartbeats 4000000 in
theorem least_node (w0 : World) (m eb : Nat) (a : Ar N2) (KT : Kit w0 eb m a) (h' : Hd) (k' v' : Int) (l' r' : T2) (hi' : Int) (ih : LeastSays w0 m eb a l') : LeastSays w0 m eb a (.node h' k' v' l' r' hi') := by
  intro h k v r hi W p g HS hd av hh hg
  obtain ⟨b, rfl, hd0⟩ := hd
  have HO := Lib.hid (KT.opened W b g h k v (.node h' k' v' l' r' hi') r hi HS ⟨b, rfl, hd0⟩)
  obtain ⟨e1, a1, a2, al, ar⟩ := av
  have m0 := mx_le hi' r.hi
  have hh' : (T.node h' k' v' l' r' hi').hi = hi' := rfl
  rw [hh'] at e1 a1 a2
  have l0 : 0 ≤ hi' := al.nonneg
  have r0 := ar.nonneg
  have hlen := tleast_len l' h' k' v' r' hi' al
  obtain ⟨avp, hp1, hp2⟩ := tleast_avl l' h' k' v' r' hi' al
  have HIH0 := (fun (V : World) (b5 : Nat) (hs : St w0 V eb m g) (hd : Den w0.heap.size V a (some b5) (.node h' k' v' l' r' hi')) => ih h' k' v' r' hi' V (some b5) g hs hd al (by omega) (by omega))
  have HBAL0 := (fun (V : World) (q qr : Option Nat) (ho : OpenAt w0.heap.size V a b h k v (.node h' k' v' l' r' hi') r hi) (hs : St w0 V eb m (g ++ (tleast h' k' v' l' r').2.2)) (hl : Den w0.heap.size V a q (tleast h' k' v' l' r').2.1) (hr : Den w0.heap.size V a qr r) => balance_calls w0 V m a eb b q qr (g ++ (tleast h' k' v' l' r').2.2) h k v (.node h' k' v' l' r' hi') r hi (tleast h' k' v' l' r').2.1 r KT hs ho hl hr (by rw [List.length_append]; omega) avp ar (by omega) (by omega))
  simp only [Option.map_some] at HIH0
  have HIH := Lib.hid HIH0
  have HBAL := Lib.hid HBAL0
  rw [tleast]
  dsimp only
  clear HIH0 HBAL0 HS hd0 hh hg KT hlen avp hp1 hp2 ih a1 a2 al ar e1 m0
  trace "A"
  generalize (bal h k v (tleast h' k' v' l' r').2.1 r) = BB at *
  generalize (tleast h' k' v' l' r') = TT at *
  trace "B"
  simp only [Option.map_some]
  go_enter Try.func46, Try.ntmps46
  go_wp2_with (first
    | (go_at_call 42; ((refine Calls.mono HO.out ?_); rintro e w1 ⟨rfl, ho, hx, hs⟩; obtain ⟨hB, ql, qr, hb, hql, hqr⟩ := id ho; obtain ⟨b5, rfl, hrest⟩ := id hql; clear hrest; have HOA := Lib.hid ho; have HX1 := Lib.hid hx; have HS1 := Lib.hid hs; have HB1 := Lib.hid hb; have HL1 := Lib.hid hql; have HR1 := Lib.hid hqr; have c5 := oc5 hb; have c6 := oc6 hb; simp only [Option.map_some] at c5; clear ho hx hs hb hql hqr))
    | (go_at_call 46; ((with_reducible refine Calls.mono (HIH.out _ _ HS1.out HL1.out) ?_); rintro e w2 ⟨⟨b2, q2, l2, r2, hi2, rfl, ho2, hd2⟩, hx, hs⟩; have HX2 := Lib.hid hx; have HS2 := Lib.hid hs; have HO2 := Lib.hid ho2; have HD2 := Lib.hid hd2; have HB2 := Lib.hid (hx.opn _ _ _ _ _ _ _ HB1.out); have d6 := oc6 HB2.out; clear hx hs ho2 hd2))
    | (go_at_call 43; ((with_reducible refine Calls.mono (HBAL.out _ _ _ (HX2.out.openAt HOA.out) HS2.out HD2.out (HX2.out.den _ _ HR1.out)) ?_); rintro e w3 ⟨⟨b3, rfl, ho3⟩, hx, hs⟩; have HX3 := Lib.hid hx; have HS3 := Lib.hid hs; have HO3 := Lib.hid ho3; clear hx hs ho3))
    | (fail "no arm"))
  go_ret2
  exact ⟨⟨b2, some b3, l2, r2, hi2, rfl, HX3.out.openAt HO2.out, HO3.out.den⟩, HX1.out.trans (HX2.out.trans HX3.out), by rw [← List.append_assoc]; exact HS3.out⟩
theorem least_calls (w0 : World) (m eb : Nat) (a : Ar N2) (KT : Kit w0 eb m a) : ∀ (l : T2), LeastSays w0 m eb a l
  | .leaf => least_leaf w0 m eb a KT
  | .node h' k' v' l' r' hi' => least_node w0 m eb a KT h' k' v' l' r' hi' (least_calls w0 m eb a KT l')
def Has {K V : Type} (cmp : K → K → Int) (k : K) : T K V → Prop
  | .leaf => False
  | .node _ k' _ l r _ => (cmp k k' < 0 → Has cmp k l) ∧ (¬ cmp k k' < 0 → 0 < cmp k k' → Has cmp k r)
theorem tdel_len (k : Int) : ∀ (t : T2), Avl t → ((tdel cmpI t k).2.length : Int) ≤ 4 * t.hi
  | .leaf, _ => by show ((0 : Nat) : Int) ≤ 4 * 0; decide
  | .node h k' v' l r hi, a => by
    have ha := a.1
    have m0 := mx_le l.hi r.hi
    have l0 := a.2.2.2.1.nonneg
    have r0 := a.2.2.2.2.nonneg
    have g0 := gh_len h
    have hh : (T.node h k' v' l r hi).hi = hi := rfl
    rw [hh]
    by_cases h1 : cmpI k k' < 0
    · rw [tdel_lt h1]
      have h1 := tdel_len k l a.2.2.2.1
      have h2 := bal_len (oh := h) (ok := k') (ov := v') (l := (tdel cmpI l k).1) (r := r)
      dsimp only
      rw [List.length_append]; omega
    · by_cases h2 : 0 < cmpI k k'
      · rw [tdel_gt h1 h2]
        have h1 := tdel_len k r a.2.2.2.2
        have h2 := bal_len (oh := h) (ok := k') (ov := v') (l := l) (r := (tdel cmpI r k).1)
        dsimp only
        rw [List.length_append]; omega
      · cases l with
        | leaf => rw [tdel_l h1 h2]; dsimp only; omega
        | node lh lk lv ll lr lhi =>
          cases r with
          | leaf => rw [tdel_r h1 h2]; dsimp only; omega
          | node rh rk rv rl rr rhi =>
            have h3 := tleast_len rl rh rk rv rr rhi a.2.2.2.2
            have hr : (T.node rh rk rv rl rr rhi).hi = rhi := rfl
            rw [tdel_m h1 h2]
            have h4 := bal_len (oh := (tleast rh rk rv rl rr).1.1) (ok := (tleast rh rk rv rl rr).1.2.1) (ov := (tleast rh rk rv rl rr).1.2.2) (l := (.node lh lk lv ll lr lhi)) (r := (tleast rh rk rv rl rr).2.1)
            dsimp only
            rw [List.length_append, List.length_append]; omega
end Go.Proofs.Ytmhfbpdahfepgaa.Pm
/- Package pmap's del. -/
namespace Go.Proofs.Ytmhfbpdahfepgaa.Pm
open Go.RowKit Go.Proofs.YtmhfbpdahfepgaaW.PrintWords
def DelSays (w0 : World) (m eb : Nat) (a : Ar N2) (k : Int) (t : T2) : Prop :=
  ∀ (W : World) (p : Option Nat) (g : List Hd), St w0 W eb m g → Den w0.heap.size W a p t → Avl t → Has cmpI k t → t.hi ≤ 50000 → (g.length : Int) + 4 * t.hi ≤ 900000 →
    Calls Try.prog 37 #[.pointer (some ⟨eb, 0, none⟩), .pointer (p.map fun b => ⟨b, 0, none⟩), .int .i64 k] W fun e w' => (∃ q, e = .returned (.pointer (q.map fun b => ⟨b, 0, none⟩)) ∧ Den w0.heap.size w' a q (tdel cmpI t k).1) ∧ Ext w0.heap.size a W w' ∧ St w0 w' eb m (g ++ (tdel cmpI t k).2)
set_option maxHeartbeats 4000000 in
theorem del_lt (w0 : World) (m aa eb : Nat) (sv fv : Value) (a : Ar N2) (HM : MapAt w0 m aa cmpF sv fv a) (KT : Kit w0 eb m a) (h : Hd) (k' v' : Int) (l r : T2) (hi : Int) (k : Int) (ih : DelSays w0 m eb a k l) (hc : k < k') : DelSays w0 m eb a k (.node h k' v' l r hi) := by
  intro W p g HS hd av hhas hh hg
  obtain ⟨b, rfl, hd0⟩ := hd
  have HO := Lib.hid (KT.opened W b g h k' v' l r hi HS ⟨b, rfl, hd0⟩)
  obtain ⟨e1, a1, a2, al, ar⟩ := av
  have m0 := mx_le l.hi r.hi
  have l0 := al.nonneg
  have r0 := ar.nonneg
  have hh' : hi ≤ 50000 := hh
  have hg' : (g.length : Int) + 4 * hi ≤ 900000 := hg
  have hmc := Lib.hid (fun (V : World) (hs : St w0 V eb m g) => (show V.cell? ⟨m, 1, none⟩ = some cmpF from (blk_cell (blk_below HM.hm hs.bel) 1).trans rfl))
  have hec := Lib.hid (fun (V : World) (hs : St w0 V eb m g) => (show V.cell? ⟨eb, 0, none⟩ = some (.pointer (some ⟨m, 0, none⟩)) by obtain ⟨gv, he, _⟩ := hs.ed; exact blk_cell he 0))
  clear HS hd0 hh hg
  simp only [Option.map_some, cmpF] at hmc ⊢
  have hck : cmpI k k' = -1 := by unfold cmpI; rw [if_pos hc]
  have hs1 : Has cmpI k l := hhas.1 (by rw [hck]; decide)
  have hlen := tdel_len k l al
  obtain ⟨avp, hp1, hp2⟩ := tdel_avl cmpI k l al
  have HIH := Lib.hid (fun (V0 V : World) (hb : Below V0.heap.size V0 V) (hs : St w0 V0 eb m g) (q : Option Nat) (hd : Den w0.heap.size V0 a q l) => (ih V q g (hs.below hb) ((Ext.below hb).den _ _ hd) al hs1 (by omega) (by omega)).mono (R' := fun e w' => (∃ q, e = .returned (.pointer (q.map fun b => ⟨b, 0, none⟩)) ∧ Den w0.heap.size w' a q (tdel cmpI l k).1) ∧ Ext w0.heap.size a V0 w' ∧ St w0 w' eb m (g ++ (tdel cmpI l k).2)) fun _ _ ⟨x1, x2, x3⟩ => ⟨x1, (Ext.below hb).trans x2, x3⟩)
  have HBAL := Lib.hid (fun (V : World) (ql qr : Option Nat) (ho : OpenAt w0.heap.size V a b h k' v' l r hi) (hs : St w0 V eb m (g ++ (tdel cmpI l k).2)) (hl : Den w0.heap.size V a ql (tdel cmpI l k).1) (hr : Den w0.heap.size V a qr r) => balance_calls w0 V m a eb b ql qr (g ++ (tdel cmpI l k).2) h k' v' l r hi (tdel cmpI l k).1 r KT hs ho hl hr (by rw [List.length_append]; omega) avp ar (by omega) (by omega))
  rw [tdel_lt (by rw [hck]; decide)]
  dsimp only
  clear hlen avp hp1 hp2 ih a1 a2 al ar e1 m0 hhas hs1
  generalize (bal h k' v' (tdel cmpI l k).1 r) = BB at *
  generalize (tdel cmpI l k) = TT at *
  go_enter Try.func37, Try.ntmps37
  go_wp2_with (first
    | (go_at_call 42; ((refine Calls.mono HO.out ?_); rintro e w1 ⟨rfl, ho, hx, hs⟩; have x0 := hec.out _ hs; have x1 := hmc.out _ hs; obtain ⟨hB, ql, qr, hb, hql, hqr⟩ := id ho; have c3 : w1.cell? ⟨b, 3, none⟩ = some (.int .i64 k') := blk_cell hb 3; have HOA := Lib.hid ho; have HX1 := Lib.hid hx; have HS1 := Lib.hid hs; have HB1 := Lib.hid hb; have HL1 := Lib.hid hql; have HR1 := Lib.hid hqr; clear ho hx hs hb hql hqr))
    | (fail "no arm"))
  go_quiet ((go_at_call 11; exact Calls.quiet_of_same (cmp_calls _ _ _)))
  rw [hck]
  have HB := Lib.hid (Below.refl w1.heap.size w1)
  go_wp2
  have c5 := oc5 HB1.out
  have c6 := oc6 HB1.out
  go_region_held3 (fun V => V.cell? ⟨b, 5, none⟩ = some (.pointer (ql.map fun b => ⟨b, 0, none⟩)) ∧ V.cell? ⟨b, 6, none⟩ = some (.pointer (qr.map fun b => ⟨b, 0, none⟩))) (first | exact ⟨c5, c6⟩ | exact ⟨d5, d6⟩ | exact ⟨e5, e6⟩) (first
    | (go_at_call 37; go_loud ((with_reducible refine Calls.mono (HIH.out w1 _ (by repeat (first | (with_reducible exact HB.out) | apply below_alloc | apply pw_below_drewN | apply below_drew1 | exact HB.out)) HS1.out _ HL1.out) ?_); rintro e w2 ⟨⟨q2, rfl, hd2⟩, hx, hs⟩; have HX2 := Lib.hid hx; have HS2 := Lib.hid hs; have HD2 := Lib.hid hd2; have HB2 := Lib.hid (hx.opn _ _ _ _ _ _ _ HB1.out); have d5 := oc5 HB2.out; have d6 := oc6 HB2.out; clear hx hs hd2))
    | (go_at_call 43; go_loud ((with_reducible refine Calls.mono (HBAL.out _ _ _ (HX2.out.openAt HOA.out) HS2.out HD2.out (HX2.out.den _ _ HR1.out)) ?_); rintro e w3 ⟨⟨b3, rfl, ho3⟩, hx, hs⟩; have HX3 := Lib.hid (HX2.out.trans hx); have HS3 := Lib.hid hs; have HO3 := Lib.hid ho3; have HB3 := Lib.hid (HX3.out.opn _ _ _ _ _ _ _ HB1.out); have e5 := oc5 HB3.out; have e6 := oc6 HB3.out; clear hx hs ho3))
    | (fail "no arm"))
  go_wp2
  all_goals
    go_ret
    exact ⟨⟨some b3, rfl, HO3.out.den⟩, HX1.out.trans HX3.out, by rw [← List.append_assoc]; exact HS3.out⟩
set_option maxHeartbeats 4000000 in
theorem del_gt (w0 : World) (m aa eb : Nat) (sv fv : Value) (a : Ar N2) (HM : MapAt w0 m aa cmpF sv fv a) (KT : Kit w0 eb m a) (h : Hd) (k' v' : Int) (l r : T2) (hi : Int) (k : Int) (ih : DelSays w0 m eb a k r) (hc : k' < k) : DelSays w0 m eb a k (.node h k' v' l r hi) := by
  intro W p g HS hd av hhas hh hg
  obtain ⟨b, rfl, hd0⟩ := hd
  have HO := Lib.hid (KT.opened W b g h k' v' l r hi HS ⟨b, rfl, hd0⟩)
  obtain ⟨e1, a1, a2, al, ar⟩ := av
  have m0 := mx_le l.hi r.hi
  have l0 := al.nonneg
  have r0 := ar.nonneg
  have hh' : hi ≤ 50000 := hh
  have hg' : (g.length : Int) + 4 * hi ≤ 900000 := hg
  have hmc := Lib.hid (fun (V : World) (hs : St w0 V eb m g) => (show V.cell? ⟨m, 1, none⟩ = some cmpF from (blk_cell (blk_below HM.hm hs.bel) 1).trans rfl))
  have hec := Lib.hid (fun (V : World) (hs : St w0 V eb m g) => (show V.cell? ⟨eb, 0, none⟩ = some (.pointer (some ⟨m, 0, none⟩)) by obtain ⟨gv, he, _⟩ := hs.ed; exact blk_cell he 0))
  clear HS hd0 hh hg
  simp only [Option.map_some, cmpF] at hmc ⊢
  have hck : cmpI k k' = 1 := by unfold cmpI; rw [if_neg (by omega), if_pos hc]
  have hs1 : Has cmpI k r := hhas.2 (by rw [hck]; decide) (by rw [hck]; decide)
  have hlen := tdel_len k r ar
  obtain ⟨avp, hp1, hp2⟩ := tdel_avl cmpI k r ar
  have HIH := Lib.hid (fun (V0 V : World) (hb : Below V0.heap.size V0 V) (hs : St w0 V0 eb m g) (q : Option Nat) (hd : Den w0.heap.size V0 a q r) => (ih V q g (hs.below hb) ((Ext.below hb).den _ _ hd) ar hs1 (by omega) (by omega)).mono (R' := fun e w' => (∃ q, e = .returned (.pointer (q.map fun b => ⟨b, 0, none⟩)) ∧ Den w0.heap.size w' a q (tdel cmpI r k).1) ∧ Ext w0.heap.size a V0 w' ∧ St w0 w' eb m (g ++ (tdel cmpI r k).2)) fun _ _ ⟨x1, x2, x3⟩ => ⟨x1, (Ext.below hb).trans x2, x3⟩)
  have HBAL := Lib.hid (fun (V : World) (ql qr : Option Nat) (ho : OpenAt w0.heap.size V a b h k' v' l r hi) (hs : St w0 V eb m (g ++ (tdel cmpI r k).2)) (hl : Den w0.heap.size V a ql l) (hr : Den w0.heap.size V a qr (tdel cmpI r k).1) => balance_calls w0 V m a eb b ql qr (g ++ (tdel cmpI r k).2) h k' v' l r hi l (tdel cmpI r k).1 KT hs ho hl hr (by rw [List.length_append]; omega) al avp (by omega) (by omega))
  rw [tdel_gt (by rw [hck]; decide) (by rw [hck]; decide)]
  dsimp only
  clear hlen avp hp1 hp2 ih a1 a2 al ar e1 m0 hhas hs1
  generalize (bal h k' v' l (tdel cmpI r k).1) = BB at *
  generalize (tdel cmpI r k) = TT at *
  go_enter Try.func37, Try.ntmps37
  go_wp2_with (first
    | (go_at_call 42; ((refine Calls.mono HO.out ?_); rintro e w1 ⟨rfl, ho, hx, hs⟩; have x0 := hec.out _ hs; have x1 := hmc.out _ hs; obtain ⟨hB, ql, qr, hb, hql, hqr⟩ := id ho; have c3 : w1.cell? ⟨b, 3, none⟩ = some (.int .i64 k') := blk_cell hb 3; have HOA := Lib.hid ho; have HX1 := Lib.hid hx; have HS1 := Lib.hid hs; have HB1 := Lib.hid hb; have HL1 := Lib.hid hql; have HR1 := Lib.hid hqr; clear ho hx hs hb hql hqr))
    | (fail "no arm"))
  go_quiet ((go_at_call 11; exact Calls.quiet_of_same (cmp_calls _ _ _)))
  rw [hck]
  have HB := Lib.hid (Below.refl w1.heap.size w1)
  go_wp2
  have c5 := oc5 HB1.out
  have c6 := oc6 HB1.out
  go_region_held3 (fun V => V.cell? ⟨b, 5, none⟩ = some (.pointer (ql.map fun b => ⟨b, 0, none⟩)) ∧ V.cell? ⟨b, 6, none⟩ = some (.pointer (qr.map fun b => ⟨b, 0, none⟩))) (first | exact ⟨c5, c6⟩ | exact ⟨d5, d6⟩ | exact ⟨e5, e6⟩) (first
    | (go_at_call 37; go_loud ((with_reducible refine Calls.mono (HIH.out w1 _ (by repeat (first | (with_reducible exact HB.out) | apply below_alloc | apply pw_below_drewN | apply below_drew1 | exact HB.out)) HS1.out _ HR1.out) ?_); rintro e w2 ⟨⟨q2, rfl, hd2⟩, hx, hs⟩; have HX2 := Lib.hid hx; have HS2 := Lib.hid hs; have HD2 := Lib.hid hd2; have HB2 := Lib.hid (hx.opn _ _ _ _ _ _ _ HB1.out); have d5 := oc5 HB2.out; have d6 := oc6 HB2.out; clear hx hs hd2))
    | (go_at_call 43; go_loud ((with_reducible refine Calls.mono (HBAL.out _ _ _ (HX2.out.openAt HOA.out) HS2.out (HX2.out.den _ _ HL1.out) HD2.out) ?_); rintro e w3 ⟨⟨b3, rfl, ho3⟩, hx, hs⟩; have HX3 := Lib.hid (HX2.out.trans hx); have HS3 := Lib.hid hs; have HO3 := Lib.hid ho3; have HB3 := Lib.hid (HX3.out.opn _ _ _ _ _ _ _ HB1.out); have e5 := oc5 HB3.out; have e6 := oc6 HB3.out; clear hx hs ho3))
    | (fail "no arm"))
  go_wp2
  all_goals
    go_ret
    exact ⟨⟨some b3, rfl, HO3.out.den⟩, HX1.out.trans HX3.out, by rw [← List.append_assoc]; exact HS3.out⟩
set_option maxHeartbeats 4000000 in
theorem del_l (w0 : World) (m aa eb : Nat) (sv fv : Value) (a : Ar N2) (HM : MapAt w0 m aa cmpF sv fv a) (KT : Kit w0 eb m a) (h : Hd) (k' v' : Int) (r : T2) (hi : Int) (k : Int) (hc : k = k') : DelSays w0 m eb a k (.node h k' v' .leaf r hi) := by
  intro W p g HS hd av hhas hh hg
  obtain ⟨b, rfl, hd0⟩ := hd
  have HO := Lib.hid (KT.opened W b g h k' v' .leaf r hi HS ⟨b, rfl, hd0⟩)
  obtain ⟨e1, a1, a2, al, ar⟩ := av
  have m0 := mx_le (T.hi (.leaf : T2)) (T.hi (r : T2))
  have l0 := al.nonneg
  have r0 := ar.nonneg
  have hh' : hi ≤ 50000 := hh
  have hg' : (g.length : Int) + 4 * hi ≤ 900000 := hg
  have hmc := Lib.hid (fun (V : World) (hs : St w0 V eb m g) => (show V.cell? ⟨m, 1, none⟩ = some cmpF from (blk_cell (blk_below HM.hm hs.bel) 1).trans rfl))
  have hec := Lib.hid (fun (V : World) (hs : St w0 V eb m g) => (show V.cell? ⟨eb, 0, none⟩ = some (.pointer (some ⟨m, 0, none⟩)) by obtain ⟨gv, he, _⟩ := hs.ed; exact blk_cell he 0))
  have hck : cmpI k k' = 0 := by unfold cmpI; rw [if_neg (by omega), if_neg (by omega)]
  have HLV := Lib.hid (fun (V0 V : World) (hb : Below V0.heap.size V0 V) (ql qr : Option Nat) (hs : St w0 V0 eb m g) (hk : V0.heap[b]? = some (.cells (openC h k' v' ql qr hi) 89 (0, 0))) => (leave_calls w0 V m a eb b g h _ (hs.below hb) (blk_below hk hb) rfl rfl (by omega)).mono (R' := fun e w' => e = .returned (.tuple #[]) ∧ Ext w0.heap.size a V0 w' ∧ St w0 w' eb m (g ++ gh h)) fun _ _ ⟨x1, x2, x3⟩ => ⟨x1, (Ext.below hb).trans x2, x3⟩)
  rw [tdel_l (by rw [hck]; decide) (by rw [hck]; decide)]
  dsimp only
  clear a1 a2 al ar e1 m0 hc hhas HS hd0 hh hg
  simp only [Option.map_some, cmpF] at hmc ⊢
  go_enter Try.func37, Try.ntmps37
  go_wp2_with (first
    | (go_at_call 42; ((refine Calls.mono HO.out ?_); rintro e w1 ⟨rfl, ho, hx, hs⟩; have x0 := hec.out _ hs; have x1 := hmc.out _ hs; obtain ⟨hB, ql, qr, hb, hql, hqr⟩ := id ho; have c3 : w1.cell? ⟨b, 3, none⟩ = some (.int .i64 k') := blk_cell hb 3; have HOA := Lib.hid ho; have HX1 := Lib.hid hx; have HS1 := Lib.hid hs; have HB1 := Lib.hid hb; have HL1 := Lib.hid hql; have HR1 := Lib.hid hqr; clear ho hx hs hb hql hqr))
    | (fail "no arm"))
  go_quiet ((go_at_call 11; exact Calls.quiet_of_same (cmp_calls _ _ _)))
  rw [hck]
  have HB := Lib.hid (Below.refl w1.heap.size w1)
  go_wp2_with (first
    | (go_at_call 44; go_loud ((with_reducible refine Calls.mono (HLV.out w1 _ (by repeat (first | (with_reducible exact HB.out) | apply below_alloc | apply pw_below_drewN | apply below_drew1 | exact HB.out)) _ _ HS1.out HB1.out) ?_); rintro e w2 ⟨rfl, hx, hs⟩; have HX2 := Lib.hid hx; have HS2 := Lib.hid hs; have HB2 := Lib.hid (hx.opn _ _ _ _ _ _ _ HB1.out); have d5 := oc5 HB2.out; have d6 := oc6 HB2.out; have hq0 : ql = none := HL1.out; rw [hq0] at d5; simp only [Option.map_none] at d5; clear hx hs))
    | (fail "no arm"))
  all_goals
    go_ret
    exact ⟨⟨_, rfl, HX2.out.den _ _ HR1.out⟩, HX1.out.trans HX2.out, HS2.out⟩
set_option maxHeartbeats 4000000 in
theorem del_r (w0 : World) (m aa eb : Nat) (sv fv : Value) (a : Ar N2) (HM : MapAt w0 m aa cmpF sv fv a) (KT : Kit w0 eb m a) (h : Hd) (k' v' : Int) (lh : Hd) (lk lv : Int) (ll lr : T2) (lhi : Int) (hi : Int) (k : Int) (hc : k = k') : DelSays w0 m eb a k (.node h k' v' (.node lh lk lv ll lr lhi) .leaf hi) := by
  intro W p g HS hd av hhas hh hg
  obtain ⟨b, rfl, hd0⟩ := hd
  have HO := Lib.hid (KT.opened W b g h k' v' (.node lh lk lv ll lr lhi) .leaf hi HS ⟨b, rfl, hd0⟩)
  obtain ⟨e1, a1, a2, al, ar⟩ := av
  have m0 := mx_le (T.hi ((.node lh lk lv ll lr lhi) : T2)) (T.hi (.leaf : T2))
  have l0 := al.nonneg
  have r0 := ar.nonneg
  have hh' : hi ≤ 50000 := hh
  have hg' : (g.length : Int) + 4 * hi ≤ 900000 := hg
  have hmc := Lib.hid (fun (V : World) (hs : St w0 V eb m g) => (show V.cell? ⟨m, 1, none⟩ = some cmpF from (blk_cell (blk_below HM.hm hs.bel) 1).trans rfl))
  have hec := Lib.hid (fun (V : World) (hs : St w0 V eb m g) => (show V.cell? ⟨eb, 0, none⟩ = some (.pointer (some ⟨m, 0, none⟩)) by obtain ⟨gv, he, _⟩ := hs.ed; exact blk_cell he 0))
  have hck : cmpI k k' = 0 := by unfold cmpI; rw [if_neg (by omega), if_neg (by omega)]
  have HLV := Lib.hid (fun (V0 V : World) (hb : Below V0.heap.size V0 V) (ql qr : Option Nat) (hs : St w0 V0 eb m g) (hk : V0.heap[b]? = some (.cells (openC h k' v' ql qr hi) 89 (0, 0))) => (leave_calls w0 V m a eb b g h _ (hs.below hb) (blk_below hk hb) rfl rfl (by omega)).mono (R' := fun e w' => e = .returned (.tuple #[]) ∧ Ext w0.heap.size a V0 w' ∧ St w0 w' eb m (g ++ gh h)) fun _ _ ⟨x1, x2, x3⟩ => ⟨x1, (Ext.below hb).trans x2, x3⟩)
  rw [tdel_r (by rw [hck]; decide) (by rw [hck]; decide)]
  dsimp only
  clear a1 a2 al ar e1 m0 hc hhas HS hd0 hh hg
  simp only [Option.map_some, cmpF] at hmc ⊢
  go_enter Try.func37, Try.ntmps37
  go_wp2_with (first
    | (go_at_call 42; ((refine Calls.mono HO.out ?_); rintro e w1 ⟨rfl, ho, hx, hs⟩; have x0 := hec.out _ hs; have x1 := hmc.out _ hs; obtain ⟨hB, ql, qr, hb, hql, hqr⟩ := id ho; have c3 : w1.cell? ⟨b, 3, none⟩ = some (.int .i64 k') := blk_cell hb 3; have HOA := Lib.hid ho; have HX1 := Lib.hid hx; have HS1 := Lib.hid hs; have HB1 := Lib.hid hb; have HL1 := Lib.hid hql; have HR1 := Lib.hid hqr; clear ho hx hs hb hql hqr))
    | (fail "no arm"))
  go_quiet ((go_at_call 11; exact Calls.quiet_of_same (cmp_calls _ _ _)))
  rw [hck]
  have HB := Lib.hid (Below.refl w1.heap.size w1)
  go_wp2_with (first
    | (go_at_call 44; go_loud ((with_reducible refine Calls.mono (HLV.out w1 _ (by repeat (first | (with_reducible exact HB.out) | apply below_alloc | apply pw_below_drewN | apply below_drew1 | exact HB.out)) _ _ HS1.out HB1.out) ?_); rintro e w2 ⟨rfl, hx, hs⟩; have HX2 := Lib.hid hx; have HS2 := Lib.hid hs; have HB2 := Lib.hid (hx.opn _ _ _ _ _ _ _ HB1.out); have d5 := oc5 HB2.out; have d6 := oc6 HB2.out; obtain ⟨b5, hq5, hd5⟩ := id HL1.out; clear hd5; rw [hq5] at d5; simp only [Option.map_some] at d5; have hq6 : qr = none := HR1.out; rw [hq6] at d6; simp only [Option.map_none] at d6; clear hx hs))
    | (fail "no arm"))
  all_goals
    go_ret
    exact ⟨⟨some b5, rfl, by rw [← hq5]; exact HX2.out.den _ _ HL1.out⟩, HX1.out.trans HX2.out, HS2.out⟩
set_option maxHeartbeats 4000000 in
theorem del_m (w0 : World) (m aa eb : Nat) (sv fv : Value) (a : Ar N2) (HM : MapAt w0 m aa cmpF sv fv a) (KT : Kit w0 eb m a) (h : Hd) (k' v' : Int) (lh : Hd) (lk lv : Int) (ll lr : T2) (lhi : Int) (rh : Hd) (rk rv : Int) (rl rr : T2) (rhi : Int) (hi : Int) (k : Int) (hc : k = k') : DelSays w0 m eb a k (.node h k' v' (.node lh lk lv ll lr lhi) (.node rh rk rv rl rr rhi) hi) := by
  intro W p g HS hd av hhas hh hg
  obtain ⟨b, rfl, hd0⟩ := hd
  have HO := Lib.hid (KT.opened W b g h k' v' (.node lh lk lv ll lr lhi) (.node rh rk rv rl rr rhi) hi HS ⟨b, rfl, hd0⟩)
  obtain ⟨e1, a1, a2, al, ar⟩ := av
  have m0 := mx_le (T.hi ((.node lh lk lv ll lr lhi) : T2)) (T.hi ((.node rh rk rv rl rr rhi) : T2))
  have l0 := al.nonneg
  have r0 := ar.nonneg
  have hh' : hi ≤ 50000 := hh
  have hg' : (g.length : Int) + 4 * hi ≤ 900000 := hg
  have hmc := Lib.hid (fun (V : World) (hs : St w0 V eb m g) => (show V.cell? ⟨m, 1, none⟩ = some cmpF from (blk_cell (blk_below HM.hm hs.bel) 1).trans rfl))
  have hec := Lib.hid (fun (V : World) (hs : St w0 V eb m g) => (show V.cell? ⟨eb, 0, none⟩ = some (.pointer (some ⟨m, 0, none⟩)) by obtain ⟨gv, he, _⟩ := hs.ed; exact blk_cell he 0))
  have hck : cmpI k k' = 0 := by unfold cmpI; rw [if_neg (by omega), if_neg (by omega)]
  have HLV := Lib.hid (fun (V0 V : World) (hb : Below V0.heap.size V0 V) (ql qr : Option Nat) (hs : St w0 V0 eb m g) (hk : V0.heap[b]? = some (.cells (openC h k' v' ql qr hi) 89 (0, 0))) => (leave_calls w0 V m a eb b g h _ (hs.below hb) (blk_below hk hb) rfl rfl (by omega)).mono (R' := fun e w' => e = .returned (.tuple #[]) ∧ Ext w0.heap.size a V0 w' ∧ St w0 w' eb m (g ++ gh h)) fun _ _ ⟨x1, x2, x3⟩ => ⟨x1, (Ext.below hb).trans x2, x3⟩)
  have hrr : (T.node rh rk rv rl rr rhi).hi = rhi := rfl
  rw [hrr] at m0 e1 a1 a2
  have hlen := tleast_len rl rh rk rv rr rhi ar
  obtain ⟨avp, hp1, hp2⟩ := tleast_avl rl rh rk rv rr rhi ar
  have g0 := gh_len h
  have HLE0 := (fun (V : World) (b6 : Nat) (hs : St w0 V eb m (g ++ gh h)) (hd : Den w0.heap.size V a (some b6) (.node rh rk rv rl rr rhi)) => least_calls w0 m eb a KT rl rh rk rv rr rhi V (some b6) (g ++ gh h) hs hd ar (by omega) (by rw [List.length_append]; omega))
  simp only [Option.map_some] at HLE0
  have HLE := Lib.hid HLE0
  have HBAL0 := (fun (V : World) (b2 : Nat) (l0 r0 : T2) (hi0 : Int) (b5 : Nat) (q : Option Nat) (ho : OpenAt w0.heap.size V a b2 (tleast rh rk rv rl rr).1.1 (tleast rh rk rv rl rr).1.2.1 (tleast rh rk rv rl rr).1.2.2 l0 r0 hi0) (hs : St w0 V eb m (g ++ gh h ++ (tleast rh rk rv rl rr).2.2)) (hl : Den w0.heap.size V a (some b5) (.node lh lk lv ll lr lhi)) (hr : Den w0.heap.size V a q (tleast rh rk rv rl rr).2.1) => balance_calls w0 V m a eb b2 (some b5) q (g ++ gh h ++ (tleast rh rk rv rl rr).2.2) (tleast rh rk rv rl rr).1.1 (tleast rh rk rv rl rr).1.2.1 (tleast rh rk rv rl rr).1.2.2 l0 r0 hi0 (.node lh lk lv ll lr lhi) (tleast rh rk rv rl rr).2.1 KT hs ho hl hr (by rw [List.length_append, List.length_append]; omega) al avp (by omega) (by omega))
  simp only [Option.map_some] at HBAL0
  have HBAL := Lib.hid HBAL0
  rw [tdel_m (by rw [hck]; decide) (by rw [hck]; decide)]
  dsimp only
  clear a1 a2 al ar e1 m0 hc hhas HS hd0 hh hg
  clear HLE0 HBAL0 hlen avp hp1 hp2 hrr g0
  generalize (bal (tleast rh rk rv rl rr).1.1 (tleast rh rk rv rl rr).1.2.1 (tleast rh rk rv rl rr).1.2.2 (.node lh lk lv ll lr lhi) (tleast rh rk rv rl rr).2.1) = BB at *
  generalize (tleast rh rk rv rl rr) = TT at *
  simp only [Option.map_some, cmpF] at hmc ⊢
  go_enter Try.func37, Try.ntmps37
  go_wp2_with (first
    | (go_at_call 42; ((refine Calls.mono HO.out ?_); rintro e w1 ⟨rfl, ho, hx, hs⟩; have x0 := hec.out _ hs; have x1 := hmc.out _ hs; obtain ⟨hB, ql, qr, hb, hql, hqr⟩ := id ho; have c3 : w1.cell? ⟨b, 3, none⟩ = some (.int .i64 k') := blk_cell hb 3; have HOA := Lib.hid ho; have HX1 := Lib.hid hx; have HS1 := Lib.hid hs; have HB1 := Lib.hid hb; have HL1 := Lib.hid hql; have HR1 := Lib.hid hqr; clear ho hx hs hb hql hqr))
    | (fail "no arm"))
  go_quiet ((go_at_call 11; exact Calls.quiet_of_same (cmp_calls _ _ _)))
  rw [hck]
  have HB := Lib.hid (Below.refl w1.heap.size w1)
  go_wp2_with (first
    | (go_at_call 44; go_loud ((with_reducible refine Calls.mono (HLV.out w1 _ (by repeat (first | (with_reducible exact HB.out) | apply below_alloc | apply pw_below_drewN | apply below_drew1 | exact HB.out)) _ _ HS1.out HB1.out) ?_); rintro e w2 ⟨rfl, hx, hs⟩; have HX2 := Lib.hid hx; have HS2 := Lib.hid hs; have HB2 := Lib.hid (hx.opn _ _ _ _ _ _ _ HB1.out); have d5 := oc5 HB2.out; have d6 := oc6 HB2.out; obtain ⟨b5, hq5, hd5⟩ := id HL1.out; clear hd5; rw [hq5] at d5; simp only [Option.map_some] at d5; obtain ⟨b6, hq6, hd6⟩ := id HR1.out; clear hd6; rw [hq6] at d6; simp only [Option.map_some] at d6; have HR5 := Lib.hid (HX2.out.den _ _ HR1.out); rw [hq6] at HR5; have HL5 := Lib.hid (HX2.out.den _ _ HL1.out); rw [hq5] at HL5; clear hx hs))
    | (go_at_call 46; go_loud ((with_reducible refine Calls.mono (HLE.out _ _ HS2.out HR5.out) ?_); rintro e w3 ⟨⟨b2, q2, l2, r2, hi2, rfl, ho2, hd2⟩, hx, hs⟩; have HX3 := Lib.hid hx; have HS3 := Lib.hid hs; have HO3 := Lib.hid ho2; have HD3 := Lib.hid hd2; have HB3 := Lib.hid (hx.opn _ _ _ _ _ _ _ HB2.out); have e5 := oc5 HB3.out; rw [hq5] at e5; simp only [Option.map_some] at e5; clear hx hs ho2 hd2))
    | (go_at_call 43; go_loud ((with_reducible refine Calls.mono (HBAL.out _ _ _ _ _ _ _ HO3.out HS3.out (HX3.out.den _ _ HL5.out) HD3.out) ?_); rintro e w4 ⟨⟨b3, rfl, ho3⟩, hx, hs⟩; have HX4 := Lib.hid hx; have HS4 := Lib.hid hs; have HO4 := Lib.hid ho3; clear hx hs ho3))
    | (fail "no arm"))
  all_goals
    go_ret
    exact ⟨⟨some b3, rfl, HO4.out.den⟩, HX1.out.trans (HX2.out.trans (HX3.out.trans HX4.out)), by rw [← List.append_assoc, ← List.append_assoc]; exact HS4.out⟩
theorem del_calls (w0 : World) (m aa eb : Nat) (sv fv : Value) (a : Ar N2) (HM : MapAt w0 m aa cmpF sv fv a) (k : Int) : ∀ (t : T2), DelSays w0 m eb a k t
  | .leaf => fun _ _ _ _ _ _ h => h.elim
  | .node h k' v' l r hi => by
    have il := del_calls w0 m aa eb sv fv a HM k l
    have ir := del_calls w0 m aa eb sv fv a HM k r
    have KT := kit eb HM
    by_cases h1 : k < k'
    · exact del_lt w0 m aa eb sv fv a HM KT h k' v' l r hi k il h1
    · by_cases h2 : k' < k
      · exact del_gt w0 m aa eb sv fv a HM KT h k' v' l r hi k ir h2
      · cases l with
        | leaf => exact del_l w0 m aa eb sv fv a HM KT h k' v' r hi k (by omega)
        | node lh lk lv ll lr lhi =>
          cases r with
          | leaf => exact del_r w0 m aa eb sv fv a HM KT h k' v' lh lk lv ll lr lhi hi k (by omega)
          | node rh rk rv rl rr rhi => exact del_m w0 m aa eb sv fv a HM KT h k' v' lh lk lv ll lr lhi rh rk rv rl rr rhi hi k (by omega)
end Go.Proofs.Ytmhfbpdahfepgaa.Pm
/- Package pmap's fresh. -/
namespace Go.Proofs.Ytmhfbpdahfepgaa.Pm
open Go.RowKit Go.Proofs.YtmhfbpdahfepgaaW.PrintWords
attribute [local go_sem high] eqHd
theorem hd_ne {h : Hd} (hz : h ≠ H0) : ((h.s == 0) && (h.g == 0)) = false := by
  obtain ⟨s, g⟩ := h
  rw [Bool.eq_false_iff]
  intro e
  simp only [Bool.and_eq_true, beq_iff_eq] at e
  exact hz (by rw [e.1, e.2]; rfl)
/-- A new item is open. -/
theorem den_new {B : Nat} {W : World} {a : Ar N2} {p : Option Nat} {k v : Int} {l r : T2} {hi : Int} (h : Den B W a p (.node H0 k v l r hi)) : ∃ b, p = some b ∧ OpenAt B W a b H0 k v l r hi := by
  obtain ⟨b, hb, h0, h⟩ := h
  rcases h with ⟨_, h2⟩ | h2
  · exact absurd rfl h2.1
  · exact ⟨b, hb, h0, h2⟩
theorem den_head {B : Nat} {W : World} {a : Ar N2} {p : Option Nat} {h : Hd} {k v : Int} {l r : T2} {hi : Int} (H : Den B W a p (.node h k v l r hi)) : ∃ b, p = some b ∧ B ≤ b ∧ b < W.heap.size ∧ W.cell? ⟨b, 0, none⟩ = some (.int .i64 h.s) ∧ W.cell? ⟨b, 1, none⟩ = some (.int .i64 h.g) := by
  obtain ⟨b, hb, h0, H⟩ := H
  rcases H with ⟨h1, _⟩ | ⟨_, _, h1, _, _⟩
  · exact ⟨b, hb, h0, blk_lt h1, blk_cell h1 0, blk_cell h1 1⟩
  · exact ⟨b, hb, h0, blk_lt h1, blk_cell h1 0, blk_cell h1 1⟩
def FreshSays (B eb : Nat) (a : Ar N2) (t : T2) : Prop :=
  ∀ (W : World) (p : Option Nat), Den B W a p t → (fresh t : Int) ≤ 1000000 →
    Calls Try.prog 40 #[.pointer (some ⟨eb, 0, none⟩), .pointer (p.map fun b => ⟨b, 0, none⟩)] W fun e w' => e = .returned (.int .i64 (fresh t)) ∧ ∃ n, w' = W.drewN n
theorem fresh_leaf (B eb : Nat) (a : Ar N2) : FreshSays B eb a .leaf := by
  intro W p hd _
  cases hd
  simp only [Option.map_none]
  go_enter Try.func40, Try.ntmps40
  go_wp2
  go_ret
  exact ⟨rfl, 0, rfl⟩
theorem fresh_old (B eb : Nat) (a : Ar N2) (h : Hd) (k v : Int) (l r : T2) (hi : Int) (hz : h ≠ H0) : FreshSays B eb a (.node h k v l r hi) := by
  intro W p hd _
  obtain ⟨b, rfl, _, hlt, c0, c1⟩ := den_head hd
  have hne := hd_ne hz
  rw [show fresh (.node h k v l r hi : T2) = 0 by rw [fresh, if_neg hz]]
  clear hz hd
  simp only [Option.map_some]
  go_enter Try.func40, Try.ntmps40
  go_wp2
  go_ret
  exact ⟨rfl, 0, rfl⟩
set_option maxHeartbeats 4000000 in
theorem fresh_new (B eb : Nat) (a : Ar N2) (k v : Int) (l r : T2) (hi : Int) (il : FreshSays B eb a l) (ir : FreshSays B eb a r) : FreshSays B eb a (.node H0 k v l r hi) := by
  intro W p hd hb
  obtain ⟨b, rfl, _, hlt, c0, c1⟩ := den_head hd
  obtain ⟨b', e, hB, pl, pr, h1, h2, h3⟩ := den_new hd
  cases e
  have c5 := oc5 h1
  have c6 := oc6 h1
  rw [show fresh (.node H0 k v l r hi : T2) = 1 + fresh l + fresh r by rw [fresh, if_pos rfl]] at hb ⊢
  simp only [H0] at c0 c1
  have HH := Lib.hid h1
  have e1 : IntKind.i64.wrap (1 + (fresh l : Int)) = 1 + (fresh l : Int) := by rw [IntKind.wrap_i64]; omega
  have e2 : IntKind.i64.wrap (1 + (fresh l : Int) + (fresh r : Int)) = ((1 + fresh l + fresh r : Nat) : Int) := by rw [IntKind.wrap_i64]; omega
  have HIL := Lib.hid (fun (n : Nat) => Calls.quiet_of (il (W.drewN n) pl ((Ext.below (pw_below_drewN (Below.refl _ _) n)).den _ _ h2) (by omega)))
  have HIR := Lib.hid (fun (n : Nat) => Calls.quiet_of (ir (W.drewN n) pr ((Ext.below (pw_below_drewN (Below.refl _ _) n)).den _ _ h3) (by omega)))
  clear hd hb il ir h1 h2 h3 hB
  generalize fresh l = fl at *
  generalize fresh r = fr at *
  simp only [Option.map_some]
  go_enter Try.func40, Try.ntmps40
  go_wp2
  go_quiet (first
    | (go_at_call 40; with_reducible exact HIL.out _)
    | (go_at_call 40; with_reducible exact HIR.out _))
  go_wp2
  go_ret
  exact ⟨rfl, _, rfl⟩
theorem fresh_calls (B eb : Nat) (a : Ar N2) : ∀ (t : T2), FreshSays B eb a t
  | .leaf => fresh_leaf B eb a
  | .node h k v l r hi => by
    by_cases hz : h = H0
    · subst hz
      exact fresh_new B eb a k v l r hi (fresh_calls B eb a l) (fresh_calls B eb a r)
    · exact fresh_old B eb a h k v l r hi hz
end Go.Proofs.Ytmhfbpdahfepgaa.Pm
/- Package arena in memory: its own blocks; Room, next. -/
namespace Go.Proofs.Ytmhfbpdahfepgaa.Pm
open Go.RowKit Go.Proofs.YtmhfbpdahfepgaaW.PrintWords
abbrev OwnS (W : World) (base : Nat) (v : Value) (ss : List (Slot N2)) : Prop := OwnRow (fun s cs => cs = slotC s) 96 9 W base v ss
/-- An arena lies in block aa, all of it behind B; since w0 nothing ahead of B was changed. -/
structure AtB (w0 W : World) (B aa : Nat) (sv fv : Value) (a : Ar N2) : Prop where
  bel : Below B w0 W
  sz : B ≤ W.heap.size
  ge : B ≤ aa
  ha : W.heap[aa]? = some (.cells #[.int .i64 a.most, sv, fv] 84 (0, 0))
  hs : OwnS W B sv a.slots
  hf : W.ownsRow B 3 1 fv a.free.length (nums .i64 a.free)
/-- Of the old blocks only the arena's own were changed. -/
structure Fr (W W' : World) : Prop where
  os : W'.os = W.os
  tape : W'.tape = W.tape
  output : W'.output = W.output
  size : W.heap.size ≤ W'.heap.size
  block : ∀ (k : Nat) (cs : Array Value) (t : TypeId), W.heap[k]? = some (.cells cs t (0, 0)) → t ≠ 84 → t ≠ 96 → t ≠ 3 → W'.heap[k]? = some (.cells cs t (0, 0))
theorem Fr.refl (W : World) : Fr W W := ⟨rfl, rfl, rfl, Nat.le_refl _, fun _ _ _ h _ _ _ => h⟩
theorem Fr.trans {W W' W'' : World} (h : Fr W W') (k : Fr W' W'') : Fr W W'' := ⟨k.os.trans h.os, k.tape.trans h.tape, k.output.trans h.output, Nat.le_trans h.size k.size, fun j cs t hc h1 h2 h3 => k.block j cs t (h.block j cs t hc h1 h2 h3) h1 h2 h3⟩
theorem Fr.below {W W' : World} (h : Below W.heap.size W W') : Fr W W' := ⟨h.os, h.tape, h.output, h.size, fun _ _ _ hc _ _ _ => blk_below hc h⟩
theorem AtB.below {w0 W W' : World} {B aa : Nat} {sv fv : Value} {a : Ar N2} (h : AtB w0 W B aa sv fv a) (hb : Below W.heap.size W W') : AtB w0 W' B aa sv fv a :=
  ⟨h.bel.trans (hb.mono h.sz), Nat.le_trans h.sz hb.size, h.ge, blk_below h.ha hb, OwnRow.below h.hs hb, pw_own_below h.hf hb⟩
/-- How much there may be. -/
structure Small (a : Ar N2) : Prop where
  most : a.most ≤ 1048576
  slots : a.slots.length ≤ a.most
  free : a.free.length ≤ a.slots.length
theorem own_apart {W : World} {B B' : Nat} {e : TypeId} {size n : Nat} {v v' : Value} {xs : List Value} {ss : List (Slot N2)} (h : W.ownsRow B e size v n xs) (k : OwnS W B' v' ss) (he : 96 ≠ e) : v.ownBlock = none ∨ v.ownBlock ≠ v'.ownBlock := by
  rcases h.2 with ⟨rfl, _⟩ | ⟨g, cap, cur, rfl, _, hg, _⟩
  · exact .inl rfl
  · exact .inr (OwnRow.ne_block k hg he)
theorem Fr.grown {W W' : World} {B : Nat} {v : Value} {ss : List (Slot N2)} (hg : W.grownBy W' v.ownBlock) (k : OwnS W B v ss) : Fr W W' :=
  ⟨hg.os, hg.tape, hg.output, hg.size, fun j _ _ hc _ h2 _ => (hg.block j (blk_lt hc) (OwnRow.ne_block k hc (Ne.symm h2))).trans hc⟩
theorem Fr.set {W : World} {b : Nat} {cs0 : Array Value} {t0 : TypeId} (hb : W.heap[b]? = some (.cells cs0 t0 (0, 0))) (ht : t0 = 84 ∨ t0 = 96 ∨ t0 = 3) (j : Nat) (u : Value) : Fr W (W.setCell ⟨b, j, none⟩ u) :=
  ⟨rfl, rfl, rfl, by simp, fun k cs t hc h1 h2 h3 => (Below.heap_setCell W ⟨b, j, none⟩ u k (by
    rintro rfl
    have e : (some (Obj.cells cs t (0, 0)) : Option Obj) = some (.cells cs0 t0 (0, 0)) := hc.symm.trans hb
    injection e with e
    injection e with e1 e2
    subst e2
    rcases ht with h | h | h
    · exact h1 h
    · exact h2 h
    · exact h3 h)).trans hc⟩
theorem slotInfo : (Try.prog.info? 96).map (fun i => (i.zero, i.size, i.bytes)) = some (some (.agg #[.int .i64 0, .bool false, .int .i64 0, .int .i64 0, .int .i64 0, .int .i64 0, .int .i64 0, .int .i64 0, .int .i64 0]), 9, 72) := by kernel_rfl
theorem room_calls (w0 W : World) (B aa : Nat) (sv fv : Value) (a : Ar N2) (H : AtB w0 W B aa sv fv a) (hs : Small a) :
    Calls Try.prog 36 #[.pointer (some ⟨aa, 0, none⟩)] W fun e w' => e = .returned (.int .i64 a.room) ∧ ∃ n, w' = W.drewN n := by
  obtain ⟨A, c, rfl, _⟩ := OwnRow.slice_ H.hs
  obtain ⟨A', c', rfl⟩ := own_slice H.hf
  have c0 := blk_cell H.ha 0
  have c1 := blk_cell H.ha 1
  have c2 := blk_cell H.ha 2
  simp at c0 c1 c2
  obtain ⟨h1, h2, h3⟩ := hs
  have e1 : IntKind.i64.wrap ((a.most : Int) - (a.slots.length : Int)) = (a.most : Int) - (a.slots.length : Int) := by rw [IntKind.wrap_i64]; omega
  have e2 : IntKind.i64.wrap ((a.most : Int) - (a.slots.length : Int) + (a.free.length : Int)) = (a.most : Int) - (a.slots.length : Int) + (a.free.length : Int) := by rw [IntKind.wrap_i64]; omega
  unfold Ar.room
  clear H h1 h2 h3
  generalize a.slots.length = L at *
  generalize a.free.length = F at *
  generalize a.most = M at *
  go_enter Try.func36, Try.ntmps36
  go_wp2
  go_quiet (fail)
  go_wp2
  go_ret
  exact ⟨rfl, _, rfl⟩
set_option maxHeartbeats 4000000 in
theorem next_new (w0 W : World) (B aa : Nat) (sv fv : Value) (a : Ar N2) (H : AtB w0 W B aa sv fv a) (hs : Small a) (hf : a.free = []) (hl : a.slots.length < a.most) :
    Calls Try.prog 52 #[.pointer (some ⟨aa, 0, none⟩)] W fun e w' => e = .returned (.int .i64 ((a.slots.length : Int) + 1)) ∧ (∃ sv', AtB w0 w' B aa sv' fv ⟨a.most, a.slots ++ [⟨0, false, nd0⟩], a.free⟩) ∧ Fr W w' := by
  have hA := H.ha
  have hO := H.hs
  have hF := H.hf
  have hne1 := OwnRow.ne_block hO hA (by decide)
  obtain ⟨A', c', rfl⟩ := own_slice hF
  have c1 := blk_cell H.ha 1
  have c2 := blk_cell H.ha 2
  simp at c1 c2
  rw [hf] at c2
  have HH := Lib.hid H
  have HA := Lib.hid hA
  have HO := Lib.hid hO
  have HBB := Lib.hid H.bel
  have hsz := H.sz
  obtain ⟨h1, h2, h3⟩ := hs
  have hlt := blk_lt hA
  clear hA hO hF H
  simp only [List.length_nil] at c2
  replace hne1 := Lib.hid hne1
  replace hf := Lib.hid hf
  go_enter Try.func52, Try.ntmps52
  go_wp2_with (first
    | (at_builtin; go_loud ((refine OwnRow.append (R := fun s cs => cs = slotC s) (w0 := w0) (W := W) B rfl (.tmp 16) (.tmp 18) 81 96 _ 9 72 rfl Try.underlying81 slotInfo rfl (by decide) (by decide) sv a.slots ⟨0, false, nd0⟩ [.int .i64 0, .bool false, .int .i64 0, .int .i64 0, .int .i64 0, .int .i64 0, .int .i64 0, .int .i64 0, .int .i64 0] rfl (by simp [Act.eval]) rfl rfl (by simp [Value.oneCell']) HO.out HBB.out hsz ?hl ?_; (case hl => omega); intro v8 w8 ho hb hg hat; obtain ⟨A8, c8, rfl, _⟩ := OwnRow.slice_ ho; have HO8 := Lib.hid ho; have HB8 := Lib.hid hb; have HG8 := Lib.hid hg; have HT8 := Lib.hid hat; have HE8 := Lib.hid (show w8.heap[aa]? = _ from (hg.block aa (by simpa using hlt) hne1.out).trans HA.out); have z1 := blk_frozen HE8.out 1; have k1 := blk_cell HE8.out 1; simp at k1; have hsz8 := hg.size; clear ho hb hg hat)))
    | (fail "no arm"))
  go_ret
  have hF8 := own_other HH.out.hf HG8.out (own_apart HH.out.hf HO.out (by decide))
  exact ⟨rfl, ⟨_, HB8.out.setCell (p := ⟨aa, 1, none⟩) HH.out.ge _, by simp; omega, HH.out.ge, blk_put HE8.out 1 _ rfl, OwnRow.set_ (by simpa using HO8.out) HE8.out (by decide) 1 _, own_setCell hF8 (own_ne hF8 HE8.out (by decide)) _⟩, (Fr.grown HG8.out HO.out).trans (Fr.set HE8.out (.inl rfl) 1 _)⟩
theorem own_cut {W : World} {B g c n : Nat} {e : TypeId} {xs : List Value} {x : Value} (h : W.ownsRow B e 1 (.slice (some ⟨g, 0, none⟩) (n + 1) c) (n + 1) (xs ++ [x])) : W.ownsRow B e 1 (.slice (some ⟨g, 0, none⟩) n c) n xs := by
  obtain ⟨h1, h2⟩ := h
  rw [List.length_append, List.length_singleton] at h1
  have hx : xs.length = n := by omega
  rcases h2 with ⟨h2, _⟩ | ⟨g', cap, cur, e1, hb, hg, hc, hm, hs, ht⟩
  · simp at h2
  · injection e1 with e1 e2 e3
    injection e1 with e1
    injection e1 with e1
    subst e1 e3
    refine ⟨by omega, .inr ⟨g, c, cur, rfl, hb, hg, by omega, hm, hs, ?_⟩⟩
    have := congrArg (List.take (n * 1)) ht
    rw [List.take_take, Nat.min_eq_left (by omega)] at this
    rw [this, List.take_append_of_le_length (by omega), List.take_of_length_le (by omega)]
set_option maxHeartbeats 4000000 in
theorem next_old (w0 W : World) (B aa : Nat) (sv fv : Value) (a : Ar N2) (fs : List Int) (i : Int) (H : AtB w0 W B aa sv fv a) (hs : Small a) (hf : a.free = fs ++ [i]) :
    Calls Try.prog 52 #[.pointer (some ⟨aa, 0, none⟩)] W fun e w' => e = .returned (.int .i64 i) ∧ (∃ fv', AtB w0 w' B aa sv fv' ⟨a.most, a.slots, fs⟩) ∧ Fr W w' := by
  obtain ⟨h1, h2, h3⟩ := hs
  have hA := H.ha
  have hF := H.hf
  rw [hf] at hF h3
  have hlen : (fs ++ [i]).length = fs.length + 1 := by rw [List.length_append]; rfl
  rw [hlen] at hF h3
  rw [show nums .i64 (fs ++ [i]) = nums .i64 fs ++ [.int .i64 i] by simp [nums]] at hF
  have hq : ∃ g c, fv = .slice (some ⟨g, 0, none⟩) (fs.length + 1) c := by
    rcases hF.2 with ⟨_, h⟩ | ⟨g, c, _, h, _⟩
    · omega
    · exact ⟨g, c, h⟩
  obtain ⟨g, c, rfl⟩ := hq
  have hle := own_le hF
  have ci : W.cell? ⟨g, fs.length, none⟩ = some (.int .i64 i) := by rw [World.ownsRow.cellAt hF fs.length (by omega)]; simp [nums]
  have hgl : g < W.heap.size := (hF.lt g rfl).2
  have HF := Lib.hid (own_cut hF)
  have c2 := blk_cell hA 2
  have z2 := blk_frozen hA 2
  simp at c2
  have HH := Lib.hid H
  have hlt := blk_lt hA
  have e1 : IntKind.i64.wrap (((fs.length + 1 : Nat) : Int) - 1) = (fs.length : Int) := by rw [IntKind.wrap_i64]; omega
  have q : ((((fs.length + 1 : Nat) : Int)) == 0) = false := by rw [Bool.eq_false_iff]; simp; omega
  clear hA hF H hlen
  replace hf := Lib.hid hf
  generalize hFe : fs.length = F at *
  go_enter Try.func52, Try.ntmps52
  go_wp2
  go_ret
  subst hFe
  exact ⟨rfl, ⟨_, HH.out.bel.setCell (p := ⟨aa, 2, none⟩) HH.out.ge _, by simpa using HH.out.sz, HH.out.ge, blk_put HH.out.ha 2 _ rfl, OwnRow.set_ HH.out.hs HH.out.ha (by decide) 2 _, own_setCell HF.out (own_ne HF.out HH.out.ha (by decide)) _⟩, Fr.set HH.out.ha (.inl rfl) 2 _⟩
end Go.Proofs.Ytmhfbpdahfepgaa.Pm
/- Package arena in memory: Put. -/
namespace Go.Proofs.Ytmhfbpdahfepgaa.Pm
open Go.RowKit Go.Proofs.YtmhfbpdahfepgaaW.PrintWords
/-- Cells one behind the other are written. -/
def sets (xs : List Value) (o : Nat) : List Value → List Value
  | [] => xs
  | u :: us => sets (xs.set o u) (o + 1) us
def wsets (W : World) (g o : Nat) : List Value → World
  | [] => W
  | u :: us => wsets (W.setCell ⟨g, o, none⟩ u) g (o + 1) us
theorem sets_length : ∀ (us : List Value) (xs : List Value) (o : Nat), (sets xs o us).length = xs.length
  | [], _, _ => rfl
  | _ :: us, xs, o => by rw [sets, sets_length us, List.length_set]
theorem sets_out : ∀ (us : List Value) (xs : List Value) (o k : Nat), (k < o ∨ o + us.length ≤ k) → (sets xs o us)[k]? = xs[k]?
  | [], _, _, _, _ => rfl
  | u :: us, xs, o, k, h => by
    rw [sets, sets_out us _ _ _ (by simp at h; omega), List.getElem?_set_ne (by simp at h; omega)]
theorem sets_in : ∀ (us : List Value) (xs : List Value) (o i : Nat), i < us.length → o + us.length ≤ xs.length → (sets xs o us)[o + i]? = us[i]?
  | [], _, _, i, h, _ => absurd h (by simp)
  | u :: us, xs, o, 0, _, h => by
    rw [sets, sets_out us _ _ _ (.inl (by omega)), Nat.add_zero, List.getElem?_set_self (by simp at h; omega)]; rfl
  | u :: us, xs, o, i + 1, hi, h => by
    rw [sets, show o + (i + 1) = o + 1 + i by omega, sets_in us _ _ _ (by simpa using hi) (by rw [List.length_set]; simp at h; omega)]; rfl
theorem wsets_own {B g n c : Nat} {e : TypeId} {size : Nat} : ∀ (us : List Value) (W : World) (xs : List Value) (o : Nat), W.ownsRow B e size (.slice (some ⟨g, 0, none⟩) n c) n xs → (wsets W g o us).ownsRow B e size (.slice (some ⟨g, 0, none⟩) n c) n (sets xs o us)
  | [], _, _, _, h => h
  | u :: us, W, xs, o, h => wsets_own us _ _ _ (World.ownsRow.stored h o u).1
/-- A slot is written whole. -/
theorem OwnS.put {W : World} {B g c : Nat} {ss : List (Slot N2)} (h : OwnS W B (.slice (some ⟨g, 0, none⟩) ss.length c) ss) (j : Nat) (hj : j < ss.length) (s : Slot N2) : OwnS (wsets W g (j * 9) (slotC s)) B (.slice (some ⟨g, 0, none⟩) ss.length c) (ss.set j s) := by
  obtain ⟨inner, ho, hr⟩ := h
  have hl := hr.1
  refine ⟨sets inner (j * 9) (slotC s), by rw [List.length_set]; exact wsets_own _ _ _ _ ho, by rw [sets_length, List.length_set]; exact hl, fun i p hp => ?_⟩
  have hi : i < ss.length := by
    have := (List.getElem?_eq_some_iff.mp hp).1
    rwa [List.length_set] at this
  have h9 : (slotC s).length = 9 := rfl
  have hjl : j * 9 + 9 ≤ inner.length := by rw [hl]; omega
  have hil : i * 9 + 9 ≤ inner.length := by rw [hl]; omega
  by_cases e : i = j
  · subst e
    rw [List.getElem?_set_self hi] at hp
    injection hp with hp
    subst hp
    apply List.ext_getElem?
    intro k
    rw [List.getElem?_take]
    by_cases hk : k < 9
    · rw [if_pos hk, List.getElem?_drop, sets_in _ _ _ _ (by omega) (by omega)]
    · rw [if_neg hk, List.getElem?_eq_none (by omega)]
  · rw [List.getElem?_set_ne (by omega)] at hp
    show _ = _
    rw [← (show _ = _ from hr.2 i p hp)]
    apply List.ext_getElem?
    intro k
    rw [List.getElem?_take, List.getElem?_take]
    by_cases hk : k < 9
    · rw [if_pos hk, if_pos hk, List.getElem?_drop, List.getElem?_drop, sets_out _ _ _ _ (by omega)]
    · rw [if_neg hk, if_neg hk]
theorem OwnS.slot {W : World} {B : Nat} {sv : Value} {ss : List (Slot N2)} (h : OwnS W B sv ss) (i : Nat) (hi : i < ss.length) :
    ∃ g c cs, sv = .slice (some ⟨g, 0, none⟩) ss.length c ∧ W.heap[g]? = some (.cells cs 96 (0, 0)) ∧ B ≤ g ∧ ss.length ≤ c ∧ ss.length ≤ 9223372036854775807 ∧ ∀ (j : Nat) (u : Value), (slotC ss[i])[j]? = some u → W.cell? ⟨g, i * 9 + j, none⟩ = some u := by
  obtain ⟨inner, ho, hr⟩ := id h
  obtain ⟨A, c, he, hc, hrd⟩ := OwnRow.reads h
  rcases ho.2 with ⟨_, h0⟩ | ⟨g, c', cur, he', hg, hcur, h1, h2, _⟩
  · omega
  · rw [he'] at he
    injection he with e1 e2 e3
    subst e1 e3
    refine ⟨g, c', cur, he', hcur, hg, hc, hrd.2.1, fun j u hj => ?_⟩
    obtain ⟨ad, e, hcell⟩ := hrd.2.2 (by omega)
    cases e
    obtain ⟨cs, hl, rfl, hcc⟩ := hcell i ss[i] (List.getElem?_eq_getElem hi)
    have := hcc j u hj
    rw [show (Addr.mk g 0 none).add (i * 9 + j) = ⟨g, i * 9 + j, none⟩ by unfold Addr.add; split <;> simp_all] at this
    exact this
theorem wsets_block {g k : Nat} (hk : k ≠ g) : ∀ (us : List Value) (W : World) (o : Nat), (wsets W g o us).heap[k]? = W.heap[k]?
  | [], _, _ => rfl
  | u :: us, W, o => (wsets_block hk us _ _).trans (Below.heap_setCell W ⟨g, o, none⟩ u k hk)
theorem wsets_fr {g : Nat} : ∀ (us : List Value) (W : World) (o : Nat) (cs : Array Value), W.heap[g]? = some (.cells cs 96 (0, 0)) → Fr W (wsets W g o us)
  | [], W, _, _, _ => Fr.refl W
  | u :: us, W, o, cs, h => (Fr.set h (.inr (.inl rfl)) o u).trans (wsets_fr us _ _ _ (heap_setCell_same W g o cs 96 u h))
theorem wsets_below {g B : Nat} {w0 : World} (hB : B ≤ g) : ∀ (us : List Value) (W : World) (o : Nat), Below B w0 W → Below B w0 (wsets W g o us)
  | [], _, _, h => h
  | u :: us, W, o, h => wsets_below hB us _ _ (h.setCell (p := ⟨g, o, none⟩) hB u)
theorem wsets_other {g B n size : Nat} {e : TypeId} {v : Value} {xs : List Value} (hne : some g ≠ v.ownBlock) : ∀ (us : List Value) (W : World) (o : Nat), W.ownsRow B e size v n xs → (wsets W g o us).ownsRow B e size v n xs
  | [], _, _, h => h
  | u :: us, W, o, h => wsets_other hne us _ _ (own_setCell h (p := ⟨g, o, none⟩) hne u)
theorem AtB.put {w0 W : World} {B aa g c : Nat} {fv : Value} {a : Ar N2} {cs : Array Value} (H : AtB w0 W B aa (.slice (some ⟨g, 0, none⟩) a.slots.length c) fv a) (hg : W.heap[g]? = some (.cells cs 96 (0, 0))) (hB : B ≤ g) (j : Nat) (hj : j < a.slots.length) (s : Slot N2) :
    AtB w0 (wsets W g (j * 9) (slotC s)) B aa (.slice (some ⟨g, 0, none⟩) a.slots.length c) fv ⟨a.most, a.slots.set j s, a.free⟩ :=
  ⟨wsets_below hB _ _ _ H.bel, Nat.le_trans H.sz (wsets_fr _ _ _ _ hg).size, H.ge, (wsets_block (typed_ne H.ha hg (by decide)) _ _ _).trans H.ha, OwnS.put H.hs j hj s, wsets_other (own_ne H.hf hg (by decide)) _ _ _ H.hf⟩
theorem AtB.gen0 {w0 W : World} {B aa g n c : Nat} {fv : Value} {a : Ar N2} (H : AtB w0 W B aa (.slice (some ⟨g, 0, none⟩) n c) fv a) (j : Nat) (hj : j < a.slots.length) : W.cell? ⟨g, j * 9, none⟩ = some (.int .i64 a.slots[j].gen) := by
  obtain ⟨g', c', cs', e, _, _, _, _, hcell⟩ := OwnS.slot H.hs j hj
  injection e with e
  injection e with e
  injection e with e
  subst e
  exact hcell 0 _ rfl
theorem AtB.set {w0 W : World} {B aa b : Nat} {sv fv : Value} {a : Ar N2} {cs : Array Value} {t : TypeId} (H : AtB w0 W B aa sv fv a) (hb : W.heap[b]? = some (.cells cs t (0, 0))) (h1 : t ≠ 84) (h2 : t ≠ 96) (h3 : t ≠ 3) (hB : B ≤ b) (j : Nat) (u : Value) : AtB w0 (W.setCell ⟨b, j, none⟩ u) B aa sv fv a :=
  ⟨H.bel.setCell (p := ⟨b, j, none⟩) hB u, by simpa using H.sz, H.ge, (Below.heap_setCell W ⟨b, j, none⟩ u aa (typed_ne H.ha hb (Ne.symm h1))).trans H.ha, OwnRow.set_ H.hs hb (Ne.symm h2) j u, own_setCell H.hf (own_ne H.hf hb (Ne.symm h3)) u⟩
theorem Fr.new {W V : World} (h : Fr W V) {b : Nat} (hb : W.heap.size ≤ b) (j : Nat) (u : Value) : Fr W (V.setCell ⟨b, j, none⟩ u) :=
  ⟨h.os, h.tape, h.output, by simpa using h.size, fun k cs t hc h1 h2 h3 => (Below.heap_setCell V ⟨b, j, none⟩ u k (by have := blk_lt hc; show k ≠ b; omega)).trans (h.block k cs t hc h1 h2 h3)⟩
set_option maxHeartbeats 1000000 in
theorem put_core (w0 W : World) (B aa : Nat) (sv fv : Value) (a a1 : Ar N2) (x : N2) (j : Nat) (H : AtB w0 W B aa sv fv a) (hs : Small a) (hr : a.room ≠ 0) (hjm : a1.slots.length ≤ 1048576) (hj : j < a1.slots.length) (hgen : 0 ≤ a1.slots[j].gen ∧ a1.slots[j].gen ≤ 1000000000)
    (hN : ∀ V, AtB w0 V B aa sv fv a → Calls Try.prog 52 #[.pointer (some ⟨aa, 0, none⟩)] V fun e w' => e = .returned (.int .i64 ((j : Int) + 1)) ∧ (∃ sv' fv', AtB w0 w' B aa sv' fv' a1) ∧ Fr V w') :
    Calls Try.prog 47 #[.pointer (some ⟨aa, 0, none⟩), ndV x] W fun e w' => e = .returned (.tuple #[hdV ⟨(j : Int) + 1, a1.slots[j].gen + 1⟩, .bool true]) ∧ (∃ sv' fv', AtB w0 w' B aa sv' fv' ⟨a1.most, a1.slots.set j ⟨a1.slots[j].gen + 1, true, x⟩, a1.free⟩) ∧ Fr W w' := by
  have HR := Lib.hid (fun (V : World) (hb : Below W.heap.size W V) => room_calls w0 V B aa sv fv a (H.below hb) hs)
  have HN := Lib.hid (fun (V : World) (hb : Below W.heap.size W V) => hN V (H.below hb))
  have HB := Lib.hid (Below.refl W.heap.size W)
  have hBW := H.sz
  have q : (a.room == 0) = false := by rw [Bool.eq_false_iff]; simpa using hr
  have e2 : IntKind.i64.wrap (a1.slots[j].gen + 1) = a1.slots[j].gen + 1 := by rw [IntKind.wrap_i64]; omega
  have e1 : IntKind.i64.wrap ((j : Int) + 1 - 1) = (j : Int) := by rw [IntKind.wrap_i64]; omega
  clear hs hr hN H
  generalize a.room = RM at *
  unfold ndV hdV
  go_enter Try.func47, Try.ntmps47
  go_wp2_with (first
    | (go_at_call 36; (refine Calls.mono (HR.out _ (by repeat (first | (with_reducible exact HB.out) | apply below_alloc | apply pw_below_drewN | apply below_drew1 | exact HB.out))) ?_); rintro e w1 ⟨rfl, n1, rfl⟩)
    | (go_at_call 52; (refine Calls.mono (HN.out _ (by repeat (first | (with_reducible exact HB.out) | apply below_alloc | apply pw_below_drewN | apply below_drew1 | exact HB.out))) ?_); rintro e w2 ⟨rfl, ⟨sv2, fv2, ha2⟩, hx⟩; have HX2 := Lib.hid (Fr.trans (Fr.below (W := W) (by repeat (first | (with_reducible exact HB.out) | apply below_alloc | apply pw_below_drewN | apply below_drew1 | exact HB.out))) hx); have HBX := Lib.hid (hx.block W.heap.size #[.int .i64 x.k, .int .i64 x.v, .int .i64 x.l.s, .int .i64 x.l.g, .int .i64 x.r.s, .int .i64 x.r.g, .int .i64 x.hi] 44 (by exact blk_alloc (blk_new _ _) _) (by decide) (by decide) (by decide)); have HBY := Lib.hid (hx.block (W.heap.size + 1) #[.int .i64 0, .int .i64 0] 28 (by have h := blk_new (W.alloc (.cells #[.int .i64 x.k, .int .i64 x.v, .int .i64 x.l.s, .int .i64 x.l.g, .int .i64 x.r.s, .int .i64 x.r.g, .int .i64 x.hi] 44)) (.cells #[.int .i64 0, .int .i64 0] 28); rw [World.size_alloc] at h; exact h) (by decide) (by decide) (by decide)); have x0 := blk_cell HBX.out 0; have x1 := blk_cell HBX.out 1; have x2 := blk_cell HBX.out 2; have x3 := blk_cell HBX.out 3; have x4 := blk_cell HBX.out 4; have x5 := blk_cell HBX.out 5; have x6 := blk_cell HBX.out 6; obtain ⟨g, c, cs, rfl, hg, hBg, hc, hm, hcell⟩ := OwnS.slot ha2.hs j hj; have HA2 := Lib.hid ha2; have c1 := blk_cell ha2.ha 1; simp at c1; have HG2 := Lib.hid hg; have k0 := hcell 0 _ rfl; have z0 := blk_frozen hg (j * 9 + 0); have k1 := hcell 1 _ rfl; have z1 := blk_frozen hg (j * 9 + 1); have k2 := hcell 2 _ rfl; have z2 := blk_frozen hg (j * 9 + 2); have k3 := hcell 3 _ rfl; have z3 := blk_frozen hg (j * 9 + 3); have k4 := hcell 4 _ rfl; have z4 := blk_frozen hg (j * 9 + 4); have k5 := hcell 5 _ rfl; have z5 := blk_frozen hg (j * 9 + 5); have k6 := hcell 6 _ rfl; have z6 := blk_frozen hg (j * 9 + 6); have k7 := hcell 7 _ rfl; have z7 := blk_frozen hg (j * 9 + 7); have k8 := hcell 8 _ rfl; have z8 := blk_frozen hg (j * 9 + 8); simp only [Nat.add_zero] at k0 z0; have HC2 := Lib.hid hcell; have n1 := typed_ne hg HBX.out (by decide); have n2 := Ne.symm n1; have n3 := typed_ne hg HBY.out (by decide); have n4 := Ne.symm n3; have y0 := blk_cell HBY.out 0; have y1 := blk_cell HBY.out 1; have v0 := blk_frozen HBY.out 0; have v1 := blk_frozen HBY.out 1; clear hx ha2 hg hcell)
    | (fail "no arm"))
  go_region
  change Exit.then _ _ _ _ (World.drew (wsets w2 g (j * 9) (slotC ⟨a1.slots[j].gen + 1, true, x⟩)))
  have H5 := Lib.hid ((AtB.put HA2.out HG2.out hBg j hj ⟨a1.slots[j].gen + 1, true, x⟩).below (below_drew1 (Below.refl _ _)))
  have F5 := Lib.hid (HX2.out.trans ((wsets_fr (slotC ⟨a1.slots[j].gen + 1, true, x⟩) _ (j * 9) _ HG2.out).trans (Fr.below (below_drew1 (Below.refl _ _)))))
  have d0 := AtB.gen0 H5.out j (by rw [List.length_set]; exact hj)
  simp only [List.getElem_set_self] at d0
  have d1 := ((wsets_block (Ne.symm n3) (slotC ⟨a1.slots[j].gen + 1, true, x⟩) w2 (j * 9)).trans HBY.out)
  have HY5 := Lib.hid (blk_drew d1)
  clear d1
  clear k0 k1 k2 k3 k4 k5 k6 k7 k8 z0 z1 z2 z3 z4 z5 z6 z7 z8 x0 x1 x2 x3 x4 x5 x6 y0 y1 v0 v1 c1
  generalize (World.drew (wsets w2 g (j * 9) (slotC ⟨a1.slots[j].gen + 1, true, x⟩))) = w5 at *
  have y0 := blk_cell HY5.out 0
  have y1 := blk_cell HY5.out 1
  have v0 := blk_frozen HY5.out 0
  have v1 := blk_frozen HY5.out 1
  go_wp2
  have hy0 := blk_put HY5.out 0 (.int .i64 ((j : Int) + 1)) rfl
  refine (show ∀ V : World, (V.heap[W.heap.size + 1]? = some (.cells #[.int .i64 ((j : Int) + 1), .int .i64 (a1.slots[j].gen + 1)] 28 (0, 0)) ∧ AtB w0 V B aa (.slice (some ⟨g, 0, none⟩) a1.slots.length c) fv2 ⟨a1.most, a1.slots.set j ⟨a1.slots[j].gen + 1, true, x⟩, a1.free⟩ ∧ Fr W V) → bodyPost _ _ _ _ _ V from fun V h => ?_) _ ⟨blk_put hy0 1 (.int .i64 (a1.slots[j].gen + 1)) rfl, AtB.set (AtB.set H5.out HY5.out (by decide) (by decide) (by decide) (by omega) 0 (.int .i64 ((j : Int) + 1))) hy0 (by decide) (by decide) (by decide) (by omega) 1 (.int .i64 (a1.slots[j].gen + 1)), Fr.new (Fr.new F5.out (by omega) 0 _) (by omega) 1 _⟩
  obtain ⟨hG, hA5, hF5⟩ := h
  have q0 : V.cell? ⟨W.heap.size + 1, 0, none⟩ = some (.int .i64 ((j : Int) + 1)) := blk_cell hG 0
  have q1 : V.cell? ⟨W.heap.size + 1, 1, none⟩ = some (.int .i64 (a1.slots[j].gen + 1)) := blk_cell hG 1
  have HA5 := Lib.hid hA5
  have HF5 := Lib.hid hF5
  clear hG hA5 hF5
  refine bodyPost_ret (by simp [results, Try.results47, go_sem, q0, q1]; try rfl) rfl ?_
  exact ⟨rfl, ⟨_, _, HA5.out⟩, HF5.out⟩
end Go.Proofs.Ytmhfbpdahfepgaa.Pm
