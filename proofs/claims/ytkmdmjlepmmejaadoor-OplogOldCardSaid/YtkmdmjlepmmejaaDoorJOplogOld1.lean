/-
  The row and the card of the law OplogOld, out of its walk.
-/
import Derived.Test.YtkmdmjlepmmejaaDoorB9
import Derived.Deep.Cut
import Derived.Deep.RegionHeld3
import Derived.Test.YtkmdmjlepmmejaaDoorRows
import Derived.Test.YtkmdmjlepmmejaaDoorCards
import Derived.Test.YtkmdmjlepmmejaaDoorTie
import Derived.WalkKit
import Derived.ProofKit
import Derived.OpenShut
import Derived.ShutString
import Derived.ChangeOld
import Derived.Below
import Derived.SizedLaws
import Derived.SevenTiedAt
import Derived.Deep.DeepHandedRow
import Derived.Deep.DeepWitnessRowRef
/- The walk of the law OplogOld. -/
namespace Go.Proofs.YtkmdmjlepmmejaaDoor.Ol
open Go.RowKit Go.Sort Go.Proofs.YtkmdmjlepmmejaaDoorW.PrintWords Tr

attribute [local go_sem] Oper.semAt_some
attribute [local go_sem high] eqSpot

/-- An operation at the end of its node's own. -/
def lateO (q : OpR) : OpR := ⟨1000, 3, q.node, 0, q.name⟩
theorem late_in {g : Nat} {w : World} {qn : Int} {qs : ByteArray} (h0 : w.cell? ⟨g, 0, none⟩ = some (.int .i64 1000)) (h1 : w.cell? ⟨g, 1, none⟩ = some (.int .i64 3)) (h2 : w.cell? ⟨g, 2, none⟩ = some (.int .i64 qn)) (h3 : w.cell? ⟨g, 3, none⟩ = some (.int .i64 0)) (h4 : w.cell? ⟨g, 4, none⟩ = some (.string qs)) : OpIn g 0 ⟨1000, 3, qn, 0, qs⟩ w := ⟨h0, h1, h2, h3, h4⟩
theorem late_right {q : OpR} (h : opRight q = true) : opRight (lateO q) = true := by
  unfold opRight at h ⊢
  simp only [Bool.and_eq_true] at h ⊢
  exact ⟨(by decide : stampR 1000 3 = true), h.2.1, (by decide : toR 0 = true), h.2.2.2⟩
theorem late_gt (ts : List TinyT) (q : OpR) : ∀ u ∈ ts.map ofT, opCmp u (lateO q) < 0 := by
  intro u hu
  obtain ⟨x, _, rfl⟩ := List.mem_map.1 hu
  have h : (ofT x).n ≤ 40 := by
    show 1 + x.1 % 40 ≤ 40
    omega
  have h1 : cmpT (ofT x).n (ofT x).r 1000 3 = -1 := by
    have : cmpI (ofT x).n 1000 = -1 := by unfold cmpI; rw [if_pos (by omega)]
    unfold cmpT
    rw [this]
    exact if_neg (by decide)
  unfold opCmp
  show (if cmpT (ofT x).n (ofT x).r 1000 3 = 0 then _ else cmpT (ofT x).n (ofT x).r 1000 3) < 0
  rw [h1, if_neg (by decide)]
  decide
/-- What the law stands on: both logs come to L, in which the late one is the last. -/
structure OldK (X : List OpR) (o : OpR) (L1 L : List OpR) : Prop where
  p1 : ∃ k c, putR 1000 [] [o] = ⟨k, c, 0, [o]⟩
  p2 : ∃ k c, putR 1000 [o] X = ⟨k, c, 0, L⟩
  p3 : ∃ k c, putR 1000 [] X = ⟨k, c, 0, L1⟩
  p4 : ∃ k c, putR 1000 L1 [o] = ⟨k, c, 0, L⟩
  ok0 : LogOk 1000 [o]
  ok1 : LogOk 1000 L1
  ok : LogOk 1000 L
  l1 : L1.length ≤ 24
  l : L.length ≤ 25
  top : topO L = 1000
  has : hasO L o = true
  spot : lookT (treeO L) o.node = some (0, o.name)
theorem put_ok_ex {most : Int} {l ops m : List OpR} (h : ops.all opRight = true) (hm : (l.length : Int) + (newOf l ops).length ≤ most) (e : joinO l ops = m) : ∃ k c, putR most l ops = ⟨k, c, 0, m⟩ := ⟨(newOf l ops).length, chgsO l m, by rw [put_ok h hm, e]⟩
theorem old_k (ts : List TinyT) (hn : ts.length ≤ 24) (q : OpR) (hq : opRight q = true) : OldK (ts.map ofT) (lateO q) (joinO [] (ts.map ofT)) (joinO [] (ts.map ofT) ++ [lateO q]) := by
  have hg := late_gt ts q
  have hr := ofs_right ts
  have hlo := late_right hq
  have h24 := join0_length (ts.map ofT)
  rw [List.length_map] at h24
  have hro : [lateO q].all opRight = true := by rw [List.all_cons, hlo]; rfl
  generalize ts.map ofT = X at *
  have ht := join_top hg
  have hc := join_comm X [lateO q]
  rw [join_one, ht] at hc
  have n1 := newOf_length [] [lateO q]
  have n2 := newOf_length [lateO q] X
  have n4 := newOf_length (joinO [] X) [lateO q]
  have l3 : (joinO [] X).length = (newOf [] X).length := by rw [joinO_length]; simp
  have l2 : (joinO [lateO q] X).length = 1 + (newOf [lateO q] X).length := by rw [joinO_length]; simp
  have l4 := joinO_length (joinO [] X) [lateO q]
  rw [ht] at l4
  rw [← hc] at l2
  rw [List.length_append] at l2 l4
  have o1 : LogOk 1000 (joinO [] X) := ⟨joinO_asc asc_nil _, join0_right hr, by omega⟩
  have o2 : LogOk 1000 (joinO [] X ++ [lateO q]) := ⟨by rw [← ht]; exact joinO_asc o1.asc _, fun o ho => (List.mem_append.1 ho).elim (o1.right o) (fun h => by rw [List.mem_singleton.1 h]; exact hlo), by rw [List.length_append]; simp only [List.length_singleton]; omega⟩
  simp only [List.length_singleton] at *
  exact ⟨put_ok_ex hro (by simp; omega) (join_one _), put_ok_ex hr (by simp; omega) hc.symm, put_ok_ex hr (by simp; omega) rfl, put_ok_ex hro (by omega) ht, ⟨asc_one _, fun o ho => by rw [List.mem_singleton.1 ho]; exact hlo, by simp⟩, o1, o2, by omega, by rw [List.length_append]; simp only [List.length_singleton]; omega, topO_snoc _ _, hasO_iff.2 (List.mem_append.2 (.inr (List.mem_singleton.2 rfl))), old_spot o1.right (right_node hlo) rfl⟩
/-- A Put of one operation. -/
abbrev Put1C (w : World) (most : Int) (l : List OpR) (o : OpR) (k : Int) (nc : Nat) (er : Int) (l' : List OpR) : Prop := ∀ (W : World) (F : Nat → Prop) (p g : Nat), LogAt W F p most l → OpIn g 0 o W → Below w.heap.size w W → (∀ b, F b → w.heap.size ≤ b) →
    Calls Tryd.prog 8 #[.pointer (some ⟨p, 0, none⟩), .slice (some ⟨g, 0, none⟩) 1 1] W fun e w' => ∃ (Ac : Option Addr) (cc : Nat) (F' : Nat → Prop), e = .returned (.tuple #[.int .i64 k, .slice Ac nc cc, .int .i64 er]) ∧
      LogAt w' F' p most l' ∧ (∀ b, F' b → F b ∨ W.heap.size ≤ b) ∧ (∀ b, F' b → w.heap.size ≤ b) ∧ Tr.Touch F W w' ∧ Below w.heap.size w w'
theorem put_1 {w : World} {most : Int} {l : List OpR} {o : OpR} {k : Int} {nc : Nat} {er : Int} {l' : List OpR} (h : PutC w most l [o] k nc er l') : Put1C w most l o k nc er l' := fun W F p _ H ho hB hF => h W F p _ 1 H (OpsAt.one ho) hB hF
/-- Two logs that stand side by side. -/
structure Two (V W : World) (F : Nat → Prop) (p : Nat) (l : List OpR) (F' : Nat → Prop) (p' : Nat) (l' : List OpR) : Prop where
  bel : Below V.heap.size V W
  one : LogAt W F p 1000 l
  two : LogAt W F' p' 1000 l'
  f1 : ∀ b, F b → V.heap.size ≤ b
  f2 : ∀ b, F' b → V.heap.size ≤ b
  off : ∀ b, F b → ¬ F' b
theorem Two.below {V W W' : World} {F F' : Nat → Prop} {p p' : Nat} {l l' : List OpR} (h : Two V W F p l F' p' l') (hb : Below W.heap.size W W') : Two V W' F p l F' p' l' :=
  ⟨below_step h.bel hb, h.one.below hb, h.two.below hb, h.f1, h.f2, h.off⟩
theorem Two.left {V W W' : World} {F F' G : Nat → Prop} {p p' : Nat} {l l' m : List OpR} (h : Two V W F p l F' p' l') (hl : LogAt W' G p 1000 m) (hG : ∀ b, G b → F b ∨ W.heap.size ≤ b) (hG2 : ∀ b, G b → V.heap.size ≤ b) (ht : Tr.Touch F W W') (hb : Below V.heap.size V W') : Two V W' G p m F' p' l' :=
  ⟨hb, hl, h.two.touch ht (fun b e k => h.off b k e), hG2, h.f2, fun b e k => (hG b e).elim (fun x => h.off b x k) (fun x => by have := h.two.lt b k; omega)⟩
theorem Two.right {V W W' : World} {F F' G : Nat → Prop} {p p' : Nat} {l l' m : List OpR} (h : Two V W F p l F' p' l') (hl : LogAt W' G p' 1000 m) (hG : ∀ b, G b → F' b ∨ W.heap.size ≤ b) (hG2 : ∀ b, G b → V.heap.size ≤ b) (ht : Tr.Touch F' W W') (hb : Below V.heap.size V W') : Two V W' F p l G p' m :=
  ⟨hb, h.one.touch ht (fun b e k => h.off b e k), hl, h.f1, hG2, fun b e k => (hG b k).elim (fun x => h.off b e x) (fun x => by have := h.one.lt b e; omega)⟩
set_option maxRecDepth 100000 in
set_option maxHeartbeats 4000000 in
theorem old_walk (A : Option Addr) (n c : Nat) (x0 x1 x2 x3 x4 : Int) (q : OpR) (w : World) (X L1 L : List OpR) (hn : n ≤ 24) (hx : X.length ≤ 24) (hsx : ∀ o ∈ X, o.name.size ≤ 9223372036854775807) (hq : q.name.size ≤ 20) (hqn : Wf q.node) (hT : Tabs w) (hk : OldK X (lateO q) L1 L)
    (ho : ∀ W : World, Calls Tryd.prog 12 #[.agg #[.int .u8 x0, .int .u8 x1, .int .u8 x2, .int .u8 x3, .int .u8 x4]] W fun e w' => e = .returned (opV q) ∧ Below W.heap.size W w')
    (h1 : ∀ W : World, Below w.heap.size w W → Calls Tryd.prog 9 #[.slice A n c] W fun e w' => ∃ v, e = .returned v ∧ OwnO w' W.heap.size v X ∧ Below W.heap.size W w') :
    Calls Tryd.prog 4 #[.slice A n c, .agg #[.int .u8 x0, .int .u8 x1, .int .u8 x2, .int .u8 x3, .int .u8 x4]] w fun e w' => e = .returned (.bool true) ∧ Below w.heap.size w w' := by
  obtain ⟨k1, c1, e1⟩ := hk.p1
  obtain ⟨k2, c2, e2⟩ := hk.p2
  obtain ⟨k3, c3, e3⟩ := hk.p3
  obtain ⟨k4, c4, e4⟩ := hk.p4
  have hso : ∀ o ∈ [lateO q], o.name.size ≤ 9223372036854775807 := fun o h => by rw [List.mem_singleton.1 h]; show q.name.size ≤ 9223372036854775807; omega
  have p1 := fun (V : World) (h : Tabs V) => put_1 (put_c e1 (log0 (by decide)) hso h (by simp) (by decide))
  have p2 := fun (V : World) (h : Tabs V) => put_c e2 hk.ok0 hsx h (by simp; omega) (by decide)
  have p3 := fun (V : World) (h : Tabs V) => put_c e3 (log0 (by decide)) hsx h (by simp; omega) (by decide)
  have p4 := fun (V : World) (h : Tabs V) => put_1 (put_c e4 hk.ok1 hso h (by have := hk.l1; simp; omega) (by decide))
  have htr := fun (W : World) (F : Nat → Prop) (p : Nat) (mo : Int) (H : LogAt W F p mo L) => log_tree W F p mo L H (by have := hk.l; omega)
  have htop : ∀ (W : World) (F : Nat → Prop) (p : Nat), LogAt W F p 1000 L → Calls Tryd.prog 13 #[.pointer (some ⟨p, 0, none⟩)] W fun e w' => e = .returned (.int .i64 1000) ∧ Below W.heap.size W w' := fun W F p H => by
    have := log_top W F p 1000 L H (by have := hk.l; omega)
    rw [hk.top] at this
    exact this
  have hhas : ∀ (W : World) (F : Nat → Prop) (p : Nat), LogAt W F p 1000 L → Calls Tryd.prog 14 #[.pointer (some ⟨p, 0, none⟩), .agg #[.int .i64 1000, .int .i64 3, .int .i64 q.node, .int .i64 0, .string q.name]] W fun e w' => e = .returned (.bool true) ∧ Below W.heap.size W w' := fun W F p H => by
    have := log_has W F p 1000 L (lateO q) H hk.ok.asc (by have := hk.l; omega)
    rw [hk.has] at this
    exact this
  have hsp : ∀ (W : World) (F : Nat → Prop) (t : Nat), TreeAt W F t L → Calls Tryd.prog 11 #[.pointer (some ⟨t, 0, none⟩), .int .i64 q.node] W fun e w' => e = .returned (.agg #[.bool true, .int .i64 0, .string q.name]) ∧ Below W.heap.size W w' := fun W F t H => by
    obtain ⟨mb, dv, hb, _, _, _, _⟩ := H
    have := spot_calls W t mb dv (treeO L) q.node hb hqn
    rw [show lookT (treeO L) q.node = some (0, q.name) from hk.spot] at this
    exact this
  have hin : ∀ W : World, OpIn W.heap.size 0 (lateO q) (W.alloc (.cells #[.int .i64 1000, .int .i64 3, .int .i64 q.node, .int .i64 0, .string q.name] 45)) := fun W => ⟨by show World.cell? _ _ = some (.int .i64 1000); go_cell, by show World.cell? _ _ = some (.int .i64 3); go_cell, by show World.cell? _ _ = some (.int .i64 q.node); go_cell, by show World.cell? _ _ = some (.int .i64 0); go_cell, by show World.cell? _ _ = some (.string q.name); go_cell⟩
  have e : lateO q = ⟨1000, 3, q.node, 0, q.name⟩ := rfl
  rw [e] at p1 p2 p4 hin
  simp only [opV] at ho
  generalize q.n = y0 at *
  generalize q.r = y1 at *
  generalize q.par = y2 at *
  generalize q.node = qn at *
  generalize q.name = qs at *
  generalize c1.length = nc1 at p1
  generalize c2.length = nc2 at p2
  generalize c3.length = nc3 at p3
  generalize c4.length = nc4 at p4
  have HO := Lib.hid ho
  have H1 := Lib.hid h1
  have HTR := Lib.hid htr
  have HTOP := Lib.hid htop
  have HHAS := Lib.hid hhas
  have HSP := Lib.hid hsp
  have HIN := Lib.hid hin
  have HT := Lib.hid hT
  have P1 := Lib.hid p1
  have P2 := Lib.hid p2
  have P3 := Lib.hid p3
  have P4 := Lib.hid p4
  have HB := Lib.hid (Below.refl w.heap.size w)
  clear ho h1 htr htop hhas hsp hin hT p1 p2 p3 p4 hk e1 e2 e3 e4 hso e hx hsx hq hqn
  go_enter Tryd.func4, Tryd.ntmps4
  go_upto_region 7 with (first
    | (go_at_call 6; (with_reducible refine Calls.mono (awake_calls _ (HT.out.below (by repeat (first | (with_reducible exact HB.out) | apply below_alloc | apply pw_below_drewN | apply below_drew1 | exact HB.out)))) ?_); rintro e w1 ⟨rfl, hb⟩; have a0 : w1.cell? ⟨w.heap.size, 0, none⟩ = some (.int .u8 x0) := pw_cell_below hb (by go_cell); have a1 : w1.cell? ⟨w.heap.size, 1, none⟩ = some (.int .u8 x1) := pw_cell_below hb (by go_cell); have a2 : w1.cell? ⟨w.heap.size, 2, none⟩ = some (.int .u8 x2) := pw_cell_below hb (by go_cell); have a3 : w1.cell? ⟨w.heap.size, 3, none⟩ = some (.int .u8 x3) := pw_cell_below hb (by go_cell); have a4 : w1.cell? ⟨w.heap.size, 4, none⟩ = some (.int .u8 x4) := pw_cell_below hb (by go_cell); have HBn := Lib.hid (below_step (by repeat (first | (with_reducible exact HB.out) | apply below_alloc | apply pw_below_drewN | apply below_drew1 | exact HB.out)) hb); clear hb HB; have HB := HBn; clear HBn)
    | (go_at_call 12; (with_reducible refine Calls.mono (HO.out _) ?_); rintro e w2 ⟨rfl, hb⟩; clear a0 a1 a2 a3 a4; have HBn := Lib.hid (below_step (by repeat (first | (with_reducible exact HB.out) | apply below_alloc | apply pw_below_drewN | apply below_drew1 | exact HB.out)) hb); clear hb HB; have HB := HBn; clear HBn)
    | (fail "no arm"))
  have hin := HIN.out w2
  have hbv := below_alloc HB.out (Obj.cells #[.int .i64 1000, .int .i64 3, .int .i64 qn, .int .i64 0, .string qs] 45)
  have hlt : w2.heap.size < (w2.alloc (Obj.cells #[.int .i64 1000, .int .i64 3, .int .i64 qn, .int .i64 0, .string qs] 45)).heap.size := by simp
  generalize w2.alloc (Obj.cells #[.int .i64 1000, .int .i64 3, .int .i64 qn, .int .i64 0, .string qs] 45) = V at *
  generalize w2.heap.size = ob at *
  obtain ⟨o0, o1, o2, o3, o4⟩ := hin
  have HO := Lib.hid (show OpIn ob 0 ⟨1000, 3, qn, 0, qs⟩ V from ⟨o0, o1, o2, o3, o4⟩)
  have HBV := Lib.hid hbv
  have HTV := Lib.hid (HT.out.below hbv)
  have HP1 := Lib.hid (P1.out V HTV.out)
  have HP2 := Lib.hid (P2.out V HTV.out)
  have HP3 := Lib.hid (P3.out V HTV.out)
  have HP4 := Lib.hid (P4.out V HTV.out)
  have HST := Lib.hid trivial
  clear P1 P2 P3 P4 hbv HB HIN o0 o1 o2 o3 o4
  have HB := Lib.hid (Below.refl V.heap.size V)
  go_upto_region 20 with (first
    | (go_at_call 7; have hst := HST.out; (with_reducible refine Calls.mono (log_new _ 1000 (by decide)) ?_); rintro e w3 ⟨p, F, rfl, hlog, hF, hb⟩; have HL := Lib.hid hlog; have HF := Lib.hid (fun b hb' => Nat.le_trans HB.out.size (hF b hb')); clear HST hst hlog hF; have HBn := Lib.hid (below_step (by repeat (first | (with_reducible exact HB.out) | apply below_alloc | apply pw_below_drewN | apply below_drew1 | exact HB.out)) hb); clear hb HB; have HB := HBn; clear HBn) | (go_at_call 7; (with_reducible refine Calls.mono (log_new _ 1000 (by decide)) ?_); rintro e w4 ⟨p', F', rfl, hlog, hF, hb⟩; have HBn := Lib.hid (below_step HB.out hb); have H2 := Lib.hid (show Two V w4 F p [] F' p' [] from ⟨HBn.out, HL.out.below hb, hlog, HF.out, fun b hb' => Nat.le_trans HB.out.size (hF b hb'), fun b e k => by have := HL.out.lt b e; have := hF b k; omega⟩); clear HB HL HF hlog hF hb; have HB := HBn; clear HBn; have o0 : w4.cell? ⟨ob, 0, none⟩ = some (.int .i64 1000) := pw_cell_below HB.out HO.out.1; have o1 : w4.cell? ⟨ob, 1, none⟩ = some (.int .i64 3) := pw_cell_below HB.out HO.out.2.1; have o2 : w4.cell? ⟨ob, 2, none⟩ = some (.int .i64 qn) := pw_cell_below HB.out HO.out.2.2.1; have o3 : w4.cell? ⟨ob, 3, none⟩ = some (.int .i64 0) := pw_cell_below HB.out HO.out.2.2.2.1; have o4 : w4.cell? ⟨ob, 4, none⟩ = some (.string qs) := pw_cell_below HB.out HO.out.2.2.2.2) | (go_at_call 8; have H3 := Lib.hid (H2.out.below (below_alloc (Below.refl w4.heap.size w4) (Obj.cells #[.int .i64 1000, .int .i64 3, .int .i64 qn, .int .i64 0, .string qs] 45))); (with_reducible refine Calls.mono (HP1.out _ F p w4.heap.size H3.out.one (late_in (by go_cell) (by go_cell) (by go_cell) (by go_cell) (by go_cell)) H3.out.bel H3.out.f1) ?_); rintro e w5 ⟨A5, c5, G5, rfl, hlog, hG, hG2, ht, hb⟩; have HBn := Lib.hid hb; have H5 := Lib.hid (H3.out.left hlog hG hG2 ht hb); clear o0 o1 o2 o3 o4 hlog hG hG2 ht hb H3 HB H2; have HB := HBn; clear HBn) | (go_at_call 9; (with_reducible refine Calls.mono (H1.out _ (below_step HBV.out H5.out.bel)) ?_); rintro e w6 ⟨v6, rfl, ho, hb⟩; obtain ⟨A6, c6, rfl, _, hr6⟩ := OwnO.ops ho; have HR6 := Lib.hid hr6; have H6 := Lib.hid (H5.out.below hb); clear H5 ho hr6; have HBn := Lib.hid (below_step (by repeat (first | (with_reducible exact HB.out) | apply below_alloc | apply pw_below_drewN | apply below_drew1 | exact HB.out)) hb); clear hb HB; have HB := HBn; clear HBn) | (go_at_call 8; (with_reducible refine Calls.mono (HP2.out _ G5 p A6 c6 H6.out.one HR6.out H6.out.bel H6.out.f1) ?_); rintro e w7 ⟨A7, c7, G7, rfl, hlog, hG, hG2, ht, hb⟩; have HBn := Lib.hid hb; have H7 := Lib.hid (H6.out.left hlog hG hG2 ht hb); clear hlog hG hG2 ht hb H6 HB HR6; have HB := HBn; clear HBn) | (go_at_call 9; (with_reducible refine Calls.mono (H1.out _ (below_step HBV.out H7.out.bel)) ?_); rintro e w8 ⟨v8, rfl, ho, hb⟩; obtain ⟨A8, c8, rfl, _, hr8⟩ := OwnO.ops ho; have HR8 := Lib.hid hr8; have H8 := Lib.hid (H7.out.below hb); clear H7 ho hr8; have HBn := Lib.hid (below_step (by repeat (first | (with_reducible exact HB.out) | apply below_alloc | apply pw_below_drewN | apply below_drew1 | exact HB.out)) hb); clear hb HB; have HB := HBn; clear HBn) | (go_at_call 8; (with_reducible refine Calls.mono (HP3.out _ F' p' A8 c8 H8.out.two HR8.out H8.out.bel H8.out.f2) ?_); rintro e w9 ⟨A9, c9, G9, rfl, hlog, hG, hG2, ht, hb⟩; have HBn := Lib.hid hb; have H9 := Lib.hid (H8.out.right hlog hG hG2 ht hb); clear hlog hG hG2 ht hb H8 HB HR8; have HB := HBn; clear HBn; have o0 : w9.cell? ⟨ob, 0, none⟩ = some (.int .i64 1000) := pw_cell_below HB.out HO.out.1; have o1 : w9.cell? ⟨ob, 1, none⟩ = some (.int .i64 3) := pw_cell_below HB.out HO.out.2.1; have o2 : w9.cell? ⟨ob, 2, none⟩ = some (.int .i64 qn) := pw_cell_below HB.out HO.out.2.2.1; have o3 : w9.cell? ⟨ob, 3, none⟩ = some (.int .i64 0) := pw_cell_below HB.out HO.out.2.2.2.1; have o4 : w9.cell? ⟨ob, 4, none⟩ = some (.string qs) := pw_cell_below HB.out HO.out.2.2.2.2) | (go_at_call 8; have H10 := Lib.hid (H9.out.below (below_alloc (Below.refl w9.heap.size w9) (Obj.cells #[.int .i64 1000, .int .i64 3, .int .i64 qn, .int .i64 0, .string qs] 45))); (with_reducible refine Calls.mono (HP4.out _ G9 p' w9.heap.size H10.out.two (late_in (by go_cell) (by go_cell) (by go_cell) (by go_cell) (by go_cell)) H10.out.bel H10.out.f2) ?_); rintro e w11 ⟨A11, c11, G11, rfl, hlog, hG, hG2, ht, hb⟩; have HBn := Lib.hid hb; have H11 := Lib.hid (H10.out.right hlog hG hG2 ht hb); clear o0 o1 o2 o3 o4 hlog hG hG2 ht hb H10 HB H9; have HB := HBn; clear HBn) | (go_at_call 10; have hh := H11.out; (with_reducible refine Calls.mono (HTR.out _ _ p _ H11.out.one) ?_); rintro e w12 ⟨t, rfl, ht, hb⟩; have HT1 := Lib.hid ht; have H12 := Lib.hid (H11.out.below hb); clear hh H11 ht; have HBn := Lib.hid (below_step (by repeat (first | (with_reducible exact HB.out) | apply below_alloc | apply pw_below_drewN | apply below_drew1 | exact HB.out)) hb); clear hb HB; have HB := HBn; clear HBn) | (go_at_call 10; (with_reducible refine Calls.mono (HTR.out _ _ p' _ H12.out.two) ?_); rintro e w13 ⟨u, rfl, ht, hb⟩; have HT2 := Lib.hid ht; have HT1b := Lib.hid (HT1.out.below hb); have H13 := Lib.hid (H12.out.below hb); clear H12 HT1 ht; have z0 : w13.cell? ⟨ob, 3, none⟩ = some (.int .i64 0) := pw_cell_below (below_step HB.out hb) HO.out.2.2.2.1; have z4 : w13.cell? ⟨ob, 4, none⟩ = some (.string qs) := pw_cell_below (below_step HB.out hb) HO.out.2.2.2.2; have HBn := Lib.hid (below_step (by repeat (first | (with_reducible exact HB.out) | apply below_alloc | apply pw_below_drewN | apply below_drew1 | exact HB.out)) hb); clear hb HB; have HB := HBn; clear HBn)
    | (fail "no arm"))
  have hvb := below_alloc (Below.refl w13.heap.size w13) (Obj.cells #[.bool true, .int .i64 0, .string qs] 35)
  have hbv2 := below_step HBV.out (below_step HB.out hvb)
  have s0 : (w13.alloc (Obj.cells #[.bool true, .int .i64 0, .string qs] 35)).cell? ⟨w13.heap.size, 0, none⟩ = some (.bool true) := by go_cell
  have s1 : (w13.alloc (Obj.cells #[.bool true, .int .i64 0, .string qs] 35)).cell? ⟨w13.heap.size, 1, none⟩ = some (.int .i64 0) := by go_cell
  have s2 : (w13.alloc (Obj.cells #[.bool true, .int .i64 0, .string qs] 35)).cell? ⟨w13.heap.size, 2, none⟩ = some (.string qs) := by go_cell
  have ho := OpIn.below HO.out (below_step HB.out hvb)
  have ht1 := HT1b.out.below hvb
  have ht2 := HT2.out.below hvb
  have hg1 := H13.out.one.below hvb
  have hg2 := H13.out.two.below hvb
  clear HB H13 HT1b HT2 HO z0 z4 hvb
  generalize w13.alloc (Obj.cells #[.bool true, .int .i64 0, .string qs] 35) = V2 at *
  generalize w13.heap.size = sb at *
  have S0 := Lib.hid s0
  have S1 := Lib.hid s1
  have S2 := Lib.hid s2
  have HO := Lib.hid ho
  have HT1 := Lib.hid ht1
  have HT2 := Lib.hid ht2
  have HG1 := Lib.hid hg1
  have HG2 := Lib.hid hg2
  have HV2 := Lib.hid hbv2
  clear s0 s1 s2 ho ht1 ht2 hg1 hg2 hbv2
  have HB := Lib.hid (Below.refl V2.heap.size V2)
  go_region_held3 (fun Y => Y.cell? ⟨ob, 0, none⟩ = some (.int .i64 1000) ∧ Y.cell? ⟨ob, 1, none⟩ = some (.int .i64 3) ∧ Y.cell? ⟨ob, 2, none⟩ = some (.int .i64 qn) ∧ Y.cell? ⟨ob, 3, none⟩ = some (.int .i64 0) ∧ Y.cell? ⟨ob, 4, none⟩ = some (.string qs) ∧ Y.cell? ⟨sb, 0, none⟩ = some (.bool true) ∧ Y.cell? ⟨sb, 1, none⟩ = some (.int .i64 0) ∧ Y.cell? ⟨sb, 2, none⟩ = some (.string qs))
    (exact ⟨pw_cell_below (by repeat (first | (with_reducible exact HB.out) | apply below_alloc | apply pw_below_drewN | apply below_drew1 | exact HB.out)) HO.out.1, pw_cell_below (by repeat (first | (with_reducible exact HB.out) | apply below_alloc | apply pw_below_drewN | apply below_drew1 | exact HB.out)) HO.out.2.1, pw_cell_below (by repeat (first | (with_reducible exact HB.out) | apply below_alloc | apply pw_below_drewN | apply below_drew1 | exact HB.out)) HO.out.2.2.1, pw_cell_below (by repeat (first | (with_reducible exact HB.out) | apply below_alloc | apply pw_below_drewN | apply below_drew1 | exact HB.out)) HO.out.2.2.2.1, pw_cell_below (by repeat (first | (with_reducible exact HB.out) | apply below_alloc | apply pw_below_drewN | apply below_drew1 | exact HB.out)) HO.out.2.2.2.2, pw_cell_below (by repeat (first | (with_reducible exact HB.out) | apply below_alloc | apply pw_below_drewN | apply below_drew1 | exact HB.out)) S0.out, pw_cell_below (by repeat (first | (with_reducible exact HB.out) | apply below_alloc | apply pw_below_drewN | apply below_drew1 | exact HB.out)) S1.out, pw_cell_below (by repeat (first | (with_reducible exact HB.out) | apply below_alloc | apply pw_below_drewN | apply below_drew1 | exact HB.out)) S2.out⟩)
    (first
      | (go_at_call 11; ((with_reducible refine Calls.mono (HSP.out _ _ t (HT1.out.below (by repeat (first | (with_reducible exact HB.out) | apply below_alloc | apply pw_below_drewN | apply below_drew1 | exact HB.out)))) ?_); rintro e y1 ⟨rfl, hb⟩; have HBn := Lib.hid (below_step (by repeat (first | (with_reducible exact HB.out) | apply below_alloc | apply pw_below_drewN | apply below_drew1 | exact HB.out)) hb); clear hb HB; have HB := HBn; clear HBn))
      | (go_at_call 11; ((with_reducible refine Calls.mono (HSP.out _ _ u (HT2.out.below (by repeat (first | (with_reducible exact HB.out) | apply below_alloc | apply pw_below_drewN | apply below_drew1 | exact HB.out)))) ?_); rintro e y2 ⟨rfl, hb⟩; have HBn := Lib.hid (below_step (by repeat (first | (with_reducible exact HB.out) | apply below_alloc | apply pw_below_drewN | apply below_drew1 | exact HB.out)) hb); clear hb HB; have HB := HBn; clear HBn))
      | (go_at_call 13; ((with_reducible refine Calls.mono (HTOP.out _ _ p (HG1.out.below (by repeat (first | (with_reducible exact HB.out) | apply below_alloc | apply pw_below_drewN | apply below_drew1 | exact HB.out)))) ?_); rintro e y3 ⟨rfl, hb⟩; have HBn := Lib.hid (below_step (by repeat (first | (with_reducible exact HB.out) | apply below_alloc | apply pw_below_drewN | apply below_drew1 | exact HB.out)) hb); clear hb HB; have HB := HBn; clear HBn))
      | (go_at_call 13; ((with_reducible refine Calls.mono (HTOP.out _ _ p' (HG2.out.below (by repeat (first | (with_reducible exact HB.out) | apply below_alloc | apply pw_below_drewN | apply below_drew1 | exact HB.out)))) ?_); rintro e y4 ⟨rfl, hb⟩; have HBn := Lib.hid (below_step (by repeat (first | (with_reducible exact HB.out) | apply below_alloc | apply pw_below_drewN | apply below_drew1 | exact HB.out)) hb); clear hb HB; have HB := HBn; clear HBn))
      | (go_at_call 14; ((with_reducible refine Calls.mono (HHAS.out _ _ p (HG1.out.below (by repeat (first | (with_reducible exact HB.out) | apply below_alloc | apply pw_below_drewN | apply below_drew1 | exact HB.out)))) ?_); rintro e y5 ⟨rfl, hb⟩; have HBn := Lib.hid (below_step (by repeat (first | (with_reducible exact HB.out) | apply below_alloc | apply pw_below_drewN | apply below_drew1 | exact HB.out)) hb); clear hb HB; have HB := HBn; clear HBn))
      | (go_at_call 14; ((with_reducible refine Calls.mono (HHAS.out _ _ p' (HG2.out.below (by repeat (first | (with_reducible exact HB.out) | apply below_alloc | apply pw_below_drewN | apply below_drew1 | exact HB.out)))) ?_); rintro e y6 ⟨rfl, hb⟩; have HBn := Lib.hid (below_step (by repeat (first | (with_reducible exact HB.out) | apply below_alloc | apply pw_below_drewN | apply below_drew1 | exact HB.out)) hb); clear hb HB; have HB := HBn; clear HBn))
      | (fail "no arm"))
  go_wp2
  go_ret
  exact ⟨by simp, below_step HV2.out (by repeat (first | (with_reducible exact HB.out) | apply below_alloc | apply pw_below_drewN | apply below_drew1 | exact HB.out))⟩
set_option maxRecDepth 100000 in
theorem old_far (A : Option Addr) (n c : Nat) (x0 x1 x2 x3 x4 : Int) (w : World) (hT : Tabs w) (h : 24 < n) (hm1 : n ≤ 9223372036854775807) :
    Calls Tryd.prog 4 #[.slice A n c, .agg #[.int .u8 x0, .int .u8 x1, .int .u8 x2, .int .u8 x3, .int .u8 x4]] w fun e w' => e = .returned (.bool true) ∧ Below w.heap.size w w' := by
  have HT := Lib.hid hT
  have HB := Lib.hid (Below.refl w.heap.size w)
  clear hT
  go_enter Tryd.func4, Tryd.ntmps4
  go_wp2_with (first
    | (go_at_call 6; (with_reducible refine Calls.mono (awake_calls _ (HT.out.below (by repeat (first | (with_reducible exact HB.out) | apply below_alloc | apply pw_below_drewN | apply below_drew1 | exact HB.out)))) ?_); rintro e w1 ⟨rfl, hb⟩; have HBn := Lib.hid (below_step (by repeat (first | (with_reducible exact HB.out) | apply below_alloc | apply pw_below_drewN | apply below_drew1 | exact HB.out)) hb); clear hb HB; have HB := HBn; clear HBn)
    | (fail "no arm"))
  all_goals (go_ret; exact ⟨rfl, (by repeat (first | (with_reducible exact HB.out) | apply below_alloc | apply pw_below_drewN | apply below_drew1 | exact HB.out))⟩)
end Go.Proofs.YtkmdmjlepmmejaaDoor.Ol
namespace Go.Proofs.YtkmdmjlepmmejaaDoor
open Go.RowKit Go.Proofs.YtkmdmjlepmmejaaDoorW.PrintWords Ol Tr
theorem oplogOld_walk (A : Option Addr) (c : Nat) (ts : List TinyT) (x : TinyT) (W : World) (h0 : ReadsRow (tinyKd.K W) 5 W A ts.length ts) (_ : ts.length ≤ c) (k0 : ts.length ≤ maxLen ∧ ∀ x ∈ ts, tinyOk x) (hx : TinyIn x) (hT : Tabs W) :
    Calls Tryd.prog 4 #[.slice A ts.length c, .agg (tinyCs x)] W fun e w' => e = .returned (.bool true) ∧ Below W.heap.size W w' := by
  have ha := tinys_of_row h0
  by_cases c1 : ts.length ≤ 24
  · have hr : opRight (ofT x) = true := of_right _ _ _ _ _
    have hw := right_wf hr
    exact old_walk A _ c x.1 x.2.1 x.2.2.1 x.2.2.2.1 x.2.2.2.2 (ofT x) W (ts.map ofT) _ _ c1 (by rw [List.length_map]; exact c1) ofs_small hw.2.2 hw.1 hT (old_k ts c1 (ofT x) hr) (fun V => refof_calls _ _ _ _ _ V hx.1 hx.2.1 hx.2.2.1 hx.2.2.2.1 hx.2.2.2.2) (fun V h => Ol.all_calls A _ c ts V (ha.below h) (fun x h => tinyIn (k0.2 x h)) (by omega))
  · exact old_far A _ c _ _ _ _ _ W hT (by omega) ha.2.1
end Go.Proofs.YtkmdmjlepmmejaaDoor
/- The row and the card of the law OplogOld, out of its walk. -/
namespace Go.Proofs.YtkmdmjlepmmejaaDoor.oplogOld
open Go.ChangeShapes Go.WideShapes Go.ChangeAt Go.RowKit Go.Lib
open Go.ChangeMaps (open_string shut_string)
open Go.Proofs.YtkmdmjlepmmejaaDoorW.Open Go.Proofs.YtkmdmjlepmmejaaDoorW.PrintWords
theorem own : ownKnob Tryd.prog.godebug = none := by kernel_rfl
theorem laidOut : laidOutB Tryd.prog = true := by kernel_rfl
theorem op0 : Opens Tryd.prog 22 (Kd.slice 41 tinyKd) (fun xs => xs.length ≤ maxLen ∧ ∀ x ∈ xs, tinyOk x) := Opens.slice Tryd.underlying22 (by kernel_rfl) tinyOpens
theorem witness_row (os : Os) {H : Type} (enc : TypeId × Value → H) :
    (OpenSpec.ofChange Rows.oplogOldSpec).preRow enc Tryd.prog Tryd.f4 Rows.oplogOldRow.domain false Rows.oplogOldRow.laid ((laidWorld os).forCall (fun _ _ => 0) ⟨#[], #[.slice none 0 0, .agg #[.int .u8 0, .int .u8 0, .int .u8 0, .int .u8 0, .int .u8 0]], []⟩).memory #[.slice none 0 0, .agg #[.int .u8 0, .int .u8 0, .int .u8 0, .int .u8 0, .int .u8 0]] := by
  have hw : (DataW.whole enc Tryd.prog ((laidWorld os).forCall (fun _ _ => 0) ⟨#[], #[.slice none 0 0, .agg #[.int .u8 0, .int .u8 0, .int .u8 0, .int .u8 0, .int .u8 0]], []⟩).memory Tryd.f4.params.toList (OpenSpec.ofChange Rows.oplogOldSpec).vars false (#[.slice none 0 0, .agg #[.int .u8 0, .int .u8 0, .int .u8 0, .int .u8 0, .int .u8 0]] : Array Value).toList 8).map (fun x => (x.1, x.2.1)) =
      some ([.nil, .agg [.lit (.int .u8 0), .lit (.int .u8 0), .lit (.int .u8 0), .lit (.int .u8 0), .lit (.int .u8 0)]], []) := by kernel_rfl
  obtain ⟨⟨x1, x2, x3⟩, hx, hx1⟩ := Option.map_eq_some_iff.1 hw
  simp only [Prod.mk.injEq] at hx1
  obtain ⟨rfl, rfl⟩ := hx1
  exact OpenSpec.preRow_of_cond 8 hx (by kernel_rfl) (fun k hk => by cases hk) (by kernel_rfl) (laid_met os _)
set_option maxRecDepth 100000 in
set_option maxHeartbeats 2000000 in
theorem lifted (os : Os) (started : os.Started) (H : Type) (enc : TypeId × Value → H) (F : Stop.Interp) :
    ReturnsInHanded {} Tryd.checked os 4 .any ((OpenSpec.ofChange Rows.oplogOldSpec).preRow enc Tryd.prog Tryd.f4 Rows.oplogOldRow.domain false Rows.oplogOldRow.laid) (((OpenSpec.ofChange Rows.oplogOldSpec).at F).post enc Tryd.prog Tryd.f4 false true false false) := by
  refine returnsInHanded_of_row (C := Tryd.checked) (s := OpenSpec.ofChange Rows.oplogOldSpec) own started (by kernel_rfl) Tryd.func4
    (witness_row_atRef (enc := enc) (C := Tryd.checked) false (laidWorld os) #[.slice none 0 0, .agg #[.int .u8 0, .int .u8 0, .int .u8 0, .int .u8 0, .int .u8 0]] rfl (by kernel_rfl) (by kernel_rfl) (by kernel_rfl) (witness_row os enc)) ?_
  intro W base args ds gs before hval0 hW _ _ _ hL _ _
  have hval : ∀ (j : Nat) t v, Tryd.f4.params[j]? = some t → args[j]? = some v → Value.okWide Tryd.prog W .any base t v := hval0
  have hW' := hW
  obtain ⟨p, q, hA0, hV, rfl, hfz, hnd⟩ := hW
  have hA : DataW.TrodAll enc Tryd.prog W 0 (fun _ => true) true Tryd.f4.params.toList args.toList ds p := hA0
  rw [Tryd.params4] at hA hval
  obtain ⟨v0, vs0, d0, ds0, p0, q0, hargs, rfl, rfl, h0, r0⟩ := trodAll_cons hA
  obtain ⟨v1, vs1, d1, ds1, p1, q1, rfl, rfl, rfl, h1, r1⟩ := trodAll_cons r0
  obtain ⟨rfl, rfl, rfl⟩ := trodAll_nil r1
  obtain rfl : args = #[v0, v1] := by cases args; simp_all
  obtain ⟨rfl, rfl⟩ := trodVars_none hV
  have k0 := h0
  have lt0 : ∀ x ∈ p0, x.block < W.heap.size := by obtain ⟨m, hm⟩ := k0; exact DataW.trod_lt m _ _ _ hm
  obtain ⟨a0, len0, cap0, rfl⟩ := okWide_slice Tryd.underlying22 (hval 0 22 v0 rfl rfl)
  obtain ⟨l0, hK0, ok0⟩ := Opens.arg op0 h0
  obtain ⟨A0, c0, e0, hc0, hr0⟩ := hK0
  simp only [Value.cells, List.cons.injEq, Value.slice.injEq, and_true] at e0
  obtain ⟨rfl, rfl, rfl⟩ := e0
  have k1 := h1
  have lt1 : ∀ x ∈ p1, x.block < W.heap.size := by obtain ⟨m, hm⟩ := k1; exact DataW.trod_lt m _ _ _ hm
  obtain ⟨cs1, rfl, _⟩ := okWide_struct Tryd.underlying41 (hval 1 41 v1 rfl rfl)
  obtain ⟨l1, hK1, ok1⟩ := Opens.arg tinyOpens h1
  obtain rfl := tinyCs_of hK1
  clear hA0 hval0
  have htab : Tabs W := tabs_of (Lib.laidMet.reads hL (.tail _ (.head _))) (Lib.laidMet.reads hL (.head _))
  refine (oplogOld_walk a0 cap0 l0 (id l1) W hr0 hc0 ok0 (tinyIn ok1) htab).mono fun e W' ⟨he, bel⟩ => ?_
  subst he
  exact ⟨_, rfl, _, _, _, [], _, [], hW', trodAll_mk1 (shut_bool Tryd.underlying4 _), (trodAll_cons_mk (Below.trod laidOut (by kernel_rfl) (of_decide_eq_true (by kernel_rfl)) k0 bel lt0) (trodAll_cons_mk (Below.trod laidOut (by kernel_rfl) (of_decide_eq_true (by kernel_rfl)) k1 bel lt1) trodAll_mk0)), rfl, bel.frame _, fun h => by cases h⟩
theorem row_holds : Rows.OplogOldSaid :=
  OpenClaim.holds_of_cond 4 Tryd.f4 rfl rfl rfl rfl rfl rfl rfl ⟨rfl, rfl, rfl, rfl, rfl⟩ rfl rfl rfl rfl rfl (by kernel_rfl) Tryd.func4 (by kernel_rfl)
    (of_decide_eq_true (by kernel_rfl)) (by unfold Func.isWrapper; first | (rw [if_pos (by decide +kernel)]; kernel_rfl) | (rw [if_neg (by decide +kernel)]; exact ⟨rfl, rfl⟩))
    (fun os started H enc _ F0 => by rw [OpenClaim.pre_eq_preRow]; exact lifted os started H enc F0)
end Go.Proofs.YtkmdmjlepmmejaaDoor.oplogOld
namespace Go.Proofs.YtkmdmjlepmmejaaDoor
open Go
theorem oplogOld_holds : Rows.OplogOldCardSaid :=
  Claim7.holds_tied_plain_at .later [] [.data, .pinned] true (true, "a1c277f66ca3d222e2fb7b606a7a703fb5baa65460a47f727c3013a7a9a2f163") true
    oplogOld.row_holds (fun _ h => by cases h) (by kernel_rfl) (fun _ h => by cases h) oplogOld_row_tie rfl ⟨rfl, rfl⟩ (by kernel_rfl) rfl
    (fun f fn hf hfn => by
      obtain rfl : f = 4 := Option.some.inj ((show Tryd.prog.funcNamed "holt/holtlaw08.OplogOld" = some 4 by kernel_rfl).symm.trans hf) |>.symm
      obtain rfl : fn = Tryd.f4 := (Option.some.inj (Tryd.func4.symm.trans hfn)).symm
      exact ⟨by kernel_rfl, fun j t ht => by
        have hm : t ∈ Tryd.f4.params.toList := List.mem_of_getElem? (by rw [Array.getElem?_toList]; exact ht)
        rw [Tryd.params4] at hm
        have hall : (Tryd.f4.params.toList.all fun t => !Tryd.prog.wantsStandIn t) = true := by kernel_rfl
        rw [Tryd.params4] at hall
        have := List.all_eq_true.1 hall t hm
        have h2 : Tryd.prog.wantsStandIn t = false := by simpa using this
        exact h2⟩)
    (by kernel_rfl)
#print axioms oplogOld_holds
end Go.Proofs.YtkmdmjlepmmejaaDoor
