/-
  The row and the card of the law OplogOwn, out of its walk.
-/
import Derived.Test.YtkmdmjlepmmejaaGreatDoorB9
import Derived.Deep.Cut
import Derived.Test.YtkmdmjlepmmejaaGreatDoorRows
import Derived.Test.YtkmdmjlepmmejaaGreatDoorCards
import Derived.Test.YtkmdmjlepmmejaaGreatDoorTie
import Derived.WalkKit
import Derived.ProofKit
import Derived.OpenShut
import Derived.ShutString
import Derived.ChangeOld
import Derived.Below
import Derived.SizedLaws
import Derived.SevenTiedAt
import Derived.Deep.DeepHandedRow
import Derived.Deep.DeepWitnessRowRef
/- The walk of the law OplogOwn. -/
namespace Go.Proofs.YtkmdmjlepmmejaaGreatDoor.Ol
open Go.RowKit Go.Sort Go.Proofs.YtkmdmjlepmmejaaGreatDoorW.PrintWords Tr

theorem fresh_row {w W : World} {v : Value} {l : List OpR} {F : Nat → Prop} (h : OwnO w W.heap.size v l) (hF : ∀ b, F b → b < W.heap.size) : ∀ b, v.ownBlock = some b → ¬ F b := fun b e hb => by
  obtain ⟨inner, hrow, _⟩ := h
  have := own_base hrow b e
  have := hF b hb
  omega
theorem row_off {W : World} {B : Nat} {v : Value} {l : List OpR} {F F' : Nat → Prop} (h : OwnO W B v l) (hn : ∀ b, v.ownBlock = some b → ¬ F b) (hF : ∀ b, F' b → F b ∨ W.heap.size ≤ b) : ∀ b, v.ownBlock = some b → ¬ F' b := fun b e hb => by
  obtain ⟨inner, hrow, _⟩ := h
  have := own_lt hrow b e
  rcases hF b hb with h1 | h1
  · exact hn b e h1
  · omega
theorem row_lt {W : World} {B : Nat} {v : Value} {l : List OpR} (h : OwnO W B v l) : ∀ b, v.ownBlock = some b → b < W.heap.size := fun b e => by
  obtain ⟨inner, hrow, _⟩ := h
  exact own_lt hrow b e
theorem rows_apart {W W' : World} {B : Nat} {v v' : Value} {l l' : List OpR} (h : OwnO W B v l) (k : OwnO W' W.heap.size v' l') : ∀ b, v.ownBlock = some b → v'.ownBlock ≠ some b := fun b e e' => by
  obtain ⟨inner, hrow, _⟩ := h
  obtain ⟨inner', hrow', _⟩ := k
  have := own_lt hrow b e
  have := own_base hrow' b e'
  omega
theorem ops_of_own {W : World} {B : Nat} {A : Option Addr} {c a : Nat} {l : List OpR} (e : l.length = a) (h : OwnO W B (.slice A a c) l) : OpsAt W A a l := by
  obtain ⟨A', c', he, _, hr⟩ := OwnO.ops h
  cases he
  exact hr
theorem kids_of_own {W : World} {B : Nat} {A : Option Addr} {c a : Nat} {l : List KidR} (e : l.length = a) (h : OwnK W B (.slice A a c) l) : KidsAt W A a l := by
  obtain ⟨A', c', he, _, hr⟩ := OwnK.kids h
  cases he
  exact hr
theorem own_rowB {W : World} {B : Nat} {v : Value} {l : List OpR} (h : OwnO W B v l) : ∀ g, v.ownBlock = some g → RowB W g l.length := fun g e => by
  obtain ⟨inner, hrow, _⟩ := h
  rcases hrow.2 with ⟨rfl, _⟩ | ⟨g', cap, cur, rfl, _, hg, h1, _, h3, _⟩
  · cases e
  · cases e
    exact ⟨cur, hg, by rw [h3]; exact Nat.mul_le_mul_right 5 h1⟩
theorem own_addr {W : World} {B n c : Nat} {A : Option Addr} {l : List OpR} (h : OwnO W B (.slice A n c) l) (hl : 0 < n) : ∃ g, A = some ⟨g, 0, none⟩ ∧ B ≤ g := by
  obtain ⟨inner, hrow, _⟩ := h
  rcases hrow.2 with ⟨h', _⟩ | ⟨g, cap, cur, h', hb, _⟩
  · cases h'; omega
  · cases h'
    exact ⟨g, rfl, hb⟩
theorem same_self {us : List OpR} : sameO us us = true := by simp [sameO]
theorem samek_self {us : List KidR} : sameK us us = true := by simp [sameK]
set_option maxRecDepth 100000 in
set_option maxHeartbeats 4000000 in
theorem own_walk (A : Option Addr) (n c : Nat) (x0 x1 x2 x3 x4 : Int) (q : OpR) (w : World) (X L : List OpR) (a m : Nat) (hn : n ≤ 24) (hxn : X.length = n) (hsx : ∀ o ∈ X, o.name.size ≤ 9223372036854775807) (hq : opRight q = true) (hT : Tabs w) (hp : ∃ k c, putR 1000 [] X = ⟨k, c, 0, L⟩) (hr : ∀ o ∈ L, opRight o = true) (ha : L.length = a) (ha2 : a ≤ 24) (hm : (srt kidCmp (treeO L)).length = m)
    (ho : ∀ W : World, Calls Tryz.prog 26 #[.agg #[.int .u8 x0, .int .u8 x1, .int .u8 x2, .int .u8 x3, .int .u8 x4]] W fun e w' => e = .returned (opV q) ∧ Below W.heap.size W w')
    (h1 : ∀ W : World, Below w.heap.size w W → Calls Tryz.prog 24 #[.slice A n c] W fun e w' => ∃ v, e = .returned v ∧ OwnO w' W.heap.size v X ∧ Below W.heap.size W w') :
    Calls Tryz.prog 5 #[.slice A n c, .agg #[.int .u8 x0, .int .u8 x1, .int .u8 x2, .int .u8 x3, .int .u8 x4]] w fun e w' => e = .returned (.bool true) ∧ Below w.heap.size w w' := by
  obtain ⟨k1, c1, e1⟩ := hp
  have p1 := fun (V : World) (h : Tabs V) => put_c e1 (log0 (by decide)) hsx h (by simp; omega) (by decide)
  have al1 : ∀ (W : World) (F : Nat → Prop) (p : Nat), LogAt W F p 1000 L → Calls Tryz.prog 15 #[.pointer (some ⟨p, 0, none⟩)] W fun e w' => ∃ A c, e = .returned (.slice A a c) ∧ OwnO w' W.heap.size (.slice A a c) L ∧ Below W.heap.size W w' := fun W F p H =>
    (log_all W F p 1000 L H (by omega)).mono fun e w' ⟨v', he, ho, hb⟩ => by
      obtain ⟨A', c', rfl, _, _⟩ := OwnO.ops ho
      rw [ha] at he ho
      exact ⟨A', c', he, ho, hb⟩
  have htr := fun (W : World) (F : Nat → Prop) (p : Nat) (H : LogAt W F p 1000 L) => log_tree W F p 1000 L H (by omega)
  have hta : ∀ (W : World) (F : Nat → Prop) (p : Nat), TreeAt W F p L → Calls Tryz.prog 19 #[.pointer (some ⟨p, 0, none⟩)] W fun e w' => ∃ A c, e = .returned (.slice A m c) ∧ OwnK w' W.heap.size (.slice A m c) (srt kidCmp (treeO L)) ∧ Below W.heap.size W w' := fun W F p H =>
    (treeall_calls W F p L H hr (by omega)).mono fun e w' ⟨v', he, ho, hb⟩ => by
      obtain ⟨A', c', rfl, _⟩ := OwnRow.slice_ ho
      rw [hm] at he ho
      exact ⟨A', c', he, ho, hb⟩
  have hap := fun (V W : World) (F : Nat → Prop) (p : Nat) (H : TreeAt W F p L) (hT : Tabs V) (hB : Below V.heap.size V W) => apply_calls V W F p L q H hq hr hT hB (by omega)
  have hu1 := fun (W : World) (F : Nat → Prop) (p : Nat) (H : TreeAt W F p (L ++ [q])) => undo_any W F p (L ++ [q]) H (fun o h => (List.mem_append.1 h).elim (hr o) (fun h => by rw [List.mem_singleton.1 h]; exact hq)) (by rw [List.length_append, List.length_singleton]; omega)
  rw [List.dropLast_concat] at hu1
  have hu2 := fun (W : World) (F : Nat → Prop) (p : Nat) (H : TreeAt W F p L) => undo_any W F p L H hr (by omega)
  have hs := fun (A : Option Addr) (c : Nat) (B : Option Addr) (d : Nat) (W : World) (h : OpsAt W A a L) (k : OpsAt W B a L) => sameO_calls A _ c L B _ d L W h k
  have hsk := fun (A : Option Addr) (c : Nat) (B : Option Addr) (d : Nat) (W : World) (h : KidsAt W A m (srt kidCmp (treeO L))) (k : KidsAt W B m (srt kidCmp (treeO L))) => sameK_calls A _ c (srt kidCmp (treeO L)) B _ d (srt kidCmp (treeO L)) W h k
  rw [same_self] at hs
  rw [samek_self] at hsk
  generalize c1.length = nc1 at p1
  generalize L ++ [q] = M at *
  simp only [opV] at ho hap
  generalize q.n = y0 at *
  generalize q.r = y1 at *
  generalize q.par = y2 at *
  generalize q.node = y3 at *
  generalize q.name = y4 at *
  generalize srt kidCmp (treeO L) = S at *
  have HAL1 := Lib.hid al1
  have HTR := Lib.hid htr
  have HTA := Lib.hid hta
  have HAP := Lib.hid hap
  have HU1 := Lib.hid hu1
  have HU2 := Lib.hid hu2
  have HSO := Lib.hid hs
  have HSK := Lib.hid hsk
  have HEA := Lib.hid ha
  have HEM := Lib.hid hm
  have HEX := Lib.hid hxn
  have P1 := Lib.hid p1
  have HO := Lib.hid ho
  have H1 := Lib.hid h1
  have HT := Lib.hid hT
  have HB := Lib.hid (Below.refl w.heap.size w)
  clear hr al1 htr hta hap hu1 hu2 hs hsk ha hm p1 ho h1 hT hsx hq e1 hxn
  go_enter Tryz.func5, Tryz.ntmps5
  go_upto_region 4 with (first
    | (go_at_call 7; (with_reducible refine Calls.mono (awake_calls _ (HT.out.below (by repeat (first | (with_reducible exact HB.out) | apply below_alloc | apply pw_below_drewN | apply below_drew1 | exact HB.out)))) ?_); rintro e w1 ⟨rfl, hb⟩; have a0 : w1.cell? ⟨w.heap.size, 0, none⟩ = some (.int .u8 x0) := pw_cell_below hb (by go_cell); have a1 : w1.cell? ⟨w.heap.size, 1, none⟩ = some (.int .u8 x1) := pw_cell_below hb (by go_cell); have a2 : w1.cell? ⟨w.heap.size, 2, none⟩ = some (.int .u8 x2) := pw_cell_below hb (by go_cell); have a3 : w1.cell? ⟨w.heap.size, 3, none⟩ = some (.int .u8 x3) := pw_cell_below hb (by go_cell); have a4 : w1.cell? ⟨w.heap.size, 4, none⟩ = some (.int .u8 x4) := pw_cell_below hb (by go_cell); have HA := Lib.hid (show TinyAt w.heap.size 0 (x0, x1, x2, x3, x4) w1 from ⟨a0, a1, a2, a3, a4⟩); have HV := Lib.hid (below_step (by repeat (first | (with_reducible exact HB.out) | apply below_alloc | apply pw_below_drewN | apply below_drew1 | exact HB.out)) hb); clear a0 a1 a2 a3 a4 hb HB; have HB := Lib.hid (Below.refl w1.heap.size w1))
    | (fail "no arm"))
  have HP1 := Lib.hid (P1.out w1 (HT.out.below HV.out))
  go_upto_region 14 with (first
    | (go_at_call 8; (with_reducible refine Calls.mono (log_new _ 1000 (by decide)) ?_); rintro e w2 ⟨p, F, rfl, hlog, hF, hb⟩; have HL := Lib.hid hlog; have HF := Lib.hid (fun b hb' => Nat.le_trans HB.out.size (hF b hb')); clear hlog hF; have HBn := Lib.hid (below_step (by repeat (first | (with_reducible exact HB.out) | apply below_alloc | apply pw_below_drewN | apply below_drew1 | exact HB.out)) hb); clear hb HB; have HB := HBn; clear HBn) | (go_at_call 24; (with_reducible refine Calls.mono (H1.out _ (below_step HV.out HB.out)) ?_); rintro e w3 ⟨v3, rfl, ho, hb⟩; have HS2 := Lib.hid HB.out.size; have HL3 := Lib.hid (HL.out.below hb); have HO3 := Lib.hid ho; have HD3 := Lib.hid (fresh_row ho HL.out.lt); obtain ⟨A3, c3, rfl, _, hr3⟩ := OwnO.ops ho; have HR3 := Lib.hid hr3; clear HL ho hr3; have HBn := Lib.hid (below_step (by repeat (first | (with_reducible exact HB.out) | apply below_alloc | apply pw_below_drewN | apply below_drew1 | exact HB.out)) hb); clear hb HB; have HB := HBn; clear HBn) | (go_at_call 10; (with_reducible refine Calls.mono (HP1.out _ F p A3 c3 HL3.out HR3.out HB.out HF.out) ?_); rintro e w4 ⟨A4, c4, F4, rfl, hlog, hF0, hF, ht, hb⟩; have HL4 := Lib.hid hlog; have HO4 := Lib.hid (ht.row HO3.out HD3.out); have HD4 := Lib.hid (row_off HO3.out HD3.out hF0); have HBn := Lib.hid hb; clear HL3 HF HR3 HO3 HD3 hlog hF0 hF ht hb HB; have HB := HBn; clear HBn) | (go_at_call 15; (with_reducible refine Calls.mono (HAL1.out _ F4 p HL4.out) ?_); rintro e w5 ⟨A5, c5, rfl, ho, hb⟩; have HW5 := Lib.hid ho; have HDW := Lib.hid (fresh_row ho HL4.out.lt); have HN5 := Lib.hid (rows_apart HO4.out ho); have HO5 := Lib.hid (OwnRow.below HO4.out hb); have HL5 := Lib.hid (HL4.out.below hb); clear HL4 HO4 ho; have HBn := Lib.hid (below_step (by repeat (first | (with_reducible exact HB.out) | apply below_alloc | apply pw_below_drewN | apply below_drew1 | exact HB.out)) hb); clear hb HB; have HB := HBn; clear HBn) | (go_at_call 12; (with_reducible refine Calls.mono (HTR.out _ F4 p HL5.out) ?_); rintro e w6 ⟨t, rfl, ht, hb⟩; have HS5 := Lib.hid HB.out.size; have HS6 := Lib.hid hb.size; have HT6 := Lib.hid (TreeAt.trim ht); have HDT := Lib.hid (show ∀ b, (w5.heap.size ≤ b ∧ b < w6.heap.size) → ¬ F4 b from fun b h k => by have := HL5.out.lt b k; omega); have HW6 := Lib.hid (OwnRow.below HW5.out hb); have HO6 := Lib.hid (OwnRow.below HO5.out hb); have HL6 := Lib.hid (HL5.out.below hb); have HX5 := Lib.hid (row_lt HW5.out); have HX6 := Lib.hid (row_lt HO5.out); clear HL5 HW5 HO5 ht; have HBn := Lib.hid (below_step (by repeat (first | (with_reducible exact HB.out) | apply below_alloc | apply pw_below_drewN | apply below_drew1 | exact HB.out)) hb); clear hb HB; have HB := HBn; clear HBn) | (go_at_call 19; (with_reducible refine Calls.mono (HTA.out _ _ t HT6.out) ?_); rintro e w7 ⟨A7, c7, rfl, ho, hb⟩; have HK7 := Lib.hid ho; have HW7 := Lib.hid (OwnRow.below HW6.out hb); have HO7 := Lib.hid (OwnRow.below HO6.out hb); have HL7 := Lib.hid (HL6.out.below hb); have HT7 := Lib.hid (HT6.out.below hb); have HS67 := Lib.hid (show w5.heap.size ≤ w7.heap.size ∧ w6.heap.size ≤ w7.heap.size from ⟨Nat.le_trans HS6.out hb.size, hb.size⟩); clear HL6 HW6 HO6 HT6 ho; have HBn := Lib.hid (below_step (by repeat (first | (with_reducible exact HB.out) | apply below_alloc | apply pw_below_drewN | apply below_drew1 | exact HB.out)) hb); clear hb HB; have HB := HBn; clear HBn)
    | (fail "no arm"))
  have HG0 := Lib.hid (show ∀ b, (Value.slice A3 X.length c3).ownBlock = some b → b < w5.heap.size from fun b e => HX6.out b e)
  have HG1 := Lib.hid (show ∀ b, F4 b → ¬ ((w5.heap.size ≤ b ∧ b < w6.heap.size) ∨ (Value.slice A3 X.length c3).ownBlock = some b) from fun b h k => k.elim (fun k => HDT.out b k h) (fun k => HD4.out b k h))
  have HG2 := Lib.hid (show ∀ b, (Value.slice A5 a c5).ownBlock = some b → ¬ ((w5.heap.size ≤ b ∧ b < w6.heap.size) ∨ (Value.slice A3 X.length c3).ownBlock = some b) from fun b h k => k.elim (fun k => by have := HX5.out b h; omega) (fun k => HN5.out b k h))
  have HG3 := Lib.hid (show ∀ b, (Value.slice A7 m c7).ownBlock = some b → ¬ ((w5.heap.size ≤ b ∧ b < w6.heap.size) ∨ (Value.slice A3 X.length c3).ownBlock = some b) from fun b h k => by
    obtain ⟨inner, hrow, _⟩ := HK7.out
    have h1 := own_base hrow b h
    exact k.elim (fun k => by omega) (fun k => by have := HG0.out b k; have := HS6.out; omega))
  have HG4 := Lib.hid (show ∀ b, ((w5.heap.size ≤ b ∧ b < w6.heap.size) ∨ (Value.slice A3 X.length c3).ownBlock = some b) → w1.heap.size ≤ b from fun b k => k.elim (fun k => by have := HS5.out; omega) (fun k => by
    obtain ⟨inner, hrow, _⟩ := HO7.out
    exact Nat.le_trans HS2.out (own_base hrow b k)))
  have HLZ := Lib.hid (fun (V : World) (h : Tr.Touch (fun b => (w5.heap.size ≤ b ∧ b < w6.heap.size) ∨ (Value.slice A3 X.length c3).ownBlock = some b) w7 V) => HL7.out.touch h HG1.out)
  have HWZ := Lib.hid (fun (V : World) (h : Tr.Touch (fun b => (w5.heap.size ≤ b ∧ b < w6.heap.size) ∨ (Value.slice A3 X.length c3).ownBlock = some b) w7 V) => ops_of_own HEA.out (h.row HW7.out HG2.out))
  have HKZ := Lib.hid (fun (V : World) (h : Tr.Touch (fun b => (w5.heap.size ≤ b ∧ b < w6.heap.size) ∨ (Value.slice A3 X.length c3).ownBlock = some b) w7 V) => kids_of_own HEM.out (h.row HK7.out HG3.out))
  have HFIN := Lib.hid (fun (V : World) (h : Tr.Touch (fun b => (w5.heap.size ≤ b ∧ b < w6.heap.size) ∨ (Value.slice A3 X.length c3).ownBlock = some b) w7 V) => below_step HV.out (Below.trans HB.out (h.toBelow HB.out.size HG4.out)))
  obtain ⟨a0, a1, a2, a3, a4⟩ := HA.out.below HB.out
  have HTC := Lib.hid (Tr.Touch.refl (fun b => (w5.heap.size ≤ b ∧ b < w6.heap.size) ∨ (Value.slice A3 X.length c3).ownBlock = some b) w7)
  have HOFF := Lib.hid (show ∀ (Ft : Nat → Prop), (∀ b, Ft b → (w5.heap.size ≤ b ∧ b < w6.heap.size) ∨ w7.heap.size ≤ b) → (∀ b, (Value.slice A3 X.length c3).ownBlock = some b → ¬ Ft b) ∧ ∀ b, b < w7.heap.size → Ft b → (w5.heap.size ≤ b ∧ b < w6.heap.size) ∨ (Value.slice A3 X.length c3).ownBlock = some b from fun Ft h => ⟨fun b e k => by
    have h1 := HG0.out b e
    have h2 := HS67.out
    exact (h b k).elim (fun x => by omega) (fun x => by omega), fun b e k => (h b k).elim .inl (fun x => by omega)⟩)
  go_upto_region 17 with (first
    | (go_at_call 26; (with_reducible refine Calls.mono (HO.out _) ?_); rintro e w8 ⟨rfl, hb⟩; have HT8 := Lib.hid (HT7.out.below hb); have HO8 := Lib.hid (OwnRow.below HO7.out hb); have HC8 := Lib.hid (HTC.out.trans (Tr.Touch.below (F := fun _ => False) hb) (fun _ _ h => h.elim)); have HB8 := Lib.hid (below_step HB.out hb); have HS8 := Lib.hid hb.size; clear HT7 HO7 HTC hb a0 a1 a2 a3 a4)
    | (go_at_call 25; (with_reducible refine Calls.mono (HAP.out w1 _ _ t HT8.out (HT.out.below HV.out) HB8.out) ?_); rintro e w9 ⟨rfl, F9, ht, hF, htc⟩; have HF9 := Lib.hid (show ∀ b, F9 b → (w5.heap.size ≤ b ∧ b < w6.heap.size) ∨ w7.heap.size ≤ b from fun b h => (hF b h).imp id (fun x => Nat.le_trans HS8.out x)); have HT9 := Lib.hid ht; have HO9 := Lib.hid (htc.row HO8.out (HOFF.out _ (fun b h => .inl h)).1); have HC9 := Lib.hid (HC8.out.trans htc (HOFF.out _ (fun b h => .inl h)).2); clear HT8 HO8 HC8 ht hF htc)
    | (go_at_call 27; (with_reducible refine Calls.mono (HU1.out _ _ t HT9.out) ?_); rintro e w10 ⟨b10, rfl, ht, htc⟩; have HT10 := Lib.hid ht; have HO10 := Lib.hid (htc.row HO9.out (HOFF.out _ HF9.out).1); have HC10 := Lib.hid (HC9.out.trans htc (HOFF.out _ HF9.out).2); clear HT9 HO9 HC9 ht htc)
    | (go_at_call 27; (with_reducible refine Calls.mono (HU2.out _ _ t HT10.out) ?_); rintro e w11 ⟨b11, rfl, ht, htc⟩; have HO11 := Lib.hid (htc.row HO10.out (HOFF.out _ HF9.out).1); have HC11 := Lib.hid (HC10.out.trans htc (HOFF.out _ HF9.out).2); clear HT10 HO10 HC10 ht htc)
    | (fail "no arm"))
  have hxl : X.length ≤ 24 := by rw [HEX.out]; exact hn
  have HR0 := Lib.hid (own_rowB HO11.out)
  clear HEX
  generalize X.length = xl at *
  go_wp2
  go_loopw [14] (fun vi V => ∃ i : Nat, vi = .int .i64 i ∧ i ≤ xl ∧ Hid (∀ g, (Value.slice A3 xl c3).ownBlock = some g → RowB V g xl) ∧ Hid (Tr.Touch (fun b => (w5.heap.size ≤ b ∧ b < w6.heap.size) ∨ (Value.slice A3 xl c3).ownBlock = some b) w7 V)) (fun vi _ => (xl - (RowKit.intOf vi).toNat))
  case atStart => exact ⟨0, rfl, by omega, HR0, HC11⟩
  case round =>
    obtain ⟨i, rfl, hi, HR, HC⟩ := hrel
    by_cases hlt : i < xl
    · obtain ⟨g, rfl, _⟩ := own_addr HO11.out (show 0 < xl by omega)
      have hR : RowB wr g xl := HR.out g rfl
      obtain ⟨v0, hc⟩ := hR.cell (j := i * 5 + 4) (by omega)
      have hf := hR.fz (i * 5 + 4)
      have HR2 := Lib.hid (show ∀ g', (Value.slice (some ⟨g, 0, none⟩) xl c3).ownBlock = some g' → RowB (wr.setCell ⟨g, i * 5 + 4, none⟩ (.string ⟨#[113]⟩)) g' xl from fun g' e => by cases e; exact hR.set_ _)
      have HC2 := Lib.hid (HC.out.trans (Tr.Touch.set_ (F := fun b => (w5.heap.size ≤ b ∧ b < w6.heap.size) ∨ (Value.slice (some ⟨g, 0, none⟩) xl c3).ownBlock = some b) (.inr rfl) (i * 5 + 4) (.string ⟨#[113]⟩)) (fun _ _ h => h))
      have hi1 : (0 : Int) ≤ (i : Int) := by omega
      have hi2 : (i : Int) < (xl : Int) := by omega
      clear hR
      go_wp2
      go_roundw
      case rel => exact ⟨i + 1, by go_num, by omega, HR2, HC2⟩
      case measure => simp [RowKit.intOf] <;> omega
    · obtain rfl : i = xl := by omega
      go_wp2_with (first
        | (go_at_call 15; (with_reducible refine Calls.mono (HAL1.out _ F4 p (HLZ.out _ HC.out)) ?_); rintro e w12 ⟨A12, c12, rfl, ho, hb⟩; have HX := Lib.hid ho; have HC12 := Lib.hid (HC.out.trans (Tr.Touch.below (F := fun _ => False) hb) (fun _ _ h => h.elim)); have HXB := Lib.hid HC.out.size; clear ho hb)
        | (fail "no arm"))
      have HR1 := Lib.hid (show ∀ g, (Value.slice A12 a c12).ownBlock = some g → RowB w12 g a from by have := own_rowB HX.out; rw [HEA.out] at this; exact this)
      clear HR HC HO11 HC11 HR0
      go_loopw [16] (fun vi V => ∃ j : Nat, vi = .int .i64 j ∧ j ≤ a ∧ Hid (∀ g, (Value.slice A12 a c12).ownBlock = some g → RowB V g a) ∧ Hid (Tr.Touch (fun b => (w5.heap.size ≤ b ∧ b < w6.heap.size) ∨ (Value.slice A3 i c3).ownBlock = some b) w7 V)) (fun vi _ => (a - (RowKit.intOf vi).toNat))
      case atStart => exact ⟨0, rfl, by omega, HR1, HC12⟩
      case round =>
        obtain ⟨j, rfl, hj, HR, HC⟩ := hrel
        by_cases hlt : j < a
        · obtain ⟨g, rfl, hgb⟩ := own_addr HX.out (show 0 < a by omega)
          have hR : RowB wr g a := HR.out g rfl
          obtain ⟨v0, hc⟩ := hR.cell (j := j * 5 + 2) (by omega)
          have hf := hR.fz (j * 5 + 2)
          have HR2 := Lib.hid (show ∀ g', (Value.slice (some ⟨g, 0, none⟩) a c12).ownBlock = some g' → RowB (wr.setCell ⟨g, j * 5 + 2, none⟩ (.int .i64 999)) g' a from fun g' e => by cases e; exact hR.set_ _)
          have HC2 := Lib.hid (HC.out.trans (Tr.Touch.set_ (F := fun b => b = g) rfl (j * 5 + 2) (.int .i64 999)) (fun b hb e => by have := HXB.out; omega))
          have hi1 : (0 : Int) ≤ (j : Int) := by omega
          have hi2 : (j : Int) < (a : Int) := by omega
          clear hR
          go_wp2
          go_roundw
          case rel => exact ⟨j + 1, by go_num, by omega, HR2, HC2⟩
          case measure => simp [RowKit.intOf] <;> omega
        · obtain rfl : j = a := by omega
          clear HX HR HR1 HC12
          go_wp2_with (first
            | (go_at_call 12; (with_reducible refine Calls.mono (HTR.out _ F4 p (HLZ.out _ HC.out)) ?_); rintro e w13 ⟨u, rfl, ht, hb⟩; have HT13 := Lib.hid ht; have HC13 := Lib.hid (HC.out.trans (Tr.Touch.below (F := fun _ => False) hb) (fun _ _ h => h.elim)); clear HC ht hb)
            | (go_at_call 15; (with_reducible refine Calls.mono (HAL1.out _ F4 p (HLZ.out _ HC13.out)) ?_); rintro e w14 ⟨A14, c14, rfl, ho, hb⟩; have HT14 := Lib.hid (HT13.out.below hb); have HR14 := Lib.hid (ops_of_own HEA.out ho); have HC14 := Lib.hid (HC13.out.trans (Tr.Touch.below (F := fun _ => False) hb) (fun _ _ h => h.elim)); clear HC13 HT13 ho hb)
            | (go_at_call 14; (with_reducible refine Calls.mono (HSO.out _ _ _ _ _ HR14.out (HWZ.out _ HC14.out)) ?_); rintro e w15 ⟨rfl, k15, rfl⟩; have hb := pw_below_drewN (Below.refl w14.heap.size w14) k15; have HT15 := Lib.hid (HT14.out.below hb); have HC15 := Lib.hid (HC14.out.trans (Tr.Touch.below (F := fun _ => False) hb) (fun _ _ h => h.elim)); clear HC14 HT14 HR14 hb)
            | (go_at_call 19; (with_reducible refine Calls.mono (HTA.out _ _ u HT15.out) ?_); rintro e w16 ⟨A16, c16, rfl, ho, hb⟩; have HK16 := Lib.hid (kids_of_own HEM.out ho); have HC16 := Lib.hid (HC15.out.trans (Tr.Touch.below (F := fun _ => False) hb) (fun _ _ h => h.elim)); clear HC15 HT15 ho hb)
            | (go_at_call 18; (with_reducible refine Calls.mono (HSK.out _ _ _ _ _ HK16.out (HKZ.out _ HC16.out)) ?_); rintro e w17 ⟨rfl, k17, rfl⟩; have hb := pw_below_drewN (Below.refl w16.heap.size w16) k17; have HC17 := Lib.hid (HC16.out.trans (Tr.Touch.below (F := fun _ => False) hb) (fun _ _ h => h.elim)); clear HC16 HK16 hb)
            | (fail "no arm"))
          go_ret
          exact ⟨by simp, HFIN.out _ HC17.out⟩
set_option maxRecDepth 100000 in
theorem own_far (A : Option Addr) (n c : Nat) (x0 x1 x2 x3 x4 : Int) (w : World) (hT : Tabs w) (h : 24 < n) (hm1 : n ≤ 9223372036854775807) :
    Calls Tryz.prog 5 #[.slice A n c, .agg #[.int .u8 x0, .int .u8 x1, .int .u8 x2, .int .u8 x3, .int .u8 x4]] w fun e w' => e = .returned (.bool true) ∧ Below w.heap.size w w' := by
  have HT := Lib.hid hT
  have HB := Lib.hid (Below.refl w.heap.size w)
  clear hT
  go_enter Tryz.func5, Tryz.ntmps5
  go_wp2_with (first
    | (go_at_call 7; (with_reducible refine Calls.mono (awake_calls _ (HT.out.below (by repeat (first | (with_reducible exact HB.out) | apply below_alloc | apply pw_below_drewN | apply below_drew1 | exact HB.out)))) ?_); rintro e w1 ⟨rfl, hb⟩; have HBn := Lib.hid (below_step (by repeat (first | (with_reducible exact HB.out) | apply below_alloc | apply pw_below_drewN | apply below_drew1 | exact HB.out)) hb); clear hb HB; have HB := HBn; clear HBn)
    | (fail "no arm"))
  all_goals (go_ret; exact ⟨rfl, (by repeat (first | (with_reducible exact HB.out) | apply below_alloc | apply pw_below_drewN | apply below_drew1 | exact HB.out))⟩)
end Go.Proofs.YtkmdmjlepmmejaaGreatDoor.Ol
namespace Go.Proofs.YtkmdmjlepmmejaaGreatDoor
open Go.RowKit Go.Proofs.YtkmdmjlepmmejaaGreatDoorW.PrintWords Ol Tr
theorem oplogOwn_walk (A : Option Addr) (c : Nat) (ts : List TinyT) (x : TinyT) (W : World) (h0 : ReadsRow (tinyKd.K W) 5 W A ts.length ts) (_ : ts.length ≤ c) (k0 : ts.length ≤ maxLen ∧ ∀ x ∈ ts, tinyOk x) (hx : TinyIn x) (hT : Tabs W) :
    Calls Tryz.prog 5 #[.slice A ts.length c, .agg (tinyCs x)] W fun e w' => e = .returned (.bool true) ∧ Below W.heap.size W w' := by
  have ha := tinys_of_row h0
  by_cases c1 : ts.length ≤ 24
  · have hl := join0_length (ts.map ofT)
    have hl2 : (joinO [] (ts.map ofT)).length = (newOf [] (ts.map ofT)).length := by rw [joinO_length]; simp
    rw [List.length_map] at hl
    exact own_walk A _ c x.1 x.2.1 x.2.2.1 x.2.2.2.1 x.2.2.2.2 (ofT x) W (ts.map ofT) (joinO [] (ts.map ofT)) _ _ c1 (by rw [List.length_map]) ofs_small (of_right _ _ _ _ _) hT ⟨(newOf [] (ts.map ofT)).length, chgsO [] (joinO [] (ts.map ofT)), put_ok (ofs_right ts) (by simp; omega)⟩ (join0_right (ofs_right ts)) rfl (by omega) rfl (fun V => refof_calls _ _ _ _ _ V hx.1 hx.2.1 hx.2.2.1 hx.2.2.2.1 hx.2.2.2.2) (fun V h => Ol.all_calls A _ c ts V (ha.below h) (fun x h => tinyIn (k0.2 x h)) (by omega))
  · exact own_far A _ c _ _ _ _ _ W hT (by omega) ha.2.1
end Go.Proofs.YtkmdmjlepmmejaaGreatDoor
/- The row and the card of the law OplogOwn, out of its walk. -/
namespace Go.Proofs.YtkmdmjlepmmejaaGreatDoor.oplogOwn
open Go.ChangeShapes Go.WideShapes Go.ChangeAt Go.RowKit Go.Lib
open Go.ChangeMaps (open_string shut_string)
open Go.Proofs.YtkmdmjlepmmejaaGreatDoorW.Open Go.Proofs.YtkmdmjlepmmejaaGreatDoorW.PrintWords
theorem own : ownKnob Tryz.prog.godebug = none := by kernel_rfl
theorem laidOut : laidOutB Tryz.prog = true := by kernel_rfl
theorem op0 : Opens Tryz.prog 53 (Kd.slice 58 tinyKd) (fun xs => xs.length ≤ maxLen ∧ ∀ x ∈ xs, tinyOk x) := Opens.slice Tryz.underlying53 (by kernel_rfl) tinyOpens
theorem witness_row (os : Os) {H : Type} (enc : TypeId × Value → H) :
    (OpenSpec.ofChange Rows.oplogOwnSpec).preRow enc Tryz.prog Tryz.f5 Rows.oplogOwnRow.domain false Rows.oplogOwnRow.laid ((laidWorld os).forCall (fun _ _ => 0) ⟨#[], #[.slice none 0 0, .agg #[.int .u8 0, .int .u8 0, .int .u8 0, .int .u8 0, .int .u8 0]], []⟩).memory #[.slice none 0 0, .agg #[.int .u8 0, .int .u8 0, .int .u8 0, .int .u8 0, .int .u8 0]] := by
  have hw : (DataW.whole enc Tryz.prog ((laidWorld os).forCall (fun _ _ => 0) ⟨#[], #[.slice none 0 0, .agg #[.int .u8 0, .int .u8 0, .int .u8 0, .int .u8 0, .int .u8 0]], []⟩).memory Tryz.f5.params.toList (OpenSpec.ofChange Rows.oplogOwnSpec).vars false (#[.slice none 0 0, .agg #[.int .u8 0, .int .u8 0, .int .u8 0, .int .u8 0, .int .u8 0]] : Array Value).toList 8).map (fun x => (x.1, x.2.1)) =
      some ([.nil, .agg [.lit (.int .u8 0), .lit (.int .u8 0), .lit (.int .u8 0), .lit (.int .u8 0), .lit (.int .u8 0)]], []) := by kernel_rfl
  obtain ⟨⟨x1, x2, x3⟩, hx, hx1⟩ := Option.map_eq_some_iff.1 hw
  simp only [Prod.mk.injEq] at hx1
  obtain ⟨rfl, rfl⟩ := hx1
  exact OpenSpec.preRow_of_cond 8 hx (by kernel_rfl) (fun k hk => by cases hk) (by kernel_rfl) (laid_met os _)
set_option maxRecDepth 100000 in
set_option maxHeartbeats 2000000 in
theorem lifted (os : Os) (started : os.Started) (H : Type) (enc : TypeId × Value → H) (F : Stop.Interp) :
    ReturnsInHanded {} Tryz.checked os 5 .any ((OpenSpec.ofChange Rows.oplogOwnSpec).preRow enc Tryz.prog Tryz.f5 Rows.oplogOwnRow.domain false Rows.oplogOwnRow.laid) (((OpenSpec.ofChange Rows.oplogOwnSpec).at F).post enc Tryz.prog Tryz.f5 false true false false) := by
  refine returnsInHanded_of_row (C := Tryz.checked) (s := OpenSpec.ofChange Rows.oplogOwnSpec) own started (by kernel_rfl) Tryz.func5
    (witness_row_atRef (enc := enc) (C := Tryz.checked) false (laidWorld os) #[.slice none 0 0, .agg #[.int .u8 0, .int .u8 0, .int .u8 0, .int .u8 0, .int .u8 0]] rfl (by kernel_rfl) (by kernel_rfl) (by kernel_rfl) (witness_row os enc)) ?_
  intro W base args ds gs before hval0 hW _ _ _ hL _ _
  have hval : ∀ (j : Nat) t v, Tryz.f5.params[j]? = some t → args[j]? = some v → Value.okWide Tryz.prog W .any base t v := hval0
  have hW' := hW
  obtain ⟨p, q, hA0, hV, rfl, hfz, hnd⟩ := hW
  have hA : DataW.TrodAll enc Tryz.prog W 0 (fun _ => true) true Tryz.f5.params.toList args.toList ds p := hA0
  rw [Tryz.params5] at hA hval
  obtain ⟨v0, vs0, d0, ds0, p0, q0, hargs, rfl, rfl, h0, r0⟩ := trodAll_cons hA
  obtain ⟨v1, vs1, d1, ds1, p1, q1, rfl, rfl, rfl, h1, r1⟩ := trodAll_cons r0
  obtain ⟨rfl, rfl, rfl⟩ := trodAll_nil r1
  obtain rfl : args = #[v0, v1] := by cases args; simp_all
  obtain ⟨rfl, rfl⟩ := trodVars_none hV
  have k0 := h0
  have lt0 : ∀ x ∈ p0, x.block < W.heap.size := by obtain ⟨m, hm⟩ := k0; exact DataW.trod_lt m _ _ _ hm
  obtain ⟨a0, len0, cap0, rfl⟩ := okWide_slice Tryz.underlying53 (hval 0 53 v0 rfl rfl)
  obtain ⟨l0, hK0, ok0⟩ := Opens.arg op0 h0
  obtain ⟨A0, c0, e0, hc0, hr0⟩ := hK0
  simp only [Value.cells, List.cons.injEq, Value.slice.injEq, and_true] at e0
  obtain ⟨rfl, rfl, rfl⟩ := e0
  have k1 := h1
  have lt1 : ∀ x ∈ p1, x.block < W.heap.size := by obtain ⟨m, hm⟩ := k1; exact DataW.trod_lt m _ _ _ hm
  obtain ⟨cs1, rfl, _⟩ := okWide_struct Tryz.underlying58 (hval 1 58 v1 rfl rfl)
  obtain ⟨l1, hK1, ok1⟩ := Opens.arg tinyOpens h1
  obtain rfl := tinyCs_of hK1
  clear hA0 hval0
  have htab : Tabs W := tabs_of (Lib.laidMet.reads hL (.tail _ (.head _))) (Lib.laidMet.reads hL (.head _))
  refine (oplogOwn_walk a0 cap0 l0 (id l1) W hr0 hc0 ok0 (tinyIn ok1) htab).mono fun e W' ⟨he, bel⟩ => ?_
  subst he
  exact ⟨_, rfl, _, _, _, [], _, [], hW', trodAll_mk1 (shut_bool Tryz.underlying4 _), (trodAll_cons_mk (Below.trod laidOut (by kernel_rfl) (of_decide_eq_true (by kernel_rfl)) k0 bel lt0) (trodAll_cons_mk (Below.trod laidOut (by kernel_rfl) (of_decide_eq_true (by kernel_rfl)) k1 bel lt1) trodAll_mk0)), rfl, bel.frame _, fun h => by cases h⟩
theorem row_holds : Rows.OplogOwnSaid :=
  OpenClaim.holds_of_cond 5 Tryz.f5 rfl rfl rfl rfl rfl rfl rfl ⟨rfl, rfl, rfl, rfl, rfl⟩ rfl rfl rfl rfl rfl (by kernel_rfl) Tryz.func5 (by kernel_rfl)
    (of_decide_eq_true (by kernel_rfl)) (by unfold Func.isWrapper; first | (rw [if_pos (by decide +kernel)]; kernel_rfl) | (rw [if_neg (by decide +kernel)]; exact ⟨rfl, rfl⟩))
    (fun os started H enc _ F0 => by rw [OpenClaim.pre_eq_preRow]; exact lifted os started H enc F0)
end Go.Proofs.YtkmdmjlepmmejaaGreatDoor.oplogOwn
namespace Go.Proofs.YtkmdmjlepmmejaaGreatDoor
open Go
theorem oplogOwn_holds : Rows.OplogOwnCardSaid :=
  Claim7.holds_tied_plain_at .later [] [.data, .pinned] true (true, "acf5eca2cb5093371479f917fe907b11aa1863b483ffc0a3005077727b692803") true
    oplogOwn.row_holds (fun _ h => by cases h) (by kernel_rfl) (fun _ h => by cases h) oplogOwn_row_tie rfl ⟨rfl, rfl⟩ (by kernel_rfl) rfl
    (fun f fn hf hfn => by
      obtain rfl : f = 5 := Option.some.inj ((show Tryz.prog.funcNamed "holt/holtlaw08.OplogOwn" = some 5 by kernel_rfl).symm.trans hf) |>.symm
      obtain rfl : fn = Tryz.f5 := (Option.some.inj (Tryz.func5.symm.trans hfn)).symm
      exact ⟨by kernel_rfl, fun j t ht => by
        have hm : t ∈ Tryz.f5.params.toList := List.mem_of_getElem? (by rw [Array.getElem?_toList]; exact ht)
        rw [Tryz.params5] at hm
        have hall : (Tryz.f5.params.toList.all fun t => !Tryz.prog.wantsStandIn t) = true := by kernel_rfl
        rw [Tryz.params5] at hall
        have := List.all_eq_true.1 hall t hm
        have h2 : Tryz.prog.wantsStandIn t = false := by simpa using this
        exact h2⟩)
    (by kernel_rfl)
#print axioms oplogOwn_holds
end Go.Proofs.YtkmdmjlepmmejaaGreatDoor
