/-
  The row and the card of the law OplogChanges, out of its walk.
-/
import Derived.Test.YtkmdmjlepmmejaaDoorB9
import Derived.Deep.Cut
import Derived.Deep.RegionHeld3
import Derived.Deep.QuietTactic
import Derived.Test.YtkmdmjlepmmejaaDoorRows
import Derived.Test.YtkmdmjlepmmejaaDoorCards
import Derived.Test.YtkmdmjlepmmejaaDoorTie
import Derived.WalkKit
import Derived.ProofKit
import Derived.OpenShut
import Derived.ShutString
import Derived.ChangeOld
import Derived.Below
import Derived.SizedLaws
import Derived.SevenTiedAt
import Derived.Deep.DeepHandedRow
import Derived.Deep.DeepWitnessRowRef
/- The walk of the law OplogChanges. -/
namespace Go.Proofs.YtkmdmjlepmmejaaDoor.Ol
open Go.RowKit Go.Sort Go.Proofs.YtkmdmjlepmmejaaDoorW.PrintWords Tr
attribute [local go_sem] Oper.semAt_some
attribute [local go_sem high] eqSpot

/-- A list of changes lies behind A. -/
def ChgsAt (w : World) (A : Option Addr) (n : Nat) (cs : List ChgR) : Prop :=
  cs.length = n ∧ (0 < n → ∃ b o, A = some ⟨b, o, none⟩ ∧ ∀ (i : Nat) (hi : i < cs.length) (j : Nat) (u : Value), (chgC cs[i])[j]? = some u → w.cell? ⟨b, o + i * 7 + j, none⟩ = some u)
theorem ChgsAt.below {w w1 : World} {A : Option Addr} {n : Nat} {cs : List ChgR} (h : ChgsAt w A n cs) (hb : Below w.heap.size w w1) : ChgsAt w1 A n cs :=
  ⟨h.1, fun hn => by
    obtain ⟨b, o, e, hc⟩ := h.2 hn
    exact ⟨b, o, e, fun i hi j u hu => pw_cell_below hb (hc i hi j u hu)⟩⟩
theorem chgs_of_own {w : World} {B n c : Nat} {A : Option Addr} {cs : List ChgR} (h : OwnRow (fun c xs => xs = chgC c) 38 7 w B (.slice A n c) cs) : ChgsAt w A n cs := by
  obtain ⟨A', c', e, _, hr⟩ := OwnRow.reads h
  cases e
  refine ⟨hr.1, fun hn => ?_⟩
  obtain ⟨ad, rfl, hc⟩ := hr.2.2 hn
  obtain ⟨c0, _, e0, h0⟩ := hc 0 cs[0] (List.getElem?_eq_getElem hn)
  have hz := h0 0 (.int .i64 cs[0].node) (by rw [e0]; rfl)
  have hs := spotO (show w.cell? ad = _ from hz)
  refine ⟨ad.block, ad.off, by rw [← hs], fun i hi j u hu => ?_⟩
  obtain ⟨c, _, e, hcell⟩ := hc i cs[i] (List.getElem?_eq_getElem hi)
  have := hcell j u (by rw [e]; exact hu)
  rw [hs, addO] at this
  rw [Nat.add_assoc]
  exact this
/-- A spot lies in block b. -/
def SpAt (W : World) (b : Nat) (s : Option Sp) : Prop := W.heap[b]? = some (.cells (osC s).toArray 35 (0, 0))
/-- What is known of the changes. -/
structure ChgK (L1 L2 : List OpR) (cs : List ChgR) : Prop where
  nodes : ∀ c ∈ cs, 256 ≤ c.node ∧ c.node ≤ 263
  asc : cs.Pairwise fun a b => a.node < b.node
  at_ : ∀ i (hi : i < cs.length), wantC (cs.take i) cs[i].node (lookT (treeO L1) cs[i].node) = cs[i].old
  ne : ∀ c ∈ cs, c.old ≠ c.new
  fin : ∀ n, wantC cs n (lookT (treeO L1) n) = lookT (treeO L2) n
  len : cs.length ≤ 32
theorem chg_k {ts us : List TinyT} (h1 : ts.length ≤ 24) (h2 : us.length ≤ 8) : ChgK (joinO [] (ts.map ofT)) (joinO (joinO [] (ts.map ofT)) (us.map ofT)) (chgsO (joinO [] (ts.map ofT)) (joinO (joinO [] (ts.map ofT)) (us.map ofT))) := by
  have hsub : ∀ o ∈ joinO [] (ts.map ofT), o ∈ joinO (joinO [] (ts.map ofT)) (us.map ofT) := fun o ho => mem_joinO.2 (.inl ho)
  have hnode : ∀ o ∈ joinO (joinO [] (ts.map ofT)) (us.map ofT), 256 ≤ o.node ∧ o.node ≤ 263 := fun o ho => by
    have : ∃ x : TinyT, ofT x = o := by
      rcases mem_joinO.1 ho with h | h
      · obtain ⟨x, _, e⟩ := List.mem_map.1 (mem_join0.1 h); exact ⟨x, e⟩
      · obtain ⟨x, _, e⟩ := List.mem_map.1 h; exact ⟨x, e⟩
    obtain ⟨x, rfl⟩ := this
    show 256 ≤ 256 + x.2.2.1 % 8 ∧ 256 + x.2.2.1 % 8 ≤ 263
    omega
  have hl1 := join0_length (ts.map ofT)
  have hl2 := newOf_length (joinO [] (ts.map ofT)) (us.map ofT)
  have hl3 := joinO_length (joinO [] (ts.map ofT)) (us.map ofT)
  rw [List.length_map] at hl1 hl2
  refine ⟨fun c hc => ?_, chgs_asc _ _ (nodesO_asc _), fun i hi => want_at hi, fun c hc => (mem_chgs hc).2.2.2, fun n => want_end hsub n, ?_⟩
  · obtain ⟨o, ho, e⟩ := mem_nodesO.1 (mem_chgs hc).1
    rw [← e]
    exact hnode o ho
  · have e1 : (chgsO (joinO [] (ts.map ofT)) (joinO (joinO [] (ts.map ofT)) (us.map ofT))).length ≤ (nodesO (joinO (joinO [] (ts.map ofT)) (us.map ofT))).length := by
      unfold chgsO chgsAt
      rw [List.length_map]
      exact List.length_filter_le _ _
    have e2 : (nodesO (joinO (joinO [] (ts.map ofT)) (us.map ofT))).length ≤ (joinO (joinO [] (ts.map ofT)) (us.map ofT)).length := by
      unfold nodesO
      refine Nat.le_trans (cpt_length_leG _ _) ?_
      rw [srt_length, List.length_map]
      exact Nat.le_refl _
    omega
theorem wantC_take {cs : List ChgR} {j : Nat} (hj : j < cs.length) (n : Int) (s : Option Sp) : wantC (cs.take (j + 1)) n s = if cs[j].node = n then cs[j].new else wantC (cs.take j) n s := by
  rw [List.take_succ_eq_append_getElem hj, wantC_snoc]
set_option maxRecDepth 100000 in
set_option maxHeartbeats 4000000 in
theorem chg_walk (A : Option Addr) (n c : Nat) (B : Option Addr) (m dd : Nat) (w : World) (X Y L1 L2 : List OpR) (cs : List ChgR) (cl : Nat) (hn : n ≤ 24) (hm : m ≤ 8) (hx : X.length ≤ 24) (hy : Y.length ≤ 8) (hsx : ∀ o ∈ X, o.name.size ≤ 9223372036854775807) (hsy : ∀ o ∈ Y, o.name.size ≤ 9223372036854775807) (hT : Tabs w) (hp1 : ∃ k c, putR 1000 [] X = ⟨k, c, 0, L1⟩) (hp2 : ∃ k, putR 1000 L1 Y = ⟨k, cs, 0, L2⟩) (ok1 : LogOk 1000 L1) (l1 : L1.length ≤ 24) (l2 : L2.length ≤ 32) (hcl : cs.length = cl) (hk : ChgK L1 L2 cs)
    (h1 : ∀ W : World, Below w.heap.size w W → Calls Tryd.prog 9 #[.slice A n c] W fun e w' => ∃ v, e = .returned v ∧ OwnO w' W.heap.size v X ∧ Below W.heap.size W w')
    (h2 : ∀ W : World, Below w.heap.size w W → Calls Tryd.prog 9 #[.slice B m dd] W fun e w' => ∃ v, e = .returned v ∧ OwnO w' W.heap.size v Y ∧ Below W.heap.size W w') :
    Calls Tryd.prog 3 #[.slice A n c, .slice B m dd] w fun e w' => e = .returned (.bool true) ∧ Below w.heap.size w w' := by
  obtain ⟨k1, c1, e1⟩ := hp1
  obtain ⟨k2, e2⟩ := hp2
  have p1 := put_c (w := w) e1 (log0 (by decide)) hsx hT (by simp; omega) (by decide)
  have p2 := fun (W : World) (F : Nat → Prop) (p : Nat) (A : Option Addr) (c : Nat) (H : LogAt W F p 1000 L1) (ho : OpsAt W A Y.length Y) (hB : Below w.heap.size w W) (hF : ∀ b, F b → w.heap.size ≤ b) => put_eq w W F p 1000 L1 Y A Y.length c k2 cs 0 L2 e2 H ok1 ho hsy hT hB hF (by omega) (by decide)
  rw [hcl] at p2
  have htr1 := fun (W : World) (F : Nat → Prop) (p : Nat) (H : LogAt W F p 1000 L1) => log_tree W F p 1000 L1 H (by omega)
  have htr2 := fun (W : World) (F : Nat → Prop) (p : Nat) (H : LogAt W F p 1000 L2) => log_tree W F p 1000 L2 H (by omega)
  have hsp := fun (L : List OpR) (W : World) (F : Nat → Prop) (t : Nat) (n : Int) (hn : Wf n) (H : TreeAt W F t L) => (show Calls Tryd.prog 11 #[.pointer (some ⟨t, 0, none⟩), .int .i64 n] W fun e w' => e = .returned (osV (lookT (treeO L) n)) ∧ Below W.heap.size W w' from by
    obtain ⟨mb, dv, hb, _, _, _, _⟩ := H
    exact spot_calls W t mb dv (treeO L) n hb hn)
  have hcl2 := hk.len
  rw [hcl] at hcl2
  generalize c1.length = nc1 at p1
  have HTR1 := Lib.hid htr1
  have HTR2 := Lib.hid htr2
  have HSP := Lib.hid hsp
  have HK := Lib.hid hk
  have HCL := Lib.hid hcl
  have HP1 := Lib.hid p1
  have HP2 := Lib.hid p2
  have H1 := Lib.hid h1
  have H2 := Lib.hid h2
  have HT := Lib.hid hT
  have HB := Lib.hid (Below.refl w.heap.size w)
  clear htr1 htr2 hsp hk hcl p1 p2 h1 h2 hT hsx hsy e1 e2 hx hy l1 l2 ok1
  go_enter Tryd.func3, Tryd.ntmps3
  go_upto_region 13 with (first
    | (go_at_call 6; (with_reducible refine Calls.mono (awake_calls _ HT.out) ?_); rintro e w1 ⟨rfl, hb⟩; have HBn := Lib.hid (below_step (by repeat (first | (with_reducible exact HB.out) | apply below_alloc | apply pw_below_drewN | apply below_drew1 | exact HB.out)) hb); clear hb HB; have HB := HBn; clear HBn) | (go_at_call 7; (with_reducible refine Calls.mono (log_new _ 1000 (by decide)) ?_); rintro e w2 ⟨p, F, rfl, hlog, hF, hb⟩; have HL := Lib.hid hlog; have HF := Lib.hid (fun b hb' => Nat.le_trans HB.out.size (hF b hb')); clear hlog hF; have HBn := Lib.hid (below_step (by repeat (first | (with_reducible exact HB.out) | apply below_alloc | apply pw_below_drewN | apply below_drew1 | exact HB.out)) hb); clear hb HB; have HB := HBn; clear HBn) | (go_at_call 9; (with_reducible refine Calls.mono (H1.out _ HB.out) ?_); rintro e w3 ⟨v3, rfl, ho, hb⟩; have HL3 := Lib.hid (HL.out.below hb); obtain ⟨A3, c3, rfl, _, hr3⟩ := OwnO.ops ho; have HR3 := Lib.hid hr3; clear HL ho hr3; have HBn := Lib.hid (below_step (by repeat (first | (with_reducible exact HB.out) | apply below_alloc | apply pw_below_drewN | apply below_drew1 | exact HB.out)) hb); clear hb HB; have HB := HBn; clear HBn) | (go_at_call 8; (with_reducible refine Calls.mono (HP1.out _ F p A3 c3 HL3.out HR3.out HB.out HF.out) ?_); rintro e w4 ⟨A4, c4, F4, rfl, hlog, hF0, hF, ht, hb⟩; have HL4 := Lib.hid hlog; have HF4 := Lib.hid hF; have HBn := Lib.hid hb; clear HL3 HF HR3 hlog hF0 hF ht hb HB; have HB := HBn; clear HBn) | (go_at_call 10; (with_reducible refine Calls.mono (HTR1.out _ F4 p HL4.out) ?_); rintro e w5 ⟨t, rfl, ht, hb⟩; have HT5 := Lib.hid (TreeAt.trim ht); have HDT := Lib.hid (show ∀ b, (w4.heap.size ≤ b ∧ b < w5.heap.size) → ¬ F4 b from fun b h k => by have := HL4.out.lt b k; omega); have HL5 := Lib.hid (HL4.out.below hb); clear HL4 ht; have HBn := Lib.hid (below_step (by repeat (first | (with_reducible exact HB.out) | apply below_alloc | apply pw_below_drewN | apply below_drew1 | exact HB.out)) hb); clear hb HB; have HB := HBn; clear HBn) | (go_at_call 9; (with_reducible refine Calls.mono (H2.out _ HB.out) ?_); rintro e w6 ⟨v6, rfl, ho, hb⟩; have HL6 := Lib.hid (HL5.out.below hb); have HT6 := Lib.hid (HT5.out.below hb); obtain ⟨A6, c6, rfl, _, hr6⟩ := OwnO.ops ho; have HR6 := Lib.hid hr6; clear HL5 HT5 ho hr6; have HBn := Lib.hid (below_step (by repeat (first | (with_reducible exact HB.out) | apply below_alloc | apply pw_below_drewN | apply below_drew1 | exact HB.out)) hb); clear hb HB; have HB := HBn; clear HBn) | (go_at_call 8; (with_reducible refine Calls.mono (HP2.out _ F4 p A6 c6 HL6.out HR6.out HB.out HF4.out) ?_); rintro e w7 ⟨A7, c7, B7, F7, rfl, hrow, hBs, hlog, hF0, hF, ht, hb⟩; have HL7 := Lib.hid hlog; have HT7 := Lib.hid (HT6.out.touch ht HDT.out); have HC7 := Lib.hid hrow; have HBn := Lib.hid hb; clear HL6 HF4 HR6 HT6 hlog hF0 hF ht hrow hBs hb HB; have HB := HBn; clear HBn) | (go_at_call 10; (with_reducible refine Calls.mono (HTR2.out _ F7 p HL7.out) ?_); rintro e w8 ⟨u, rfl, ht, hb⟩; have HU8 := Lib.hid ht; have HT8 := Lib.hid (HT7.out.below hb); have HC8 := Lib.hid (OwnRow.below HC7.out hb); clear HL7 HT7 HC7 ht; have HBn := Lib.hid (below_step (by repeat (first | (with_reducible exact HB.out) | apply below_alloc | apply pw_below_drewN | apply below_drew1 | exact HB.out)) hb); clear hb HB; have HB := HBn; clear HBn)
    | (fail "no arm"))
  have HCS := Lib.hid (chgs_of_own HC8.out)
  have HBW := HB
  clear HB HC8
  go_wp2
  go_loopw [15] (fun vn V => ∃ k : Nat, vn = .int .i64 (256 + k) ∧ k ≤ 8 ∧ Hid (Below w8.heap.size w8 V)) (fun vn _ => (264 - (RowKit.intOf vn).toNat))
  case atStart => exact ⟨0, rfl, by omega, Lib.hid (Below.refl _ _)⟩
  case round =>
    obtain ⟨k, rfl, hk8, HB⟩ := hrel
    by_cases hlt : k < 8
    · have hi1 : (256 : Int) + (k : Int) < 264 := by omega
      have hwn : Wf (256 + (k : Int)) := wf_of (by omega)
      obtain ⟨i0, t0, nm0, e0, f0⟩ := osV_cells (lookT (treeO L1) (256 + (k : Int)))
      have HS1 := Lib.hid (fun (V : World) (h : Below w8.heap.size w8 V) => HSP.out L1 V _ t _ hwn (HT8.out.below h))
      have HS2 := Lib.hid (fun (V : World) (h : Below w8.heap.size w8 V) => HSP.out L2 V _ u _ hwn (HU8.out.below h))
      rw [e0] at HS1
      go_wp2_with (first
        | (go_at_call 11; (with_reducible refine Calls.mono (HS1.out _ HB.out) ?_); rintro e w9 ⟨rfl, hb⟩; have HBn := Lib.hid (below_step (by repeat (first | (with_reducible exact HB.out) | apply below_alloc | apply pw_below_drewN | apply below_drew1 | exact HB.out)) hb); clear hb HB; have HB := HBn; clear HBn)
        | (fail "no arm"))
      have HS9 := Lib.hid (show Below w8.heap.size w8 w9 from HB.out)
      go_loopw [17] (fun vj V => ∃ j : Nat, vj = .int .i64 j ∧ j ≤ cl ∧ Hid (SpAt V w9.heap.size (wantC (cs.take j) (256 + (k : Int)) (lookT (treeO L1) (256 + (k : Int))))) ∧ Hid (Below w9.heap.size w9 V)) (fun vj _ => (cl - (RowKit.intOf vj).toNat))
      case atStart => exact ⟨0, rfl, by omega, Lib.hid (by unfold SpAt; rw [List.take_zero]; show _ = some (Obj.cells (osC (lookT (treeO L1) (256 + (k : Int)))).toArray 35 (0, 0)); rw [f0]; exact blk_new _ _), Lib.hid (below_alloc (Below.refl _ _) _)⟩
      case round =>
        obtain ⟨j, rfl, hj, HSP, HBV⟩ := hrel
        have HV8 := Lib.hid (below_step HS9.out HBV.out)
        by_cases hjl : j < cl
        · have hj2 : j < cs.length := by rw [HCL.out]; exact hjl
          have HCJ := (HCS.out.below HV8.out).2 (by omega)
          obtain ⟨b, o, rfl, hcell⟩ := HCJ
          have hcell := hcell j hj2
          obtain ⟨i1, t1, n1, e1, f1⟩ := osV_cells cs[j].old
          obtain ⟨i2, t2, n2, e2, f2⟩ := osV_cells cs[j].new
          have hch : chgC cs[j] = [.int .i64 cs[j].node, .bool i1, .int .i64 t1, .string n1, .bool i2, .int .i64 t2, .string n2] := by simp [chgC, f1, f2]
          rw [hch] at hcell
          have m0 := hcell 0 _ rfl
          have m1 := hcell 1 _ rfl
          have m2 := hcell 2 _ rfl
          have m3 := hcell 3 _ rfl
          have m4 := hcell 4 _ rfl
          have m5 := hcell 5 _ rfl
          have m6 := hcell 6 _ rfl
          rw [Nat.add_zero] at m0
          have hne := HK.out.ne _ (List.getElem_mem hj2)
          have hat := HK.out.at_ j hj2
          have htk := wantC_take hj2 (256 + (k : Int)) (lookT (treeO L1) (256 + (k : Int)))
          have heq := eqSpot_iff f1 f2
          rw [decide_eq_false hne] at heq
          have hj0 : (0 : Int) ≤ (j : Int) := by omega
          have hj1 : (j : Int) < (cl : Int) := by omega
          have hlt9 : w9.heap.size < wr.heap.size := blk_lt HSP.out
          generalize hnd : cs[j].node = nd at *
          generalize cs[j].old = od at *
          generalize cs[j].new = nw at *
          by_cases hn : nd = 256 + (k : Int)
          · subst hn
            rw [if_pos rfl] at htk
            have hsp : wr.heap[w9.heap.size]? = some (.cells #[.bool i1, .int .i64 t1, .string n1] 35 (0, 0)) := by
              have := HSP.out
              unfold SpAt at this
              rw [hat, f1] at this
              exact this
            have s0 := blk_cell hsp 0
            have s1 := blk_cell hsp 1
            have s2 := blk_cell hsp 2
            simp at s0 s1 s2
            have HSN := Lib.hid (show ∀ q, SpAt ((((wr.drewN q).setCell ⟨w9.heap.size, 0, none⟩ (.bool i2)).setCell ⟨w9.heap.size, 1, none⟩ (.int .i64 t2)).setCell ⟨w9.heap.size, 2, none⟩ (.string n2)) w9.heap.size (wantC (cs.take (j + 1)) (256 + (k : Int)) (lookT (treeO L1) (256 + (k : Int)))) from fun q => by unfold SpAt; rw [htk, f2]; exact at_set3 (W := wr.drewN q) hsp)
            have HBN := Lib.hid (fun q => bel3 (x := .bool i2) (y := .int .i64 t2) (z := .string n2) (pw_below_drewN HBV.out q) (Nat.le_refl w9.heap.size))
            have z0 := blk_frozen hsp 0
            have z1 := blk_frozen hsp 1
            have z2 := blk_frozen hsp 2
            clear hsp hcell hch f1 f2 e1 e2 hne hat htk
            go_wp2
            go_quiet (fail)
            go_wp2
            go_roundw
            case rel => exact ⟨j + 1, by go_num, by omega, Lib.hid (HSN.out _), Lib.hid (HBN.out _)⟩
            case measure => simp [RowKit.intOf] <;> omega
          · rw [if_neg hn] at htk
            have HSN := Lib.hid (show SpAt wr w9.heap.size (wantC (cs.take (j + 1)) (256 + (k : Int)) (lookT (treeO L1) (256 + (k : Int)))) from by rw [htk]; exact HSP.out)
            clear hcell hch f1 f2 e1 e2 hne hat htk heq
            go_wp2
            go_roundw
            case rel => exact ⟨j + 1, by go_num, by omega, HSN, HBV⟩
            case measure => simp [RowKit.intOf] <;> omega
        · obtain rfl : j = cl := by omega
          obtain ⟨i3, t3, n3, e3, f3⟩ := osV_cells (lookT (treeO L2) (256 + (k : Int)))
          have hsp : wr.heap[w9.heap.size]? = some (.cells #[.bool i3, .int .i64 t3, .string n3] 35 (0, 0)) := by
            have := HSP.out
            unfold SpAt at this
            rw [List.take_of_length_le (by rw [HCL.out]; exact Nat.le_refl _), HK.out.fin, f3] at this
            exact this
          have s0 := blk_cell hsp 0
          have s1 := blk_cell hsp 1
          have s2 := blk_cell hsp 2
          simp at s0 s1 s2
          have S0 := Lib.hid s0
          have S1 := Lib.hid s1
          have S2 := Lib.hid s2
          rw [e3] at HS2
          clear hsp HSP s0 s1 s2 f3 e3 HS1
          have HB := Lib.hid (Below.refl wr.heap.size wr)
          go_wp2
          go_region_held3 (fun Z => Z.cell? ⟨w9.heap.size, 0, none⟩ = some (.bool i3) ∧ Z.cell? ⟨w9.heap.size, 1, none⟩ = some (.int .i64 t3) ∧ Z.cell? ⟨w9.heap.size, 2, none⟩ = some (.string n3)) (exact ⟨pw_cell_below (by repeat (first | (with_reducible exact HB.out) | apply below_alloc | apply pw_below_drewN | apply below_drew1 | exact HB.out)) S0.out, pw_cell_below (by repeat (first | (with_reducible exact HB.out) | apply below_alloc | apply pw_below_drewN | apply below_drew1 | exact HB.out)) S1.out, pw_cell_below (by repeat (first | (with_reducible exact HB.out) | apply below_alloc | apply pw_below_drewN | apply below_drew1 | exact HB.out)) S2.out⟩)
            (first
              | (go_at_call 11; ((with_reducible refine Calls.mono (HS2.out _ (below_step HV8.out (by repeat (first | (with_reducible exact HB.out) | apply below_alloc | apply pw_below_drewN | apply below_drew1 | exact HB.out)))) ?_); rintro e w10 ⟨rfl, hb⟩; have HBn := Lib.hid (below_step (by repeat (first | (with_reducible exact HB.out) | apply below_alloc | apply pw_below_drewN | apply below_drew1 | exact HB.out)) hb); clear hb HB; have HB := HBn; clear HBn))
              | (fail "no arm"))
          go_wp2
          go_roundw
          case rel => exact ⟨k + 1, by go_num, by omega, Lib.hid (below_step HV8.out HB.out)⟩
          case measure => simp [RowKit.intOf] <;> omega
    · obtain rfl : k = 8 := by omega
      go_wp2
      go_loopw [18] (fun vj V => ∃ j : Nat, vj = .int .i64 j ∧ j ≤ cl ∧ Hid (Below w8.heap.size w8 V)) (fun vj _ => (cl - (RowKit.intOf vj).toNat))
      case atStart => exact ⟨0, rfl, by omega, HB⟩
      case round =>
        clear HB
        obtain ⟨j, rfl, hj, HB⟩ := hrel
        by_cases hjl : j < cl
        · have hj2 : j < cs.length := by rw [HCL.out]; exact hjl
          obtain ⟨b, o, rfl, hcell⟩ := (HCS.out.below HB.out).2 (by omega)
          have m0 := hcell j hj2 0 _ rfl
          rw [Nat.add_zero] at m0
          obtain ⟨g1, g2⟩ := HK.out.nodes _ (List.getElem_mem hj2)
          have hj0 : (0 : Int) ≤ (j : Int) := by omega
          have hj1 : (j : Int) < (cl : Int) := by omega
          rcases Nat.eq_zero_or_pos j with h0 | h0
          · subst h0
            generalize cs[0].node = nd at *
            have q1 : decide (nd < 256) = false := decide_eq_false (by omega)
            have q2 : decide (263 < nd) = false := decide_eq_false (by omega)
            simp at m0
            clear hcell g1 g2
            go_wp2
            go_quiet (fail)
            go_wp2
            go_roundw
            case rel => exact ⟨1, by go_num, by omega, Lib.hid (pw_below_drewN HB.out _)⟩
            case measure => simp [RowKit.intOf] <;> omega
          · have m1 := hcell (j - 1) (by omega) 0 _ rfl
            rw [Nat.add_zero] at m1
            have hasc : cs[j - 1].node < cs[j].node := List.pairwise_iff_getElem.1 HK.out.asc (j - 1) j (by omega) hj2 (by omega)
            generalize cs[j].node = nd at *
            generalize cs[j - 1].node = ne at *
            have q1 : decide (nd < 256) = false := decide_eq_false (by omega)
            have q2 : decide (263 < nd) = false := decide_eq_false (by omega)
            have q3 : decide (nd ≤ ne) = false := decide_eq_false (by omega)
            have q4 : decide ((0 : Int) < (j : Int)) = true := decide_eq_true (by omega)
            have q5 : (0 : Int) ≤ (j : Int) - 1 := by omega
            have q6 : (j : Int) - 1 < (cl : Int) := by omega
            have q7 : ((j : Int) - 1).toNat = j - 1 := by omega
            clear hcell g1 g2 hasc
            go_wp2
            go_quiet (fail)
            go_wp2
            go_roundw
            case rel => exact ⟨j + 1, by go_num, by omega, Lib.hid (pw_below_drewN HB.out _)⟩
            case measure => simp [RowKit.intOf] <;> omega
        · obtain rfl : j = cl := by omega
          go_wp2
          go_ret
          exact ⟨rfl, below_step HBW.out HB.out⟩
set_option maxRecDepth 100000 in
theorem chg_far (A : Option Addr) (n c : Nat) (B : Option Addr) (m dd : Nat) (w : World) (hT : Tabs w) (h : 24 < n ∨ (n ≤ 24 ∧ 8 < m)) (hm1 : n ≤ 9223372036854775807) (hm2 : m ≤ 9223372036854775807) :
    Calls Tryd.prog 3 #[.slice A n c, .slice B m dd] w fun e w' => e = .returned (.bool true) ∧ Below w.heap.size w w' := by
  have HT := Lib.hid hT
  have HB := Lib.hid (Below.refl w.heap.size w)
  clear hT
  rcases h with h | ⟨h, h'⟩
  all_goals
    go_enter Tryd.func3, Tryd.ntmps3
    go_wp2_with (first
      | (go_at_call 6; (with_reducible refine Calls.mono (awake_calls _ HT.out) ?_); rintro e w1 ⟨rfl, hb⟩; have HBn := Lib.hid (below_step (by repeat (first | (with_reducible exact HB.out) | apply below_alloc | apply pw_below_drewN | apply below_drew1 | exact HB.out)) hb); clear hb HB; have HB := HBn; clear HBn)
      | (fail "no arm"))
    all_goals (go_ret; exact ⟨rfl, (by repeat (first | (with_reducible exact HB.out) | apply below_alloc | apply pw_below_drewN | apply below_drew1 | exact HB.out))⟩)
end Go.Proofs.YtkmdmjlepmmejaaDoor.Ol
namespace Go.Proofs.YtkmdmjlepmmejaaDoor
open Go.RowKit Go.Proofs.YtkmdmjlepmmejaaDoorW.PrintWords Ol Tr
theorem oplogChanges_walk (A : Option Addr) (c : Nat) (ts : List TinyT) (B : Option Addr) (d : Nat) (us : List TinyT) (W : World) (h0 : ReadsRow (tinyKd.K W) 5 W A ts.length ts) (_ : ts.length ≤ c) (k0 : ts.length ≤ maxLen ∧ ∀ x ∈ ts, tinyOk x) (h1 : ReadsRow (tinyKd.K W) 5 W B us.length us) (_ : us.length ≤ d) (k1 : us.length ≤ maxLen ∧ ∀ x ∈ us, tinyOk x) (hT : Tabs W) :
    Calls Tryd.prog 3 #[.slice A ts.length c, .slice B us.length d] W fun e w' => e = .returned (.bool true) ∧ Below W.heap.size W w' := by
  have ha := tinys_of_row h0
  have hb := tinys_of_row h1
  by_cases c1 : ts.length ≤ 24
  · by_cases c2 : us.length ≤ 8
    · have l0 := join0_length (ts.map ofT)
      have l1 : (joinO [] (ts.map ofT)).length = (newOf [] (ts.map ofT)).length := by rw [joinO_length]; simp
      have l2 := newOf_length (joinO [] (ts.map ofT)) (us.map ofT)
      have l3 := joinO_length (joinO [] (ts.map ofT)) (us.map ofT)
      rw [List.length_map] at l0 l2
      exact chg_walk A _ c B _ d W _ _ _ _ _ _ c1 c2 (by rw [List.length_map]; exact c1) (by rw [List.length_map]; exact c2) ofs_small ofs_small hT ⟨(newOf [] (ts.map ofT)).length, chgsO [] (joinO [] (ts.map ofT)), put_ok (ofs_right ts) (by simp; omega)⟩ ⟨(newOf (joinO [] (ts.map ofT)) (us.map ofT)).length, put_ok (ofs_right us) (by omega)⟩ ⟨joinO_asc asc_nil _, join0_right (ofs_right ts), by omega⟩ (by omega) (by omega) rfl (chg_k c1 c2) (fun V h => Ol.all_calls A _ c ts V (ha.below h) (fun x h => tinyIn (k0.2 x h)) (by omega)) (fun V h => Ol.all_calls B _ d us V (hb.below h) (fun x h => tinyIn (k1.2 x h)) (by omega))
    · exact chg_far A _ c B _ d W hT (.inr ⟨c1, by omega⟩) ha.2.1 hb.2.1
  · exact chg_far A _ c B _ d W hT (.inl (by omega)) ha.2.1 hb.2.1
end Go.Proofs.YtkmdmjlepmmejaaDoor
/- The row and the card of the law OplogChanges, out of its walk. -/
namespace Go.Proofs.YtkmdmjlepmmejaaDoor.oplogChanges
open Go.ChangeShapes Go.WideShapes Go.ChangeAt Go.RowKit Go.Lib
open Go.ChangeMaps (open_string shut_string)
open Go.Proofs.YtkmdmjlepmmejaaDoorW.Open Go.Proofs.YtkmdmjlepmmejaaDoorW.PrintWords
theorem own : ownKnob Tryd.prog.godebug = none := by kernel_rfl
theorem laidOut : laidOutB Tryd.prog = true := by kernel_rfl
theorem op0 : Opens Tryd.prog 22 (Kd.slice 41 tinyKd) (fun xs => xs.length ≤ maxLen ∧ ∀ x ∈ xs, tinyOk x) := Opens.slice Tryd.underlying22 (by kernel_rfl) tinyOpens
theorem op1 : Opens Tryd.prog 22 (Kd.slice 41 tinyKd) (fun xs => xs.length ≤ maxLen ∧ ∀ x ∈ xs, tinyOk x) := Opens.slice Tryd.underlying22 (by kernel_rfl) tinyOpens
theorem witness_row (os : Os) {H : Type} (enc : TypeId × Value → H) :
    (OpenSpec.ofChange Rows.oplogChangesSpec).preRow enc Tryd.prog Tryd.f3 Rows.oplogChangesRow.domain false Rows.oplogChangesRow.laid ((laidWorld os).forCall (fun _ _ => 0) ⟨#[], #[.slice none 0 0, .slice none 0 0], []⟩).memory #[.slice none 0 0, .slice none 0 0] := by
  have hw : (DataW.whole enc Tryd.prog ((laidWorld os).forCall (fun _ _ => 0) ⟨#[], #[.slice none 0 0, .slice none 0 0], []⟩).memory Tryd.f3.params.toList (OpenSpec.ofChange Rows.oplogChangesSpec).vars false (#[.slice none 0 0, .slice none 0 0] : Array Value).toList 8).map (fun x => (x.1, x.2.1)) =
      some ([.nil, .nil], []) := by kernel_rfl
  obtain ⟨⟨x1, x2, x3⟩, hx, hx1⟩ := Option.map_eq_some_iff.1 hw
  simp only [Prod.mk.injEq] at hx1
  obtain ⟨rfl, rfl⟩ := hx1
  exact OpenSpec.preRow_of_cond 8 hx (by kernel_rfl) (fun k hk => by cases hk) (by kernel_rfl) (laid_met os _)
set_option maxRecDepth 100000 in
set_option maxHeartbeats 2000000 in
theorem lifted (os : Os) (started : os.Started) (H : Type) (enc : TypeId × Value → H) (F : Stop.Interp) :
    ReturnsInHanded {} Tryd.checked os 3 .any ((OpenSpec.ofChange Rows.oplogChangesSpec).preRow enc Tryd.prog Tryd.f3 Rows.oplogChangesRow.domain false Rows.oplogChangesRow.laid) (((OpenSpec.ofChange Rows.oplogChangesSpec).at F).post enc Tryd.prog Tryd.f3 false true false false) := by
  refine returnsInHanded_of_row (C := Tryd.checked) (s := OpenSpec.ofChange Rows.oplogChangesSpec) own started (by kernel_rfl) Tryd.func3
    (witness_row_atRef (enc := enc) (C := Tryd.checked) false (laidWorld os) #[.slice none 0 0, .slice none 0 0] rfl (by kernel_rfl) (by kernel_rfl) (by kernel_rfl) (witness_row os enc)) ?_
  intro W base args ds gs before hval0 hW _ _ _ hL _ _
  have hval : ∀ (j : Nat) t v, Tryd.f3.params[j]? = some t → args[j]? = some v → Value.okWide Tryd.prog W .any base t v := hval0
  have hW' := hW
  obtain ⟨p, q, hA0, hV, rfl, hfz, hnd⟩ := hW
  have hA : DataW.TrodAll enc Tryd.prog W 0 (fun _ => true) true Tryd.f3.params.toList args.toList ds p := hA0
  rw [Tryd.params3] at hA hval
  obtain ⟨v0, vs0, d0, ds0, p0, q0, hargs, rfl, rfl, h0, r0⟩ := trodAll_cons hA
  obtain ⟨v1, vs1, d1, ds1, p1, q1, rfl, rfl, rfl, h1, r1⟩ := trodAll_cons r0
  obtain ⟨rfl, rfl, rfl⟩ := trodAll_nil r1
  obtain rfl : args = #[v0, v1] := by cases args; simp_all
  obtain ⟨rfl, rfl⟩ := trodVars_none hV
  have k0 := h0
  have lt0 : ∀ x ∈ p0, x.block < W.heap.size := by obtain ⟨m, hm⟩ := k0; exact DataW.trod_lt m _ _ _ hm
  obtain ⟨a0, len0, cap0, rfl⟩ := okWide_slice Tryd.underlying22 (hval 0 22 v0 rfl rfl)
  obtain ⟨l0, hK0, ok0⟩ := Opens.arg op0 h0
  obtain ⟨A0, c0, e0, hc0, hr0⟩ := hK0
  simp only [Value.cells, List.cons.injEq, Value.slice.injEq, and_true] at e0
  obtain ⟨rfl, rfl, rfl⟩ := e0
  have k1 := h1
  have lt1 : ∀ x ∈ p1, x.block < W.heap.size := by obtain ⟨m, hm⟩ := k1; exact DataW.trod_lt m _ _ _ hm
  obtain ⟨a1, len1, cap1, rfl⟩ := okWide_slice Tryd.underlying22 (hval 1 22 v1 rfl rfl)
  obtain ⟨l1, hK1, ok1⟩ := Opens.arg op1 h1
  obtain ⟨A1, c1, e1, hc1, hr1⟩ := hK1
  simp only [Value.cells, List.cons.injEq, Value.slice.injEq, and_true] at e1
  obtain ⟨rfl, rfl, rfl⟩ := e1
  clear hA0 hval0
  have htab : Tabs W := tabs_of (Lib.laidMet.reads hL (.tail _ (.head _))) (Lib.laidMet.reads hL (.head _))
  refine (oplogChanges_walk a0 cap0 l0 a1 cap1 l1 W hr0 hc0 ok0 hr1 hc1 ok1 htab).mono fun e W' ⟨he, bel⟩ => ?_
  subst he
  exact ⟨_, rfl, _, _, _, [], _, [], hW', trodAll_mk1 (shut_bool Tryd.underlying4 _), (trodAll_cons_mk (Below.trod laidOut (by kernel_rfl) (of_decide_eq_true (by kernel_rfl)) k0 bel lt0) (trodAll_cons_mk (Below.trod laidOut (by kernel_rfl) (of_decide_eq_true (by kernel_rfl)) k1 bel lt1) trodAll_mk0)), rfl, bel.frame _, fun h => by cases h⟩
theorem row_holds : Rows.OplogChangesSaid :=
  OpenClaim.holds_of_cond 3 Tryd.f3 rfl rfl rfl rfl rfl rfl rfl ⟨rfl, rfl, rfl, rfl, rfl⟩ rfl rfl rfl rfl rfl (by kernel_rfl) Tryd.func3 (by kernel_rfl)
    (of_decide_eq_true (by kernel_rfl)) (by unfold Func.isWrapper; first | (rw [if_pos (by decide +kernel)]; kernel_rfl) | (rw [if_neg (by decide +kernel)]; exact ⟨rfl, rfl⟩))
    (fun os started H enc _ F0 => by rw [OpenClaim.pre_eq_preRow]; exact lifted os started H enc F0)
end Go.Proofs.YtkmdmjlepmmejaaDoor.oplogChanges
namespace Go.Proofs.YtkmdmjlepmmejaaDoor
open Go
theorem oplogChanges_holds : Rows.OplogChangesCardSaid :=
  Claim7.holds_tied_plain_at .later [] [.data, .pinned] true (true, "a1c277f66ca3d222e2fb7b606a7a703fb5baa65460a47f727c3013a7a9a2f163") true
    oplogChanges.row_holds (fun _ h => by cases h) (by kernel_rfl) (fun _ h => by cases h) oplogChanges_row_tie rfl ⟨rfl, rfl⟩ (by kernel_rfl) rfl
    (fun f fn hf hfn => by
      obtain rfl : f = 3 := Option.some.inj ((show Tryd.prog.funcNamed "holt/holtlaw08.OplogChanges" = some 3 by kernel_rfl).symm.trans hf) |>.symm
      obtain rfl : fn = Tryd.f3 := (Option.some.inj (Tryd.func3.symm.trans hfn)).symm
      exact ⟨by kernel_rfl, fun j t ht => by
        have hm : t ∈ Tryd.f3.params.toList := List.mem_of_getElem? (by rw [Array.getElem?_toList]; exact ht)
        rw [Tryd.params3] at hm
        have hall : (Tryd.f3.params.toList.all fun t => !Tryd.prog.wantsStandIn t) = true := by kernel_rfl
        rw [Tryd.params3] at hall
        have := List.all_eq_true.1 hall t hm
        have h2 : Tryd.prog.wantsStandIn t = false := by simpa using this
        exact h2⟩)
    (by kernel_rfl)
#print axioms oplogChanges_holds
end Go.Proofs.YtkmdmjlepmmejaaDoor
