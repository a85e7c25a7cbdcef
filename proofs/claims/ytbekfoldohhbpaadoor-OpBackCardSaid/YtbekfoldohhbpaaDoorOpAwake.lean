/-
  The chapter's example (operations).
-/
import Derived.Test.YtbekfoldohhbpaaDoorOpT
import Derived.Test.YtbekfoldohhbpaaDoorOpH
import Derived.Test.YtbekfoldohhbpaaDoorOpF
namespace Go.Proofs.YtbekfoldohhbpaaDoor
open Go.RowKit Go.Proofs.YtbekfoldohhbpaaDoorW.PrintWords

/-- An operation lies in block g. -/
def OpAt (g : Nat) (o : OpR) (w : World) : Prop :=
  w.cell? ⟨g, 0, none⟩ = some (.int .i64 o.n) ∧ w.cell? ⟨g, 1, none⟩ = some (.int .i64 o.r) ∧ w.cell? ⟨g, 2, none⟩ = some (.int .i64 o.node) ∧ w.cell? ⟨g, 3, none⟩ = some (.int .i64 o.par) ∧ w.cell? ⟨g, 4, none⟩ = some (.string o.name)
theorem OpAt.below {g : Nat} {o : OpR} {w w1 : World} (k : OpAt g o w) (hb : Below w.heap.size w w1) : OpAt g o w1 :=
  ⟨pw_cell_below hb k.1, pw_cell_below hb k.2.1, pw_cell_below hb k.2.2.1, pw_cell_below hb k.2.2.2.1, pw_cell_below hb k.2.2.2.2⟩
theorem OpAt.wide {g a : Nat} {o : OpR} {w w1 : World} (k : OpAt g o w) (hb : Wide a w w1) (hg : g ≠ a) : OpAt g o w1 := by
  have e : w1.heap[g]? = w.heap[g]? := hb.block g (World.block_lt_of_cell? w _ k.1) hg
  exact ⟨(World.cell?_of_block e).trans k.1, (World.cell?_of_block e).trans k.2.1, (World.cell?_of_block e).trans k.2.2.1, (World.cell?_of_block e).trans k.2.2.2.1, (World.cell?_of_block e).trans k.2.2.2.2⟩

def exOp : OpR := ⟨5, 7, 1287, 0, ⟨#[97]⟩⟩
def exB : List Int := [5, 7, 135, 10, 0, 1, 97]
theorem ex_right : opRight exOp = true := by decide +kernel
theorem ex_opForm : opForm exOp = exB := by rw [opForm, if_pos ex_right]; decide +kernel
theorem ex_str : strOfNums exB = ⟨#[5, 7, 135, 10, 0, 1, 97]⟩ := by decide +kernel
theorem ex_take : tkOp exB 0 = exOp := by
  have h1 : tk1 exB 0 = (5, [7, 135, 10, 0, 1, 97], 0) := by decide +kernel
  have h2 : tk2 exB 0 = (7, [135, 10, 0, 1, 97], 0) := by rw [tk2, h1]; decide +kernel
  have h3 : tk3 exB 0 = (1287, [0, 1, 97], 0) := by rw [tk3, h2]; decide +kernel
  have h4 : tk4 exB 0 = (0, [1, 97], 0) := by rw [tk4, h3]; decide +kernel
  have h5 : (tk5 exB 0).1 = ⟨#[97]⟩ := by
    rw [tk5, h4]
    have h : rdNum [1, 97] 0 20 = (1, [97], 0) := by decide +kernel
    unfold rdText
    rw [h]
    rfl
  rw [tkOp, h1, h2, h3, h4, h5]
  rfl
theorem ex_cmp : opCmp exOp zeroOp = 1 := by decide +kernel
theorem ex_node : nodeR 256 = true := by decide +kernel

set_option maxHeartbeats 2000000 in
theorem awake_calls (w : World) (hT : Tabs w) : Calls Tryd.prog 8 #[] w fun e w' => e = .returned (.bool true) ∧ Below w.heap.size w w' := by
  have HT := Lib.hid hT
  have HB := Lib.hid (Below.refl w.heap.size w)
  have hp := fun w (h : Tabs w) => put_calls exOp w (by decide) h
  rw [ex_opForm] at hp
  have hr := fun w (h : Tabs w) => right_calls exOp w (by decide) h
  rw [ex_right] at hr
  have hn := node_calls 256
  rw [ex_node] at hn
  have HN := Lib.hid hn
  have hc := opcmp_calls exOp zeroOp
  rw [ex_cmp] at hc
  have ht := fun (v : World) (a d : Nat) h hd hw ha => take_calls w v a d exB 0 h (by decide) hd hT hw ha
  rw [ex_take, ex_right, if_pos rfl] at ht
  simp only [opV, exOp, zeroOp] at hp hr hc ht
  have HTK := Lib.hid ht
  have HP1 := Lib.hid hp
  have HP2 := Lib.hid hp
  have HR := Lib.hid hr
  have HC := Lib.hid hc
  clear hp hr hn hc ht hT
  go_enter Tryd.func8, Tryd.ntmps8
  go_wp2_with (first
    | (go_at_call 17; (refine (HP1.out _ (HT.out.below (by repeat (first | (with_reducible exact HB.out) | apply below_alloc | apply pw_below_drewN | apply below_drew1 | exact HB.out)))).mono ?_); rintro e w1 ⟨v1, rfl, ho, hb⟩; clear HP1; have K1 := Lib.hid (OpAt.below (g := w.heap.size) (o := exOp) ⟨(show World.cell? _ _ = some (.int .i64 5) by go_cell), (show World.cell? _ _ = some (.int .i64 7) by go_cell), (show World.cell? _ _ = some (.int .i64 1287) by go_cell), (show World.cell? _ _ = some (.int .i64 0) by go_cell), (show World.cell? _ _ = some (.string ⟨#[97]⟩) by go_cell)⟩ hb); have HLT := Lib.hid (show w.heap.size < w1.heap.size from World.block_lt_of_cell? w1 _ K1.out.1); obtain ⟨A1, f1, rfl, hr⟩ := own_reads ho; have HR1 := Lib.hid hr; clear ho hr; have HBn := Lib.hid (below_step (by repeat (first | (with_reducible exact HB.out) | apply below_alloc | apply pw_below_drewN | apply below_drew1 | exact HB.out)) hb); clear hb HB; have HB := HBn; clear HBn)
    | (go_at_call 20; (refine (new_calls _ A1 _ f1 exB HR1.out (by decide) (by decide)).mono ?_); rintro e w2 ⟨a, d, rfl, hd, hb, ha, hda, hdl⟩; have K2 := Lib.hid (K1.out.below hb); have HD := Lib.hid hd; have HA := Lib.hid ha; have HDL := Lib.hid hdl; clear hd ha hda hdl K1; have HBn := Lib.hid (below_step (by repeat (first | (with_reducible exact HB.out) | apply below_alloc | apply pw_below_drewN | apply below_drew1 | exact HB.out)) hb); clear hb HB; have HB := HBn; clear HBn)
    | (go_at_call 21; (refine (HTK.out _ a d HD.out HDL.out (by repeat (first | (with_reducible exact HB.out) | apply below_alloc | apply pw_below_drewN | apply below_drew1 | exact HB.out)) (by have := HLT.out; have := HA.out; omega)).mono ?_); rintro e w3 ⟨rfl, hd, hw⟩; have K3 := Lib.hid (K2.out.wide hw (by have := HLT.out; have := HA.out; omega)); have HBn := Lib.hid (hw.below HB.out (by have := HLT.out; have := HA.out; omega) HB.out.size); clear hd hw HB; have HB := HBn; clear HBn; have c0 : w3.cell? ⟨w.heap.size, 0, none⟩ = some (.int .i64 5) := K3.out.1; have c1 : w3.cell? ⟨w.heap.size, 1, none⟩ = some (.int .i64 7) := K3.out.2.1; have c2 : w3.cell? ⟨w.heap.size, 2, none⟩ = some (.int .i64 1287) := K3.out.2.2.1; have c3 : w3.cell? ⟨w.heap.size, 3, none⟩ = some (.int .i64 0) := K3.out.2.2.2.1; have c4 : w3.cell? ⟨w.heap.size, 4, none⟩ = some (.string ⟨#[97]⟩) := K3.out.2.2.2.2; have hlt3 : w.heap.size < w3.heap.size := World.block_lt_of_cell? w3 _ c0)
    | (go_at_call 17; (refine (HP2.out _ (HT.out.below (by repeat (first | (with_reducible exact HB.out) | apply below_alloc | apply pw_below_drewN | apply below_drew1 | exact HB.out)))).mono ?_); rintro e w4 ⟨v4, rfl, ho, hb⟩; clear HP2; have K4 := Lib.hid (OpAt.below (g := w.heap.size) (o := exOp) ⟨(show World.cell? _ _ = some (.int .i64 5) by go_cell), (show World.cell? _ _ = some (.int .i64 7) by go_cell), (show World.cell? _ _ = some (.int .i64 1287) by go_cell), (show World.cell? _ _ = some (.int .i64 0) by go_cell), (show World.cell? _ _ = some (.string ⟨#[97]⟩) by go_cell)⟩ hb); have K5 := Lib.hid (OpAt.below (g := w3.heap.size) (o := exOp) ⟨(show World.cell? _ _ = some (.int .i64 5) by go_cell), (show World.cell? _ _ = some (.int .i64 7) by go_cell), (show World.cell? _ _ = some (.int .i64 1287) by go_cell), (show World.cell? _ _ = some (.int .i64 0) by go_cell), (show World.cell? _ _ = some (.string ⟨#[97]⟩) by go_cell)⟩ hb); have hs4 := own_string (P := Tryd.prog) (src := 33) (dst := 9) Tryd.underlying33 Tryd.underlying5 Tryd.underlying9 ho; rw [ex_str] at hs4; clear ho c0 c1 c2 c3 c4; have HBn := Lib.hid (below_step (by repeat (first | (with_reducible exact HB.out) | apply below_alloc | apply pw_below_drewN | apply below_drew1 | exact HB.out)) hb); clear hb HB; have HB := HBn; clear HBn; have c0 : w4.cell? ⟨w.heap.size, 0, none⟩ = some (.int .i64 5) := K4.out.1; have c1 : w4.cell? ⟨w.heap.size, 1, none⟩ = some (.int .i64 7) := K4.out.2.1; have c2 : w4.cell? ⟨w.heap.size, 2, none⟩ = some (.int .i64 1287) := K4.out.2.2.1; have c3 : w4.cell? ⟨w.heap.size, 3, none⟩ = some (.int .i64 0) := K4.out.2.2.2.1; have c4 : w4.cell? ⟨w.heap.size, 4, none⟩ = some (.string ⟨#[97]⟩) := K4.out.2.2.2.2; have d0 : w4.cell? ⟨w3.heap.size, 0, none⟩ = some (.int .i64 5) := K5.out.1; have d1 : w4.cell? ⟨w3.heap.size, 1, none⟩ = some (.int .i64 7) := K5.out.2.1; have d2 : w4.cell? ⟨w3.heap.size, 2, none⟩ = some (.int .i64 1287) := K5.out.2.2.1; have d3 : w4.cell? ⟨w3.heap.size, 3, none⟩ = some (.int .i64 0) := K5.out.2.2.2.1; have d4 : w4.cell? ⟨w3.heap.size, 4, none⟩ = some (.string ⟨#[97]⟩) := K5.out.2.2.2.2)
    | (go_at_call 12; (refine (HR.out _ (HT.out.below (by repeat (first | (with_reducible exact HB.out) | apply below_alloc | apply pw_below_drewN | apply below_drew1 | exact HB.out)))).mono ?_); rintro e w5 ⟨rfl, hb⟩; have K6 := Lib.hid (K4.out.below hb); clear c0 c1 c2 c3 c4; have HBn := Lib.hid (below_step (by repeat (first | (with_reducible exact HB.out) | apply below_alloc | apply pw_below_drewN | apply below_drew1 | exact HB.out)) hb); clear hb HB; have HB := HBn; clear HBn; have c0 : w5.cell? ⟨w.heap.size, 0, none⟩ = some (.int .i64 5) := K6.out.1; have c1 : w5.cell? ⟨w.heap.size, 1, none⟩ = some (.int .i64 7) := K6.out.2.1; have c2 : w5.cell? ⟨w.heap.size, 2, none⟩ = some (.int .i64 1287) := K6.out.2.2.1; have c3 : w5.cell? ⟨w.heap.size, 3, none⟩ = some (.int .i64 0) := K6.out.2.2.2.1; have c4 : w5.cell? ⟨w.heap.size, 4, none⟩ = some (.string ⟨#[97]⟩) := K6.out.2.2.2.2)
    | (go_at_call 10; (refine (HN.out _).mono ?_); rintro e w6 ⟨rfl, m6, rfl⟩)
    | (go_at_call 14; (refine (HC.out _).mono ?_); rintro e w7 ⟨rfl, hb⟩; have HBn := Lib.hid (below_step (by repeat (first | (with_reducible exact HB.out) | apply below_alloc | apply pw_below_drewN | apply below_drew1 | exact HB.out)) hb); clear hb HB; have HB := HBn; clear HBn)
    | (fail "no arm"))
  go_ret
  exact ⟨rfl, HB.out⟩
end Go.Proofs.YtbekfoldohhbpaaDoor
