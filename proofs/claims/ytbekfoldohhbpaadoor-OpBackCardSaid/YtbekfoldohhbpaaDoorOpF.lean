/-
  How two operations stand: package op's Cmp.
-/
import Derived.Test.YtbekfoldohhbpaaDoorOpE
namespace Go.Proofs.YtbekfoldohhbpaaDoor
open Go.RowKit Go.Proofs.YtbekfoldohhbpaaDoorW.PrintWords

theorem byStamp_calls (a b : OpR) (w : World) : Calls Tryd.prog 28 #[opV a, opV b] w fun e w' => e = .returned (.int .i64 (cmpT a.n a.r b.n b.r)) ∧ Below w.heap.size w w' := by
  obtain ⟨n, r, node, par, name⟩ := a
  obtain ⟨n', r', node', par', name'⟩ := b
  have HC := Lib.hid (stampcmp_calls n r n' r')
  simp only [opV]
  generalize cmpT n r n' r' = R at *
  have HB := Lib.hid (Below.refl w.heap.size w)
  go_enter Tryd.func28, Tryd.ntmps28
  go_wp2_with (go_at_call 44; refine (HC.out _).mono ?_; rintro e w1 ⟨rfl, hb⟩; have HBn := Lib.hid (below_step (by repeat (first | (with_reducible exact HB.out) | apply below_alloc | apply pw_below_drewN | apply below_drew1 | exact HB.out)) hb); clear hb HB; have HB := HBn; clear HBn)
  go_ret
  exact ⟨rfl, (by repeat (first | (with_reducible exact HB.out) | apply below_alloc | apply pw_below_drewN | apply below_drew1 | exact HB.out))⟩
theorem byNode_calls (a b : OpR) (w : World) : Calls Tryd.prog 29 #[opV a, opV b] w fun e w' => e = .returned (.int .i64 (cmpI a.node b.node)) ∧ Below w.heap.size w w' := by
  obtain ⟨n, r, node, par, name⟩ := a
  obtain ⟨n', r', node', par', name'⟩ := b
  have HC := Lib.hid (cmp_int_calls node node')
  simp only [opV]
  generalize cmpI node node' = R at *
  have HB := Lib.hid (Below.refl w.heap.size w)
  go_enter Tryd.func29, Tryd.ntmps29
  go_wp2_with (go_at_call 45; refine (HC.out _).mono ?_; rintro e w1 ⟨rfl, rfl⟩)
  go_ret
  exact ⟨rfl, (by repeat (first | (with_reducible exact HB.out) | apply below_alloc | apply pw_below_drewN | apply below_drew1 | exact HB.out))⟩
theorem byTo_calls (a b : OpR) (w : World) : Calls Tryd.prog 30 #[opV a, opV b] w fun e w' => e = .returned (.int .i64 (cmpI a.par b.par)) ∧ Below w.heap.size w w' := by
  obtain ⟨n, r, node, par, name⟩ := a
  obtain ⟨n', r', node', par', name'⟩ := b
  have HC := Lib.hid (cmp_int_calls par par')
  simp only [opV]
  generalize cmpI par par' = R at *
  have HB := Lib.hid (Below.refl w.heap.size w)
  go_enter Tryd.func30, Tryd.ntmps30
  go_wp2_with (go_at_call 45; refine (HC.out _).mono ?_; rintro e w1 ⟨rfl, rfl⟩)
  go_ret
  exact ⟨rfl, (by repeat (first | (with_reducible exact HB.out) | apply below_alloc | apply pw_below_drewN | apply below_drew1 | exact HB.out))⟩
theorem byName_calls (a b : OpR) (w : World) : Calls Tryd.prog 31 #[opV a, opV b] w fun e w' => e = .returned (.int .i64 (cmpS a.name b.name)) ∧ Below w.heap.size w w' := by
  obtain ⟨n, r, node, par, name⟩ := a
  obtain ⟨n', r', node', par', name'⟩ := b
  have HC := Lib.hid (cmp_str_calls name name')
  simp only [opV]
  generalize cmpS name name' = R at *
  have HB := Lib.hid (Below.refl w.heap.size w)
  go_enter Tryd.func31, Tryd.ntmps31
  go_wp2_with (go_at_call 46; refine (HC.out _).mono ?_; rintro e w1 ⟨rfl, rfl⟩)
  go_ret
  exact ⟨rfl, (by repeat (first | (with_reducible exact HB.out) | apply below_alloc | apply pw_below_drewN | apply below_drew1 | exact HB.out))⟩

/-- The cells that Cmp reads at each round. -/
def CmpHeld (h : Nat) (a b : OpR) (w : World) : Prop :=
  (w.cell? ⟨h, 0, none⟩ = some (.int .i64 a.n) ∧ w.cell? ⟨h, 1, none⟩ = some (.int .i64 a.r) ∧ w.cell? ⟨h, 2, none⟩ = some (.int .i64 a.node) ∧ w.cell? ⟨h, 3, none⟩ = some (.int .i64 a.par) ∧ w.cell? ⟨h, 4, none⟩ = some (.string a.name)) ∧
  (w.cell? ⟨h + 1, 0, none⟩ = some (.int .i64 b.n) ∧ w.cell? ⟨h + 1, 1, none⟩ = some (.int .i64 b.r) ∧ w.cell? ⟨h + 1, 2, none⟩ = some (.int .i64 b.node) ∧ w.cell? ⟨h + 1, 3, none⟩ = some (.int .i64 b.par) ∧ w.cell? ⟨h + 1, 4, none⟩ = some (.string b.name)) ∧
  (w.cell? ⟨h + 2, 1, none⟩ = some (.func (.func 29) #[] #[]) ∧ w.cell? ⟨h + 2, 2, none⟩ = some (.func (.func 30) #[] #[]) ∧ w.cell? ⟨h + 2, 3, none⟩ = some (.func (.func 31) #[] #[]))
theorem CmpHeld.below {h : Nat} {a b : OpR} {w w1 : World} (k : CmpHeld h a b w) (hb : Below w.heap.size w w1) : CmpHeld h a b w1 := by
  obtain ⟨⟨a0, a1, a2, a3, a4⟩, ⟨b0, b1, b2, b3, b4⟩, c1, c2, c3⟩ := k
  exact ⟨⟨pw_cell_below hb a0, pw_cell_below hb a1, pw_cell_below hb a2, pw_cell_below hb a3, pw_cell_below hb a4⟩, ⟨pw_cell_below hb b0, pw_cell_below hb b1, pw_cell_below hb b2, pw_cell_below hb b3, pw_cell_below hb b4⟩, pw_cell_below hb c1, pw_cell_below hb c2, pw_cell_below hb c3⟩

set_option maxHeartbeats 2000000 in
theorem opcmp_calls (a b : OpR) (w : World) : Calls Tryd.prog 14 #[opV a, opV b] w fun e w' => e = .returned (.int .i64 (opCmp a b)) ∧ Below w.heap.size w w' := by
  have HC1 := Lib.hid (byStamp_calls a b)
  have HC2 := Lib.hid (byNode_calls a b)
  have HC3 := Lib.hid (byTo_calls a b)
  have HC4 := Lib.hid (byName_calls a b)
  have HE := Lib.hid (show opCmp a b = if cmpT a.n a.r b.n b.r = 0 then (if cmpI a.node b.node = 0 then (if cmpI a.par b.par = 0 then cmpS a.name b.name else cmpI a.par b.par) else cmpI a.node b.node) else cmpT a.n a.r b.n b.r from rfl)
  generalize opCmp a b = R at *
  generalize cmpT a.n a.r b.n b.r = X1 at *
  generalize cmpI a.node b.node = X2 at *
  generalize cmpI a.par b.par = X3 at *
  generalize cmpS a.name b.name = X4 at *
  obtain ⟨n, r, node, par, name⟩ := a
  obtain ⟨n', r', node', par', name'⟩ := b
  simp only [opV] at *
  have HB := Lib.hid (Below.refl w.heap.size w)
  go_enter Tryd.func14, Tryd.ntmps14
  go_wp2
  refine wp_loop_rounds 5 ?_
  repeat any_goals (rw [rounds_succ]; go_wp2_with (first
    | (go_at_call 28; refine (HC1.out _).mono ?_; rintro e v1 ⟨rfl, hb⟩; have K1 := CmpHeld.below (h := w.heap.size) (a := ⟨n, r, node, par, name⟩) (b := ⟨n', r', node', par', name'⟩) ⟨⟨by go_cell, by go_cell, by go_cell, by go_cell, by go_cell⟩, ⟨by go_cell, by go_cell, by go_cell, by go_cell, by go_cell⟩, by go_cell, by go_cell, by go_cell⟩ hb; have HBn := Lib.hid (below_step (by repeat (first | (with_reducible exact HB.out) | apply below_alloc | apply pw_below_drewN | apply below_drew1 | exact HB.out)) hb); clear hb HB; have HB := HBn; clear HBn; obtain ⟨⟨a10, a11, a12, a13, a14⟩, ⟨b10, b11, b12, b13, b14⟩, c11, c12, c13⟩ := K1)
    | (go_at_call 29; refine (HC2.out _).mono ?_; rintro e v2 ⟨rfl, hb⟩; have K2 := CmpHeld.below (h := w.heap.size) (a := ⟨n, r, node, par, name⟩) (b := ⟨n', r', node', par', name'⟩) ⟨⟨by go_cell, by go_cell, by go_cell, by go_cell, by go_cell⟩, ⟨by go_cell, by go_cell, by go_cell, by go_cell, by go_cell⟩, by go_cell, by go_cell, by go_cell⟩ hb; have HBn := Lib.hid (below_step (by repeat (first | (with_reducible exact HB.out) | apply below_alloc | apply pw_below_drewN | apply below_drew1 | exact HB.out)) hb); clear hb HB; have HB := HBn; clear HBn; obtain ⟨⟨a20, a21, a22, a23, a24⟩, ⟨b20, b21, b22, b23, b24⟩, c21, c22, c23⟩ := K2)
    | (go_at_call 30; refine (HC3.out _).mono ?_; rintro e v3 ⟨rfl, hb⟩; have K3 := CmpHeld.below (h := w.heap.size) (a := ⟨n, r, node, par, name⟩) (b := ⟨n', r', node', par', name'⟩) ⟨⟨by go_cell, by go_cell, by go_cell, by go_cell, by go_cell⟩, ⟨by go_cell, by go_cell, by go_cell, by go_cell, by go_cell⟩, by go_cell, by go_cell, by go_cell⟩ hb; have HBn := Lib.hid (below_step (by repeat (first | (with_reducible exact HB.out) | apply below_alloc | apply pw_below_drewN | apply below_drew1 | exact HB.out)) hb); clear hb HB; have HB := HBn; clear HBn; obtain ⟨⟨a30, a31, a32, a33, a34⟩, ⟨b30, b31, b32, b33, b34⟩, c31, c32, c33⟩ := K3)
    | (go_at_call 31; refine (HC4.out _).mono ?_; rintro e v4 ⟨rfl, hb⟩; have HBn := Lib.hid (below_step (by repeat (first | (with_reducible exact HB.out) | apply below_alloc | apply pw_below_drewN | apply below_drew1 | exact HB.out)) hb); clear hb HB; have HB := HBn; clear HBn)))
  all_goals (go_ret; refine ⟨?_, (by repeat (first | (with_reducible exact HB.out) | apply below_alloc | apply pw_below_drewN | apply below_drew1 | exact HB.out))⟩; rw [HE.out]; clear HC1 HC2 HC3 HC4 HE; simp_all)
end Go.Proofs.YtbekfoldohhbpaaDoor
