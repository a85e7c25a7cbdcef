/-
  How two operations stand: the reference.
-/
import Derived.Test.YtbekfoldohhbpaaDoorOpF
namespace Go.Proofs.YtbekfoldohhbpaaDoor
open Go.RowKit Go.Proofs.YtbekfoldohhbpaaDoorW.PrintWords

set_option maxHeartbeats 2000000 in
theorem refstampcmp_calls (a b c d : Int) (w : World) : Calls Tryd.prog 32 #[.agg #[.int .i64 a, .int .i64 b], .agg #[.int .i64 c, .int .i64 d]] w fun e w' => e = .returned (.int .i64 (cmpT a b c d)) ∧ Below w.heap.size w w' := by
  have HE := Lib.hid (show cmpT a b c d = if (if a < c then -1 else if c < a then 1 else 0 : Int) = 0 then (if b < d then -1 else if d < b then 1 else 0 : Int) else (if a < c then -1 else if c < a then 1 else 0 : Int) from rfl)
  generalize cmpT a b c d = R at *
  have HB := Lib.hid (Below.refl w.heap.size w)
  by_cases h1 : a < c
  · go_enter Tryd.func32, Tryd.ntmps32
    go_wp2
    go_ret
    refine ⟨?_, (by repeat (first | (with_reducible exact HB.out) | apply below_alloc | apply pw_below_drewN | apply below_drew1 | exact HB.out))⟩
    rw [HE.out, if_pos h1]; rfl
  · by_cases h2 : c < a
    · have e1 : (a == c) = false := beq_eq_false_iff_ne.2 (by omega)
      go_enter Tryd.func32, Tryd.ntmps32
      go_wp2
      go_ret
      refine ⟨?_, (by repeat (first | (with_reducible exact HB.out) | apply below_alloc | apply pw_below_drewN | apply below_drew1 | exact HB.out))⟩
      rw [HE.out, if_neg (show ¬ a < c by omega), if_pos h2]; rfl
    · have e : a = c := by omega
      subst e
      by_cases h3 : b < d
      · go_enter Tryd.func32, Tryd.ntmps32
        go_wp2
        go_ret
        refine ⟨?_, (by repeat (first | (with_reducible exact HB.out) | apply below_alloc | apply pw_below_drewN | apply below_drew1 | exact HB.out))⟩
        rw [HE.out, if_neg (show ¬ a < a by omega), if_pos h3]; simp
      · by_cases h4 : d < b
        · go_enter Tryd.func32, Tryd.ntmps32
          go_wp2
          go_ret
          refine ⟨?_, (by repeat (first | (with_reducible exact HB.out) | apply below_alloc | apply pw_below_drewN | apply below_drew1 | exact HB.out))⟩
          rw [HE.out, if_neg (show ¬ a < a by omega), if_neg (show ¬ b < d by omega), if_pos h4]; simp
        · have e : b = d := by omega
          subst e
          go_enter Tryd.func32, Tryd.ntmps32
          go_wp2
          go_ret
          refine ⟨?_, (by repeat (first | (with_reducible exact HB.out) | apply below_alloc | apply pw_below_drewN | apply below_drew1 | exact HB.out))⟩
          rw [HE.out]; simp

set_option maxHeartbeats 2000000 in
theorem refcmp_calls (a b : OpR) (w : World) : Calls Tryd.prog 15 #[opV a, opV b] w fun e w' => e = .returned (.int .i64 (opCmp a b)) ∧ Below w.heap.size w w' := by
  have HC := Lib.hid (refstampcmp_calls a.n a.r b.n b.r)
  have HE := Lib.hid (show opCmp a b = if cmpT a.n a.r b.n b.r = 0 then (if (if a.node < b.node then -1 else if b.node < a.node then 1 else 0 : Int) = 0 then (if (if a.par < b.par then -1 else if b.par < a.par then 1 else 0 : Int) = 0 then (if Op.bytesLess a.name.toList b.name.toList = true then -1 else if (Op.bytesLess a.name.toList b.name.toList || a.name.toList == b.name.toList) = true then 0 else 1) else (if a.par < b.par then -1 else if b.par < a.par then 1 else 0 : Int)) else (if a.node < b.node then -1 else if b.node < a.node then 1 else 0 : Int)) else cmpT a.n a.r b.n b.r from rfl)
  generalize opCmp a b = R at *
  generalize cmpT a.n a.r b.n b.r = X1 at *
  obtain ⟨n, r, node, par, name⟩ := a
  obtain ⟨n', r', node', par', name'⟩ := b
  simp only [opV] at *
  have HB := Lib.hid (Below.refl w.heap.size w)
  go_enter Tryd.func15, Tryd.ntmps15
  go_wp2_with (go_at_call 32; refine (HC.out _).mono ?_; rintro e v1 ⟨rfl, hb⟩; have a2 : v1.cell? ⟨w.heap.size, 2, none⟩ = some (.int .i64 node) := pw_cell_below hb (by go_cell); have a3 : v1.cell? ⟨w.heap.size, 3, none⟩ = some (.int .i64 par) := pw_cell_below hb (by go_cell); have a4 : v1.cell? ⟨w.heap.size, 4, none⟩ = some (.string name) := pw_cell_below hb (by go_cell); have b2 : v1.cell? ⟨w.heap.size + 1, 2, none⟩ = some (.int .i64 node') := pw_cell_below hb (by go_cell); have b3 : v1.cell? ⟨w.heap.size + 1, 3, none⟩ = some (.int .i64 par') := pw_cell_below hb (by go_cell); have b4 : v1.cell? ⟨w.heap.size + 1, 4, none⟩ = some (.string name') := pw_cell_below hb (by go_cell); have HBn := Lib.hid (below_step (by repeat (first | (with_reducible exact HB.out) | apply below_alloc | apply pw_below_drewN | apply below_drew1 | exact HB.out)) hb); clear hb HB; have HB := HBn; clear HBn)
  go_ways
  all_goals (go_ret; refine ⟨?_, (by repeat (first | (with_reducible exact HB.out) | apply below_alloc | apply pw_below_drewN | apply below_drew1 | exact HB.out))⟩; rw [HE.out]; clear HC HE)
  all_goals (try simp_all)
  all_goals first
    | (have k1 : ¬ node < node' := by omega
       have k2 : node' < node := by omega
       simp [k1, k2]; done)
    | (have k1 : ¬ par < par' := by omega
       have k2 : par' < par := by omega
       simp [k1, k2]; done)
end Go.Proofs.YtbekfoldohhbpaaDoor
