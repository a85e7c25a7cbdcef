/-
  The walk of the law OpTells.
-/
import Derived.Test.YtbekfoldohhbpaaDoorOpShort
import Derived.Test.YtbekfoldohhbpaaDoorOpG
import Derived.Test.YtbekfoldohhbpaaDoorOpI
namespace Go.Proofs.YtbekfoldohhbpaaDoor
open Go.RowKit Go.Proofs.YtbekfoldohhbpaaDoorW.PrintWords

set_option maxHeartbeats 2000000 in
theorem opTells_walk (a b : OpR) (n : Int) (w : World) (ha : a.name.size ≤ 9223372036854775807) (hb0 : b.name.size ≤ 9223372036854775807) (_ : (Lit.int .i64 n).wf = true) (hT : Tabs w) :
    Calls Tryd.prog 3 #[opV a, opV b, .int .i64 n] w fun e w' => e = .returned (.bool true) ∧ Below w.heap.size w w' := by
  have HT := Lib.hid hT
  have HA := Lib.hid (awake_calls w hT)
  have hsh : ∀ (g : Nat) (w : World), w.cell? ⟨g, 4, none⟩ = some (.string a.name) → w.cell? ⟨g, 9, none⟩ = some (.string b.name) → Calls Tryd.prog 9 #[.slice (some ⟨g, 0, none⟩) 2 2] w (fun e w' => e = .returned (.bool (decide (a.name.size ≤ 60) && decide (b.name.size ≤ 60))) ∧ Below w.heap.size w w') :=
    fun g w h0 h1 => (short2_calls g a.name b.name w h0 h1).mono (by rintro e w' ⟨rfl, rfl⟩; exact ⟨rfl, Below.refl _ _⟩)
  have h1 := node_calls n
  have h2 := rnode_calls n
  have h3 := fun w (h : Tabs w) => right_calls a w ha h
  have h4 := fun w => refright_calls a w ha
  have h5 := opcmp_calls a b
  have h6 := refcmp_calls a b
  have h7 := fun w (h : Tabs w) => put_calls a w ha h
  have h8 := fun w => refput_calls a w ha
  generalize nodeR n = R1 at *
  generalize opRight a = R2 at *
  generalize opCmp a b = R3 at *
  generalize opForm a = F at *
  simp only [opV] at *
  by_cases hs : (decide (a.name.size ≤ 60) && decide (b.name.size ≤ 60)) = true
  all_goals (try rw [Bool.not_eq_true] at hs)
  all_goals
    rw [hs] at hsh
    have HS := Lib.hid hsh
    have H1 := Lib.hid h1
    have H2 := Lib.hid h2
    have H3 := Lib.hid h3
    have H4 := Lib.hid h4
    have H5 := Lib.hid h5
    have H6 := Lib.hid h6
    have H7 := Lib.hid h7
    have H8 := Lib.hid h8
    clear hs hsh h1 h2 h3 h4 h5 h6 h7 h8 ha hb0 hT
    have HB := Lib.hid (Below.refl w.heap.size w)
    go_enter Tryd.func3, Tryd.ntmps3
    go_wp2_with (first
      | (go_at_call 8; (refine Calls.mono (awake_calls _ (HT.out.below (by repeat (first | (with_reducible exact HB.out) | apply below_alloc | apply pw_below_drewN | apply below_drew1 | exact HB.out)))) ?_); rintro e w1 ⟨rfl, hb⟩; have K1 := Lib.hid (OpAt.below (g := w.heap.size) (o := a) ⟨by go_cell, by go_cell, by go_cell, by go_cell, by go_cell⟩ hb); have K2 := Lib.hid (OpAt.below (g := w.heap.size + 1) (o := b) ⟨by go_cell, by go_cell, by go_cell, by go_cell, by go_cell⟩ hb); have hlt := World.block_lt_of_cell? w1 _ K2.out.1; obtain ⟨c0, c1, c2, c3, c4⟩ := K1.out; obtain ⟨d0, d1, d2, d3, d4⟩ := K2.out; have HBn := Lib.hid (below_step (by repeat (first | (with_reducible exact HB.out) | apply below_alloc | apply pw_below_drewN | apply below_drew1 | exact HB.out)) hb); clear hb HB; have HB := HBn; clear HBn)
      | (go_at_call 9; (refine (HS.out _ _ (by go_cell) (by go_cell)).mono ?_); rintro e w2 ⟨rfl, hb⟩; clear c0 c1 c2 c3 c4 d0 d1 d2 d3 d4; have K3 := Lib.hid ((K1.out.below ((Below.refl _ _).alloc (Nat.le_refl _) _)).below hb); have K4 := Lib.hid ((K2.out.below ((Below.refl _ _).alloc (Nat.le_refl _) _)).below hb); clear K1 K2; have HBn := Lib.hid (below_step (by repeat (first | (with_reducible exact HB.out) | apply below_alloc | apply pw_below_drewN | apply below_drew1 | exact HB.out)) hb); clear hb HB; have HB := HBn; clear HBn)
      | (fail "no arm"))
  · have HLT := Lib.hid (show w.heap.size + 2 ≤ w2.heap.size from World.block_lt_of_cell? w2 _ K4.out.1)
    have HB0 := HB
    clear HB
    have HB := Lib.hid (Below.refl (w.heap.size + 2) w2)
    go_region_held3 (fun w' => w'.cell? ⟨w.heap.size, 0, none⟩ = some (.int .i64 a.n) ∧ w'.cell? ⟨w.heap.size, 1, none⟩ = some (.int .i64 a.r) ∧ w'.cell? ⟨w.heap.size, 2, none⟩ = some (.int .i64 a.node) ∧ w'.cell? ⟨w.heap.size, 3, none⟩ = some (.int .i64 a.par) ∧ w'.cell? ⟨w.heap.size, 4, none⟩ = some (.string a.name) ∧ w'.cell? ⟨w.heap.size + 1, 0, none⟩ = some (.int .i64 b.n) ∧ w'.cell? ⟨w.heap.size + 1, 1, none⟩ = some (.int .i64 b.r) ∧ w'.cell? ⟨w.heap.size + 1, 2, none⟩ = some (.int .i64 b.node) ∧ w'.cell? ⟨w.heap.size + 1, 3, none⟩ = some (.int .i64 b.par) ∧ w'.cell? ⟨w.heap.size + 1, 4, none⟩ = some (.string b.name)) (exact ⟨(Below.cell (by repeat (first | (with_reducible exact HB.out) | apply below_alloc | apply pw_below_drewN | apply below_drew1 | exact HB.out)) (show w.heap.size < w.heap.size + 2 by omega)).trans K3.out.1, (Below.cell (by repeat (first | (with_reducible exact HB.out) | apply below_alloc | apply pw_below_drewN | apply below_drew1 | exact HB.out)) (show w.heap.size < w.heap.size + 2 by omega)).trans K3.out.2.1, (Below.cell (by repeat (first | (with_reducible exact HB.out) | apply below_alloc | apply pw_below_drewN | apply below_drew1 | exact HB.out)) (show w.heap.size < w.heap.size + 2 by omega)).trans K3.out.2.2.1, (Below.cell (by repeat (first | (with_reducible exact HB.out) | apply below_alloc | apply pw_below_drewN | apply below_drew1 | exact HB.out)) (show w.heap.size < w.heap.size + 2 by omega)).trans K3.out.2.2.2.1, (Below.cell (by repeat (first | (with_reducible exact HB.out) | apply below_alloc | apply pw_below_drewN | apply below_drew1 | exact HB.out)) (show w.heap.size < w.heap.size + 2 by omega)).trans K3.out.2.2.2.2, (Below.cell (by repeat (first | (with_reducible exact HB.out) | apply below_alloc | apply pw_below_drewN | apply below_drew1 | exact HB.out)) (show w.heap.size + 1 < w.heap.size + 2 by omega)).trans K4.out.1, (Below.cell (by repeat (first | (with_reducible exact HB.out) | apply below_alloc | apply pw_below_drewN | apply below_drew1 | exact HB.out)) (show w.heap.size + 1 < w.heap.size + 2 by omega)).trans K4.out.2.1, (Below.cell (by repeat (first | (with_reducible exact HB.out) | apply below_alloc | apply pw_below_drewN | apply below_drew1 | exact HB.out)) (show w.heap.size + 1 < w.heap.size + 2 by omega)).trans K4.out.2.2.1, (Below.cell (by repeat (first | (with_reducible exact HB.out) | apply below_alloc | apply pw_below_drewN | apply below_drew1 | exact HB.out)) (show w.heap.size + 1 < w.heap.size + 2 by omega)).trans K4.out.2.2.2.1, (Below.cell (by repeat (first | (with_reducible exact HB.out) | apply below_alloc | apply pw_below_drewN | apply below_drew1 | exact HB.out)) (show w.heap.size + 1 < w.heap.size + 2 by omega)).trans K4.out.2.2.2.2⟩)
      (first
        | (go_at_call 10; (refine (H1.out _).mono ?_); rintro e v1 ⟨rfl, m1, rfl⟩)
        | (go_at_call 11; (refine (H2.out _).mono ?_); rintro e v2 ⟨rfl, m2, rfl⟩)
        | (go_at_call 12; (refine (H3.out _ (HT.out.below (below_wide HB0.out (by repeat (first | (with_reducible exact HB.out) | apply below_alloc | apply pw_below_drewN | apply below_drew1 | exact HB.out)) (Nat.le_add_right _ _)))).mono ?_); rintro e v3 ⟨rfl, hb⟩; have HBn := Lib.hid (below_stepB (by repeat (first | (with_reducible exact HB.out) | apply below_alloc | apply pw_below_drewN | apply below_drew1 | exact HB.out)) HLT.out hb); clear hb HB; have HB := HBn; clear HBn)
        | (go_at_call 13; (refine (H4.out _).mono ?_); rintro e v4 ⟨rfl, hb⟩; have HBn := Lib.hid (below_stepB (by repeat (first | (with_reducible exact HB.out) | apply below_alloc | apply pw_below_drewN | apply below_drew1 | exact HB.out)) HLT.out hb); clear hb HB; have HB := HBn; clear HBn)
        | (go_at_call 14; (refine (H5.out _).mono ?_); rintro e v5 ⟨rfl, hb⟩; have HBn := Lib.hid (below_stepB (by repeat (first | (with_reducible exact HB.out) | apply below_alloc | apply pw_below_drewN | apply below_drew1 | exact HB.out)) HLT.out hb); clear hb HB; have HB := HBn; clear HBn)
        | (go_at_call 15; (refine (H6.out _).mono ?_); rintro e v6 ⟨rfl, hb⟩; have HBn := Lib.hid (below_stepB (by repeat (first | (with_reducible exact HB.out) | apply below_alloc | apply pw_below_drewN | apply below_drew1 | exact HB.out)) HLT.out hb); clear hb HB; have HB := HBn; clear HBn)
        | (go_at_call 17; (refine (H7.out _ (HT.out.below (below_wide HB0.out (by repeat (first | (with_reducible exact HB.out) | apply below_alloc | apply pw_below_drewN | apply below_drew1 | exact HB.out)) (Nat.le_add_right _ _)))).mono ?_); rintro e v7 ⟨x7, rfl, ho, hb⟩; obtain ⟨A7, c7, rfl, hr⟩ := own_reads ho; have HC7 := Lib.hid (own_cap ho); have HR7 := Lib.hid hr; clear ho hr; have HBn := Lib.hid (below_stepB (by repeat (first | (with_reducible exact HB.out) | apply below_alloc | apply pw_below_drewN | apply below_drew1 | exact HB.out)) HLT.out hb); clear hb HB; have HB := HBn; clear HBn)
        | (go_at_call 18; (refine (H8.out _).mono ?_); rintro e v8 ⟨x8, rfl, ho, hb⟩; obtain ⟨A8, c8, rfl, hr⟩ := own_reads ho; have HC8 := Lib.hid (own_cap ho); have HR8 := Lib.hid hr; have HR9 := Lib.hid (HR7.out.below hb); clear ho hr; have HBn := Lib.hid (below_stepB (by repeat (first | (with_reducible exact HB.out) | apply below_alloc | apply pw_below_drewN | apply below_drew1 | exact HB.out)) HLT.out hb); clear hb HB; have HB := HBn; clear HBn)
        | (go_at_call 16; (refine (same_calls_eq _ HR9.out HC7.out HR8.out HC8.out rfl).mono ?_); rintro e v9 ⟨rfl, m9, rfl⟩)
        | (fail "no arm"))
    go_wp2
    go_ret
    exact ⟨rfl, below_wide HB0.out (by repeat (first | (with_reducible exact HB.out) | apply below_alloc | apply pw_below_drewN | apply below_drew1 | exact HB.out)) (Nat.le_add_right _ _)⟩
  · go_ret
    exact ⟨rfl, HB.out⟩
end Go.Proofs.YtbekfoldohhbpaaDoor
