/-
  The walk of the law OpCuts.
-/
import Derived.Test.YtbekfoldohhbpaaDoorOpAwake
import Derived.Test.YtbekfoldohhbpaaDoorOpP
import Derived.Test.YtbekfoldohhbpaaDoorOpQ
import Derived.Test.YtbekfoldohhbpaaDoorOpTiny
namespace Go.Proofs.YtbekfoldohhbpaaDoor
open Go.RowKit Go.Proofs.YtbekfoldohhbpaaDoorW.PrintWords

set_option maxHeartbeats 2000000 in
theorem opCuts_walk0 (o : OpR) (n r node to' name at' : Int) (w : World) (hT : Tabs w) (ha : 0 ≤ at' ∧ at' < 256) (hR : opRight o = true)
    (hof : ∀ w, Calls Tryd.prog 19 #[.agg #[.int .u8 n, .int .u8 r, .int .u8 node, .int .u8 to', .int .u8 name]] w fun e w' => e = .returned (opV o) ∧ Below w.heap.size w w') :
    Calls Tryd.prog 7 #[.agg #[.int .u8 n, .int .u8 r, .int .u8 node, .int .u8 to', .int .u8 name], .int .u8 at'] w fun e w' => e = .returned (.bool true) ∧ Below w.heap.size w w' := by
  have HT := Lib.hid hT
  have HB := Lib.hid (Below.refl w.heap.size w)
  obtain ⟨b1, b2, b3, b4, b5⟩ := right_bounds hR
  have hp := fun w (h : Tabs w) => put_calls o w (by omega) h
  have hl1 : 1 ≤ (opForm o).length := by
    rw [opForm, if_pos hR, pre_four]
    have := form_pos o.n (by omega) (by omega)
    simp only [List.length_append]; omega
  have hl2 : (opForm o).length ≤ 45 := by
    rw [opForm, if_pos hR, List.length_append]
    have h1 := pre_length o 4 (by omega)
    have h2 := textForm_length o.name (by omega)
    have h3 := form_length o.name.size
    omega
  have hxr : ∀ x ∈ opForm o, 0 ≤ x ∧ x < 256 := by
    rw [opForm, if_pos hR]
    intro x hx
    rcases List.mem_append.1 hx with h | h
    · rw [pre_four] at h
      simp only [List.mem_append] at h
      rcases h with ((h | h) | h) | h <;> exact form_range _ x h
    · exact textForm_range _ x h
  have hcut := put_cut hR
  have hk0 : 0 ≤ Int.tmod at' (opForm o).length ∧ Int.tmod at' (opForm o).length < (opForm o).length := by
    rw [Int.tmod_eq_emod_of_nonneg ha.1]
    exact ⟨Int.emod_nonneg _ (by omega), Int.emod_lt_of_pos _ (by omega)⟩
  clear b1 b2 b3 b4 b5 hR
  generalize opForm o = F at *
  generalize hL : F.length = L at *
  obtain ⟨k, hk⟩ : ∃ k : Nat, Int.tmod at' L = (k : Int) := ⟨(Int.tmod at' L).toNat, by omega⟩
  have hw : IntKind.i64.wrap (Int.tmod at' L) = k := by rw [hk, IntKind.wrap_i64]; omega
  have hkl : k < L := by omega
  obtain ⟨q1, q2⟩ := hcut k hkl
  have ht := fun (v : World) (a d : Nat) h hd hw ha => take_calls w v a d (F.take k) 0 h (by decide) hd hT hw ha
  rw [q1, q2, if_neg (by decide)] at ht
  have hL2 : (F.take k).length = k := by rw [List.length_take]; omega
  simp only [opV, zeroOp] at hp ht hof
  have HP := Lib.hid hp
  have HTK := Lib.hid ht
  have HOF := Lib.hid hof
  have HX := Lib.hid (show ∀ x ∈ F.take k, 0 ≤ x ∧ x < 256 from fun x hx => hxr x (List.mem_of_mem_take hx))
  have HLL := Lib.hid hL
  have HL2 := Lib.hid hL2
  clear hp ht hof hxr hcut hT q1 q2 hL hL2
  go_enter Tryd.func7, Tryd.ntmps7
  go_wp2_with (first
    | (go_at_call 8; (refine Calls.mono (awake_calls _ (HT.out.below (by repeat (first | (with_reducible exact HB.out) | apply below_alloc | apply pw_below_drewN | apply below_drew1 | exact HB.out)))) ?_); rintro e w1 ⟨rfl, hb⟩; have c0 : w1.cell? ⟨w.heap.size, 0, none⟩ = some (.int .u8 n) := pw_cell_below hb (by go_cell); have c1 : w1.cell? ⟨w.heap.size, 1, none⟩ = some (.int .u8 r) := pw_cell_below hb (by go_cell); have c2 : w1.cell? ⟨w.heap.size, 2, none⟩ = some (.int .u8 node) := pw_cell_below hb (by go_cell); have c3 : w1.cell? ⟨w.heap.size, 3, none⟩ = some (.int .u8 to') := pw_cell_below hb (by go_cell); have c4 : w1.cell? ⟨w.heap.size, 4, none⟩ = some (.int .u8 name) := pw_cell_below hb (by go_cell); have HBn := Lib.hid (below_step (by repeat (first | (with_reducible exact HB.out) | apply below_alloc | apply pw_below_drewN | apply below_drew1 | exact HB.out)) hb); clear hb HB; have HB := HBn; clear HBn)
    | (go_at_call 19; (refine (HOF.out _).mono ?_); rintro e w2 ⟨rfl, hb⟩; clear c0 c1 c2 c3 c4; have HBn := Lib.hid (below_step (by repeat (first | (with_reducible exact HB.out) | apply below_alloc | apply pw_below_drewN | apply below_drew1 | exact HB.out)) hb); clear hb HB; have HB := HBn; clear HBn)
    | (go_at_call 17; (refine (HP.out _ (HT.out.below (by repeat (first | (with_reducible exact HB.out) | apply below_alloc | apply pw_below_drewN | apply below_drew1 | exact HB.out)))).mono ?_); rintro e w3 ⟨v3, rfl, ho, hb⟩; obtain ⟨A3, f3, rfl, hr⟩ := own_reads ho; have hcap := own_cap ho; rw [HLL.out] at hr hcap ⊢; have HR3 := Lib.hid hr; clear ho hr; have HBn := Lib.hid (below_step (by repeat (first | (with_reducible exact HB.out) | apply below_alloc | apply pw_below_drewN | apply below_drew1 | exact HB.out)) hb); clear hb HB; have HB := HBn; clear HBn)
    | (go_at_call 20; (refine (new_calls _ A3 k f3 _ (HR3.out.take_ k (by omega)) (by omega) HX.out).mono ?_); rintro e w4 ⟨a, d, rfl, hd, hb, ha, hda, hdl⟩; have HD := Lib.hid hd; have HA := Lib.hid (show w.heap.size ≤ a from Nat.le_trans HB.out.size ha); have HDL := Lib.hid hdl; clear hd ha hda hdl; have HBn := Lib.hid (below_step (by repeat (first | (with_reducible exact HB.out) | apply below_alloc | apply pw_below_drewN | apply below_drew1 | exact HB.out)) hb); clear hb HB; have HB := HBn; clear HBn)
    | (go_at_call 21; (refine (HTK.out _ a d HD.out HDL.out HB.out HA.out).mono ?_); rintro e w5 ⟨rfl, hd, hw5⟩; have HD5 := Lib.hid hd; have HBn := Lib.hid (hw5.below HB.out HA.out HB.out.size); clear hd hw5 HB; have HB := HBn; clear HBn)
    | (go_at_call 23; (refine (err_calls _ a d _ _ (HD5.out.below ((Below.refl _ _).alloc (Nat.le_refl _) _))).mono ?_); rintro e w6 ⟨rfl, rfl⟩)
    | (fail "no arm"))
  go_ret
  exact ⟨rfl, (by repeat (first | (with_reducible exact HB.out) | apply below_alloc | apply pw_below_drewN | apply below_drew1 | exact HB.out))⟩

theorem opCuts_walk (x : TinyT) (at' : Int) (w : World) (hx : TinyIn x) (ha : (Lit.int .u8 at').wf = true) (hT : Tabs w) :
    Calls Tryd.prog 7 #[.agg (tinyCs x), .int .u8 at'] w fun e w' => e = .returned (.bool true) ∧ Below w.heap.size w w' :=
  opCuts_walk0 (ofOp x.1 x.2.1 x.2.2.1 x.2.2.2.1 x.2.2.2.2) x.1 x.2.1 x.2.2.1 x.2.2.2.1 x.2.2.2.2 at' w hT (byte_wf ha) (of_right _ _ _ _ _) (fun w => of_calls _ _ _ _ _ w hx.1 hx.2.1 hx.2.2.1 hx.2.2.2.1 hx.2.2.2.2)
end Go.Proofs.YtbekfoldohhbpaaDoor
