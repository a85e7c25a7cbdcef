/-
  Package arena's Free, Map.Free; holtlaw11.walk: rows that are appended whole; what walk tells; Package arena's and pmap's New; Package arena and pmap's store: plain laws. What lies where, which handles are new, which are gone; Package pmap's versions: plain laws. What a store makes of a tree; versions; Package holtref11's With, Without, Same, In, Minus, Sets: plain laws of what the print says that they compute; Package pmap's versions: heights, what Get finds, one step (a put, a del) as a law tells it
-/
import Derived.Test.YtmhfbpdahfepgaaJPmapHigh3
import Derived.Test.YtmhfbpdahfepgaaPPmapPlaysx3
import Derived.Test.YtmhfbpdahfepgaaPPmapPlaysx4
import Derived.IntWalk
/- Package arena's Free, Map.Free. -/
namespace Go.Proofs.Ytmhfbpdahfepgaa.Pm
open Go.RowKit Go.Proofs.YtmhfbpdahfepgaaW.PrintWords
theorem slot_at {a : Ar N2} {h : Hd} {s : Slot N2} (hs : a.slot? h = some s) : ∃ (j : Nat) (hj : j < a.slots.length), h.s = (j : Int) + 1 ∧ a.slots[j] = s ∧ s.used = true ∧ s.gen = h.g := by
  unfold Ar.slot? at hs
  split at hs
  · rename_i hc
    refine ⟨(h.s - 1).toNat, by omega, by omega, ?_⟩
    rw [List.getElem?_eq_getElem (show (h.s - 1).toNat < a.slots.length by omega)] at hs
    simp only [Option.bind_some] at hs
    split at hs
    · rename_i hu
      injection hs with hs
      rw [Bool.and_eq_true, beq_iff_eq] at hu
      exact ⟨hs, hs ▸ hu.1, hs ▸ hu.2⟩
    · cases hs
  · cases hs
theorem reps_put {ss : List (Slot N2)} {inner : List Value} (hr : Reps (fun s cs => cs = slotC s) 9 ss inner) (j : Nat) (hj : j < ss.length) (s : Slot N2) : Reps (fun s cs => cs = slotC s) 9 (ss.set j s) (sets inner (j * 9) (slotC s)) := by
  have hl := hr.1
  refine ⟨by rw [sets_length, List.length_set]; exact hl, fun i p hp => ?_⟩
  have hi : i < ss.length := by
    have := (List.getElem?_eq_some_iff.mp hp).1
    rwa [List.length_set] at this
  have h9 : (slotC s).length = 9 := rfl
  have hjl : j * 9 + 9 ≤ inner.length := by rw [hl]; omega
  have hil : i * 9 + 9 ≤ inner.length := by rw [hl]; omega
  by_cases e : i = j
  · subst e
    rw [List.getElem?_set_self hi] at hp
    injection hp with hp
    subst hp
    apply List.ext_getElem?
    intro k
    rw [List.getElem?_take]
    by_cases hk : k < 9
    · rw [if_pos hk, List.getElem?_drop, sets_in _ _ _ _ (by omega) (by omega)]
    · rw [if_neg hk, List.getElem?_eq_none (by omega)]
  · rw [List.getElem?_set_ne (by omega)] at hp
    show _ = _
    rw [← (show _ = _ from hr.2 i p hp)]
    apply List.ext_getElem?
    intro k
    rw [List.getElem?_take, List.getElem?_take]
    by_cases hk : k < 9
    · rw [if_pos hk, if_pos hk, List.getElem?_drop, List.getElem?_drop, sets_out _ _ _ _ (by omega)]
    · rw [if_neg hk, if_neg hk]
def goneC : List Value := [.bool false, .int .i64 0, .int .i64 0, .int .i64 0, .int .i64 0, .int .i64 0, .int .i64 0, .int .i64 0]
theorem OwnS.cut {W : World} {B g c : Nat} {ss : List (Slot N2)} (h : OwnS W B (.slice (some ⟨g, 0, none⟩) ss.length c) ss) (j : Nat) (hj : j < ss.length) : OwnS (wsets W g (j * 9 + 1) goneC) B (.slice (some ⟨g, 0, none⟩) ss.length c) (ss.set j ⟨ss[j].gen, false, nd0⟩) := by
  obtain ⟨inner, ho, hr⟩ := h
  have hr2 := reps_put hr j hj ⟨ss[j].gen, false, nd0⟩
  have hl := hr.1
  have e0 : inner[j * 9]? = some (.int .i64 ss[j].gen) := by
    have := congrArg (fun l => l[0]?) (show _ = slotC ss[j] from hr.2 j ss[j] (List.getElem?_eq_getElem hj))
    rw [List.getElem?_take, if_pos (by decide), List.getElem?_drop] at this
    exact this
  have hlt : j * 9 < inner.length := by rw [hl]; omega
  have e1 : sets inner (j * 9) (slotC ⟨ss[j].gen, false, nd0⟩) = sets inner (j * 9 + 1) goneC := by
    show sets (inner.set (j * 9) (.int .i64 ss[j].gen)) (j * 9 + 1) goneC = _
    rw [List.getElem?_eq_getElem hlt] at e0
    injection e0 with e0
    rw [← e0, List.set_getElem_self]
  rw [e1] at hr2
  exact ⟨_, by rw [List.length_set]; exact wsets_own _ _ _ _ ho, hr2⟩
theorem AtB.cut {w0 W : World} {B aa g c : Nat} {fv : Value} {a : Ar N2} {cs : Array Value} (H : AtB w0 W B aa (.slice (some ⟨g, 0, none⟩) a.slots.length c) fv a) (hg : W.heap[g]? = some (.cells cs 96 (0, 0))) (hB : B ≤ g) (j : Nat) (hj : j < a.slots.length) :
    AtB w0 (wsets W g (j * 9 + 1) goneC) B aa (.slice (some ⟨g, 0, none⟩) a.slots.length c) fv ⟨a.most, a.slots.set j ⟨a.slots[j].gen, false, nd0⟩, a.free⟩ :=
  ⟨wsets_below hB _ _ _ H.bel, Nat.le_trans H.sz (wsets_fr _ _ _ _ hg).size, H.ge, (wsets_block (typed_ne H.ha hg (by decide)) _ _ _).trans H.ha, by rw [show (Ar.slots ⟨a.most, a.slots.set j ⟨a.slots[j].gen, false, nd0⟩, a.free⟩) = a.slots.set j ⟨a.slots[j].gen, false, nd0⟩ from rfl]; exact OwnS.cut H.hs j hj, wsets_other (own_ne H.hf hg (by decide)) _ _ _ H.hf⟩
theorem find_any (w : World) (m aa : Nat) (f sv fv : Value) (a : Ar N2) (j : Nat) (H : MapAt w m aa f sv fv a) (hj : j < a.slots.length) (hu : a.slots[j].used = true) (g c : Nat) (hsv : sv = .slice (some ⟨g, 0, none⟩) a.slots.length c) :
    Calls Try.prog 45 #[.pointer (some ⟨aa, 0, none⟩), .agg #[.int .i64 ((j : Int) + 1), .int .i64 a.slots[j].gen]] w fun e w' => e = .returned (.pointer (some ⟨g, j * 9, none⟩)) ∧ Below w.heap.size w w' := by
  obtain ⟨g', c', e, h1, h2, h3, h4⟩ := H.slot j hj
  rw [hsv] at e
  injection e with e1 e2 e3
  injection e1 with e1
  injection e1 with e1
  subst e1 e3
  exact find_hit w m aa f sv fv a j _ H hj hu rfl g c hsv h1 h3 h4
theorem AtB.freed {w0 w5 w8 : World} {B aa : Nat} {sv fv fv8 : Value} {a : Ar N2} {i : Int} (H : AtB w0 w5 B aa sv fv a) (ho : w8.ownsRow B 3 1 fv8 (a.free.length + 1) (nums .i64 a.free ++ [.int .i64 i])) (hb : Below B w0 w8) (hg : w5.drew.grownBy w8 fv.ownBlock) :
    AtB w0 (w8.setCell ⟨aa, 2, none⟩ fv8) B aa sv fv8 ⟨a.most, a.slots, a.free ++ [i]⟩ ∧ Fr w5 (w8.setCell ⟨aa, 2, none⟩ fv8) := by
  have hz : w5.heap.size ≤ w8.heap.size := hg.size
  have ha8 : w8.heap[aa]? = _ := (hg.block aa (blk_lt H.ha) (own_ne H.hf H.ha (by decide))).trans H.ha
  obtain ⟨inner, hown, hrep⟩ := H.hs
  have hs8 : OwnS w8 B sv a.slots := ⟨inner, own_other (show w5.drew.ownsRow _ _ _ _ _ _ from hown) hg (own_type_ne hown H.hf (by decide)), hrep⟩
  refine ⟨⟨hb.setCell (p := ⟨aa, 2, none⟩) H.ge _, by have := H.sz; simp; omega, H.ge, blk_put ha8 2 fv8 rfl, OwnRow.set_ hs8 ha8 (by decide) 2 fv8, ?_⟩, ?_⟩
  · have e1 : (a.free ++ [i]).length = a.free.length + 1 := by rw [List.length_append, List.length_singleton]
    have e2 : nums .i64 (a.free ++ [i]) = nums .i64 a.free ++ [.int .i64 i] := by simp [nums]
    rw [show (Ar.free ⟨a.most, a.slots, a.free ++ [i]⟩ : List Int) = a.free ++ [i] from rfl, e1, e2]
    exact own_setCell ho (own_ne ho ha8 (by decide)) fv8
  · refine (show Fr w5 w8 from ⟨hg.os, hg.tape, hg.output, hz, fun j cs t hc _ _ h3 => (hg.block j (blk_lt hc) (own_ne H.hf hc (Ne.symm h3))).trans hc⟩).trans (Fr.set ha8 (.inl rfl) 2 fv8)
theorem intInfo : (Try.prog.info? 3).map (fun i => (i.zero, i.size, i.bytes)) = some (some (.int .i64 0), 1, 8) := by kernel_rfl
set_option maxHeartbeats 4000000 in
theorem afree_calls (w0 W : World) (B m aa : Nat) (a : Ar N2) (h : Hd) (j : Nat) (HM : MapB w0 W B m aa a) (hs : Small a) (hj : j < a.slots.length) (hh : h.s = (j : Int) + 1) (hu : a.slots[j].used = true) (hg : a.slots[j].gen = h.g) :
    Calls Try.prog 39 #[.pointer (some ⟨aa, 0, none⟩), hdV h] W fun e w' => e = .returned (.bool true) ∧ (∃ sv fv, AtB w0 w' B aa sv fv ⟨a.most, a.slots.set j ⟨a.slots[j].gen, false, nd0⟩, a.free ++ [h.s]⟩) ∧ Fr W w' := by
  obtain ⟨sv, fv, H⟩ := HM.at_
  obtain ⟨g, c, cs, rfl, hgb, hBg, hc, hm, hcell⟩ := OwnS.slot H.hs j hj
  have hMA : MapAt W m aa cmpF (.slice (some ⟨g, 0, none⟩) a.slots.length c) fv a := ⟨HM.hm, H.ha, by obtain ⟨inner, ho, hr⟩ := H.hs; exact ⟨inner, own_low ho (Nat.zero_le _), hr⟩, own_low H.hf (Nat.zero_le _)⟩
  have HFN := Lib.hid (fun (V : World) (hb : Below W.heap.size W V) => find_any V m aa cmpF _ fv a j (hMA.below hb) hj hu g c rfl)
  have HA := Lib.hid H
  have HG := Lib.hid hgb
  have HCE := Lib.hid hcell
  have h1 := hs.most
  have h2 := hs.slots
  have h3 := hs.free
  have hgl := blk_lt hgb
  have hal := blk_lt H.ha
  have hne := Lib.hid (typed_ne H.ha hgb (by decide))
  obtain ⟨hs', hg'⟩ := h
  dsimp only at hh hg
  subst hh hg
  simp only [hdV]
  have hsz := H.sz
  clear HM hs hMA H hgb hcell hu
  go_enter Try.func39, Try.ntmps39
  go_wp2_with (first
    | (go_at_call 45; go_loud (
        (with_reducible refine Calls.mono (HFN.out _ (by repeat (first | exact Below.refl _ _ | apply below_drew1 | apply below_alloc | apply pw_below_drewN))) ?_);
        rintro e w1 ⟨rfl, hb⟩;
        (have hb0 : Below W.heap.size W w1 := (below_alloc (Below.refl _ _) _).trans (hb.mono (by simp [World.size_alloc])));
        (have hhx := blk_below (blk_new W (.cells #[.int .i64 ((j : Int) + 1), .int .i64 a.slots[j].gen] 28 (0, 0))) hb);
        have x0 := blk_cell hhx 0; have x1 := blk_cell hhx 1; simp at x0 x1;
        have hlx := blk_lt hhx;
        have HB1 := Lib.hid hb0; have hz1 := hb0.size;
        have HA1 := Lib.hid (HA.out.below hb0); have HG1 := Lib.hid (blk_below HG.out hb0);
        have HHX := Lib.hid hhx;
        have hgl1 := blk_lt HG1.out;
        have z1 := blk_frozen HG1.out (j * 9 + 1); have z2 := blk_frozen HG1.out (j * 9 + 2); have z3 := blk_frozen HG1.out (j * 9 + 3); have z4 := blk_frozen HG1.out (j * 9 + 4); have z5 := blk_frozen HG1.out (j * 9 + 5); have z6 := blk_frozen HG1.out (j * 9 + 6); have z7 := blk_frozen HG1.out (j * 9 + 7); have z8 := blk_frozen HG1.out (j * 9 + 8);
        have k1 := pw_cell_below hb0 (HCE.out 1 _ rfl); have k2 := pw_cell_below hb0 (HCE.out 2 _ rfl); have k3 := pw_cell_below hb0 (HCE.out 3 _ rfl); have k4 := pw_cell_below hb0 (HCE.out 4 _ rfl); have k5 := pw_cell_below hb0 (HCE.out 5 _ rfl); have k6 := pw_cell_below hb0 (HCE.out 6 _ rfl); have k7 := pw_cell_below hb0 (HCE.out 7 _ rfl); have k8 := pw_cell_below hb0 (HCE.out 8 _ rfl);
        clear hb hb0 hhx))
    | (fail "no arm"))
  go_region
  change Exit.then _ _ _ _ (World.drew ((wsets w1 g (j * 9 + 1) goneC).alloc (.cells #[.int .i64 0, .int .i64 0, .int .i64 0, .int .i64 0, .int .i64 0, .int .i64 0, .int .i64 0] 44 (0, 0))))
  have H5 := Lib.hid ((AtB.cut HA1.out HG1.out hBg j hj).below (show Below (wsets w1 g (j * 9 + 1) goneC).heap.size (wsets w1 g (j * 9 + 1) goneC) (World.drew ((wsets w1 g (j * 9 + 1) goneC).alloc (.cells #[.int .i64 0, .int .i64 0, .int .i64 0, .int .i64 0, .int .i64 0, .int .i64 0, .int .i64 0] 44 (0, 0)))) from (below_drew1 (below_alloc (Below.refl _ _) _))))
  have F5 := Lib.hid ((Fr.below HB1.out).trans ((wsets_fr goneC _ (j * 9 + 1) _ HG1.out).trans (Fr.below (show Below (wsets w1 g (j * 9 + 1) goneC).heap.size (wsets w1 g (j * 9 + 1) goneC) (World.drew ((wsets w1 g (j * 9 + 1) goneC).alloc (.cells #[.int .i64 0, .int .i64 0, .int .i64 0, .int .i64 0, .int .i64 0, .int .i64 0, .int .i64 0] 44 (0, 0)))) from (below_drew1 (below_alloc (Below.refl _ _) _))))))
  have d1 := (wsets_block (show W.heap.size ≠ g by omega) goneC w1 (j * 9 + 1)).trans HHX.out
  have HY5 := Lib.hid (blk_drew (blk_alloc d1 (.cells #[.int .i64 0, .int .i64 0, .int .i64 0, .int .i64 0, .int .i64 0, .int .i64 0, .int .i64 0] 44 (0, 0))))
  clear d1 k1 k2 k3 k4 k5 k6 k7 k8 z1 z2 z3 z4 z5 z6 z7 z8 x0 x1
  generalize (World.drew ((wsets w1 g (j * 9 + 1) goneC).alloc (.cells #[.int .i64 0, .int .i64 0, .int .i64 0, .int .i64 0, .int .i64 0, .int .i64 0, .int .i64 0] 44 (0, 0)))) = w5 at *
  have x0 := blk_cell HY5.out 0
  simp at x0
  obtain ⟨A', c', rfl⟩ := own_slice H5.out.hf
  have HF5 := Lib.hid (show w5.drew.ownsRow B 3 1 (.slice A' a.free.length c') a.free.length (nums .i64 a.free) from H5.out.hf)
  have f2 : w5.cell? ⟨aa, 2, none⟩ = some (.slice A' a.free.length c') := blk_cell H5.out.ha 2
  have hsz5 := H5.out.sz
  have HB5 := Lib.hid H5.out.bel
  have hnef := Lib.hid (own_ne H5.out.hf H5.out.ha (by decide))
  have ha5 := blk_lt H5.out.ha
  generalize hFL : a.free.length = FL at *
  have HFL := Lib.hid hFL
  clear hFL
  go_wp2
  go_region_law (go_loud ((refine step_append_cells (w0 := w0) (W := w5.drew) B rfl (.tmp 23) (.tmp 26) 82 3 _ 1 8 rfl Try.underlying82 intInfo rfl (by decide) (by decide) _ FL (nums .i64 a.free) [.int .i64 ((j : Int) + 1)] (by rfl) (by simp [Act.eval, World.size_alloc]) rfl (by simp [Value.oneCell']) HF5.out (below_drew1 HB5.out) hsz5 ?hl ?_; (case hl => omega); intro v8 w8 ho hb hg hat; obtain ⟨A8, c8, rfl⟩ := own_slice ho; have HO8 := Lib.hid ho; have HB8 := Lib.hid hb; have HG8 := Lib.hid hg; have HE8 := Lib.hid (show w8.heap[aa]? = _ from (hg.block aa (by simpa using ha5) hnef.out).trans H5.out.ha); have zz1 := blk_frozen HE8.out 2; have kk1 := blk_cell HE8.out 2; simp at kk1; clear ho hb hg hat)))
  all_goals
    go_wp2
    go_ret
    have hfr := AtB.freed (i := (j : Int) + 1) H5.out (by rw [show (Ar.free ⟨a.most, a.slots.set j ⟨a.slots[j].gen, false, nd0⟩, a.free⟩ : List Int).length = FL from HFL.out]; exact HO8.out) HB8.out HG8.out
    exact ⟨rfl, ⟨_, _, hfr.1⟩, F5.out.trans hfr.2⟩
theorem del_some {a : Ar N2} {h : Hd} {s : Slot N2} (hs : a.slot? h = some s) : a.del nd0 h = ⟨a.most, a.slots.set (h.s - 1).toNat ⟨s.gen, false, nd0⟩, a.free ++ [h.s]⟩ := by
  unfold Ar.del
  rw [hs]
theorem afree_of (w0 W : World) (B m aa : Nat) (a : Ar N2) (h : Hd) (HM : MapB w0 W B m aa a) (hs : Small a) (hh : (a.get h).isSome = true) :
    Calls Try.prog 39 #[.pointer (some ⟨aa, 0, none⟩), hdV h] W fun e w' => e = .returned (.bool true) ∧ (∃ sv fv, AtB w0 w' B aa sv fv (a.del nd0 h)) ∧ Fr W w' := by
  unfold Ar.get at hh
  rw [Option.isSome_map] at hh
  obtain ⟨s, hs'⟩ := Option.isSome_iff_exists.mp hh
  rw [del_some hs']
  obtain ⟨j, hj, e1, e2, e3, e4⟩ := slot_at hs'
  have := afree_calls w0 W B m aa a h j HM hs hj e1 (by rw [e2]; exact e3) (by rw [e2]; exact e4)
  rw [show (h.s - 1).toNat = j by omega, ← e2]
  exact this
set_option maxHeartbeats 1000000 in
theorem mfree_calls (w0 W : World) (B m aa : Nat) (a : Ar N2) (h : Hd) (HM : MapB w0 W B m aa a) (hs : Small a) (hh : (a.get h).isSome = true) :
    Calls Try.prog 28 #[.pointer (some ⟨m, 0, none⟩), hdV h] W fun e w' => e = .returned (.bool true) ∧ MapB w0 w' B m aa (a.del nd0 h) ∧ Fr W w' := by
  have c0 : W.cell? ⟨m, 0, none⟩ = some (.pointer (some ⟨aa, 0, none⟩)) := blk_cell HM.hm 0
  have hlt := blk_lt HM.hm
  have HF := Lib.hid (fun (V : World) (hb : Below W.heap.size W V) => (afree_of w0 V B m aa a h (HM.below hb) hs hh).mono (R' := fun e w' => e = .returned (.bool true) ∧ MapB w0 w' B m aa (a.del nd0 h) ∧ Fr W w') fun _ _ ⟨x1, x2, x3⟩ => ⟨x1, ⟨x2, FrX.typedF x3 (blk_below HM.hm hb), HM.bm⟩, (Fr.below hb).trans x3⟩)
  clear HM hs hh
  simp only [hdV] at HF ⊢
  generalize a.del nd0 h = a' at *
  go_enter Try.func28, Try.ntmps28
  go_wp2
  go_region_with (first
    | (go_at_call 39; go_loud ((with_reducible refine Calls.mono (HF.out _ (by repeat (first | exact Below.refl _ _ | apply below_drew1 | apply below_alloc | apply pw_below_drewN))) ?_); rintro e w1 ⟨rfl, hm, hf⟩; have HM1 := Lib.hid hm; have HF1 := Lib.hid hf; clear hm hf))
    | (fail "no arm"))
  all_goals
    go_wp2
    go_ret
    exact ⟨rfl, HM1.out, HF1.out⟩
end Go.Proofs.Ytmhfbpdahfepgaa.Pm
/- holtlaw11.walk: rows that are appended whole; what walk tells. -/
namespace Go.Proofs.Ytmhfbpdahfepgaa.Pm
open Go.RowKit Go.Proofs.YtmhfbpdahfepgaaW.PrintWords
attribute [local go_sem high] eqHd
section
variable {P : Program} {ops : Array Oper} {o : Oper} {a : Act} {Q : Exit → Act → World → Prop} {Kc : Act → World → Prop} {α : Type}
/-- append(v, ys...), both rows being made here. -/
theorem OwnRow.rows_step {R : α → List Value → Prop} {w0 W : World} (base : Nat) (hw : Region.wanted o (yielded ops a.tmps) = true) (s x : Operand) (t e : TypeId) (z : Value) (size bytes : Nat)
    (ho : o.op = .call { callee := .builtin .append, args := #[s, x], argTypes := #[t, t] })
    (ht : P.underlying t = some (.slice e)) (hinfo : (P.info? e).map (fun i => (i.zero, i.size, i.bytes)) = some (some z, size, bytes)) (hz : z.cells.size = size) (hs0 : 0 < size) (hb0 : 0 < bytes)
    (v u : Value) (ps qs : List α) (hs : a.eval s = v) (hx : a.eval x = u) (hone : ∀ p cs, R p cs → ∀ y ∈ cs, y.oneCell' = true)
    (HO : OwnRow R e size W base v ps) (HR : OwnRow R e size W base u qs)
    (HB : Below base w0 W) (hbase : base ≤ W.heap.size) (hl : (ps.length + qs.length) * bytes ≤ 140737488355328)
    (h : ∀ v1 w1, OwnRow R e size w1 base v1 (ps ++ qs) → Below base w0 w1 → W.grownBy w1 v.ownBlock → (v1.ownBlock = v.ownBlock ∨ ∃ b, v1.ownBlock = some b ∧ W.heap.size ≤ b) → Kc (a.put o.dst v1) w1) :
    if Region.wanted o (yielded ops a.tmps) = true then Oper.wp P o a W Kc Q else Kc (a.put o.dst undef) W := by
  obtain ⟨i0, hi, hzz⟩ := Option.map_eq_some_iff.1 hinfo
  simp only [Prod.mk.injEq] at hzz
  obtain ⟨hz0, hz1, hz2⟩ := hzz
  obtain ⟨A, c, rfl, hac, hrd⟩ := OwnRow.reads HR
  have hlen : ps.length + qs.length ≤ 140737488355328 := Nat.le_trans (Nat.le_mul_of_pos_right _ hb0) hl
  obtain ⟨inner, hown, hr⟩ := HO
  have hrun : ∃ v1 w1, (Builtin.append_ #[t, t] o.type #[v, .slice A qs.length c]).run P W = .ok v1 w1 ∧ OwnRow R e size w1 base v1 (ps ++ qs) ∧ W.grownBy w1 v.ownBlock ∧ (v1.ownBlock = v.ownBlock ∨ ∃ b, v1.ownBlock = some b ∧ W.heap.size ≤ b) := by
    rcases A with _ | ad
    · have h0 : qs.length = 0 := by
        rcases Nat.eq_zero_or_pos qs.length with h0 | h0
        · exact h0
        · obtain ⟨ad, h, _⟩ := hrd.2.2 h0
          cases h
      obtain rfl : qs = [] := List.eq_nil_of_length_eq_zero h0
      refine ⟨v, W, ?_, by rw [List.append_nil]; exact ⟨inner, hown, hr⟩, World.grownBy.refl W _, .inl rfl⟩
      rcases hown.2 with ⟨rfl, hn⟩ | ⟨g, cap, cur, rfl, _, _, hnc, _⟩
      · simp [Builtin.append_, run_underlying ht, sizeOf, typeInfo, hi, Builtin.lenOf, Builtin.firstCells]
      · simp [Builtin.append_, run_underlying ht, sizeOf, typeInfo, hi, Builtin.lenOf, Builtin.firstCells, hnc, storeCells]
    · obtain ⟨news, hnr, hnc⟩ := ReadsRow.inner_ hrd
      have hone : ∀ u ∈ news, u.oneCell' = true := by
        intro u hu
        obtain ⟨q, hq, rfl⟩ := List.mem_iff_getElem.1 hu
        have hql : q / size < qs.length := by
          rw [Nat.div_lt_iff_lt_mul hs0]
          rw [← hnr.1]
          exact hq
        have hc := hnr.2 (q / size) _ (List.getElem?_eq_getElem hql)
        refine hone _ _ hc _ ?_
        rw [List.mem_iff_getElem?]
        refine ⟨q % size, ?_⟩
        rw [List.getElem?_take, if_pos (Nat.mod_lt _ hs0), List.getElem?_drop, Nat.mul_comm, Nat.div_add_mod, List.getElem?_eq_getElem hq]
      obtain ⟨v1, w1, hrun, h2, hg, _, hat⟩ := run_append_own_at (P := P) W base t o.type e i0 z size bytes ht hi hz0 hz1 hz2 hz hs0 v ps.length inner hown ad qs.length c news hnr.1 hnc hone (by simp only [maxLen]; omega) hl hbase
      have hat' : v1.ownBlock = v.ownBlock ∨ ∃ b, v1.ownBlock = some b ∧ W.heap.size ≤ b := by
        rcases hat with hat | hat
        · exact .inl hat
        · exact .inr ⟨_, hat, Nat.le_refl _⟩
      exact ⟨v1, w1, hrun, ⟨inner ++ news, by rw [List.length_append]; exact h2, Kd.reps_append hr hnr⟩, hg, hat'⟩
  obtain ⟨v1, w1, hrun, hR, hg, hat⟩ := hrun
  rw [if_pos hw]
  unfold Oper.wp execOp
  simp only [ho, resolve, invoke, builtin, Sem.run_bind, Sem.run_pure, Result.andThen_ok, List.map_toArray, List.map_cons, List.map_nil, hs, hx, hrun]
  exact h v1 w1 hR (HB.grown hg hbase (own_base hown)) hg hat
end
def pc (p : Int × Int) : List Value := [.int .i64 p.1, .int .i64 p.2]
abbrev OwnP (W : World) (base : Nat) (v : Value) (ps : List (Int × Int)) : Prop := OwnRow (fun p cs => cs = pc p) 64 2 W base v ps
theorem row_low {α : Type} {R : α → List Value → Prop} {e : TypeId} {size : Nat} {W : World} {B B' : Nat} {v : Value} {l : List α} (h : OwnRow R e size W B v l) (hb : B' ≤ B) : OwnRow R e size W B' v l := by
  obtain ⟨inner, ho, hr⟩ := h
  exact ⟨inner, own_low ho hb, hr⟩
theorem hds_len : ∀ t : T2, (hds t).length = (pairs t).length
  | .leaf => rfl
  | .node h k v l r hi => by show (hds l ++ h :: hds r).length = (pairs l ++ (k, v) :: pairs r).length; rw [List.length_append, List.length_append, List.length_cons, List.length_cons, hds_len l, hds_len r]
def Apart (v u : Value) : Prop := v.ownBlock = none ∨ v.ownBlock ≠ u.ownBlock
theorem apart_of {α β : Type} {R : α → List Value → Prop} {R' : β → List Value → Prop} {e e' size size' B B' : Nat} {w w' : World} {v u : Value} {ps : List α} {qs : List β} (h : OwnRow R e size w B u ps) (h' : OwnRow R' e' size' w' B' v qs) (hB : w.heap.size ≤ B') : Apart v u := by
  obtain ⟨i1, o1, _⟩ := h
  obtain ⟨i2, o2, _⟩ := h'
  rcases o2.2 with ⟨rfl, _⟩ | ⟨g, cap, cur, rfl, hg, _, _⟩
  · exact .inl rfl
  · refine .inr fun he => ?_
    have := (o1.lt g he.symm).2
    omega
theorem apart_step {β : Type} {R' : β → List Value → Prop} {e' size' B' : Nat} {w' : World} {v u u1 : Value} {qs : List β} (h : Apart v u) (h' : OwnRow R' e' size' w' B' v qs) (hat : u1.ownBlock = u.ownBlock ∨ ∃ b, u1.ownBlock = some b ∧ w'.heap.size ≤ b) : Apart v u1 := by
  obtain ⟨i2, o2, _⟩ := h'
  rcases h with h | h
  · exact .inl h
  · refine .inr fun he => ?_
    rcases hat with hat | ⟨b, hb, hle⟩
    · exact h (he.trans hat)
    · have := (o2.lt b (he.trans hb)).2
      omega
theorem apart_type {α β : Type} {R : α → List Value → Prop} {R' : β → List Value → Prop} {e e' size size' B B' : Nat} {w : World} {v u : Value} {ps : List α} {qs : List β} (h : OwnRow R e size w B v ps) (h' : OwnRow R' e' size' w B' u qs) (hne : e ≠ e') : Apart v u := by
  obtain ⟨i1, o1, _⟩ := h
  obtain ⟨i2, o2, _⟩ := h'
  exact own_type_ne o1 o2 hne
theorem grown_blk {α : Type} {R : α → List Value → Prop} {e size B : Nat} {w w1 : World} {v : Value} {ps : List α} (hg : w.grownBy w1 v.ownBlock) (h : OwnRow R e size w B v ps) {b : Nat} {cs : Array Value} {t : TypeId} (hc : w.heap[b]? = some (.cells cs t (0, 0))) (hne : e ≠ t) : w1.heap[b]? = some (.cells cs t (0, 0)) :=
  (hg.block b (blk_lt hc) (OwnRow.ne_block h hc hne)).trans hc
theorem grown_undrew {w w1 : World} {row : Option Nat} (h : w.drew.grownBy w1 row) : w.grownBy w1 row := ⟨h.os, h.tape, h.output, h.size, h.block⟩
theorem pairs_node {h : Hd} {k v : Int} {l r : T2} {hi : Int} : pairs l ++ [(k, v)] ++ pairs r = pairs (.node h k v l r hi) := by rw [List.append_assoc]; rfl
theorem hds_node {h : Hd} {k v : Int} {l r : T2} {hi : Int} : hds l ++ [h] ++ hds r = hds (.node h k v l r hi) := by rw [List.append_assoc]; rfl
theorem pc_one (p : Int × Int) (cs : List Value) (h : cs = pc p) : ∀ y ∈ cs, y.oneCell' = true := by subst h; simp [pc, Value.oneCell']
theorem hc_one (p : Hd) (cs : List Value) (h : cs = hdC p) : ∀ y ∈ cs, y.oneCell' = true := by subst h; simp [hdC, Value.oneCell']
theorem prInfo : (Try.prog.info? 64).map (fun i => (i.zero, i.size, i.bytes)) = some (some (.agg #[.int .i64 0, .int .i64 0]), 2, 16) := by kernel_rfl
/-- What walk tells of a version. -/
def WalkOut (W : World) (t : T2) (e : Ending) (w' : World) : Prop :=
  ∃ pv hv, e = .returned (.tuple #[pv, hv, .int .i64 t.hi, .bool true]) ∧ OwnP w' W.heap.size pv (pairs t) ∧ OwnH w' W.heap.size hv (hds t) ∧ Below W.heap.size W w'
def WalkSays (w0 : World) (B m aa : Nat) (a : Ar N2) (t : T2) : Prop :=
  ∀ (W : World) (deep : Int), MapB w0 W B m aa a → Lies a t → Avl t → t.hi ≤ deep → deep ≤ 1000 → (pairs t).length ≤ 1000000 →
    Calls Try.prog 13 #[.pointer (some ⟨m, 0, none⟩), hdV t.h, .int .i64 deep] W (WalkOut W t)
theorem walk_leaf (w0 : World) (B m aa : Nat) (a : Ar N2) : WalkSays w0 B m aa a .leaf := by
  intro W deep HM _ _ _ _ _
  clear HM
  simp only [hdV, T.h, H0]
  go_enter Try.func13, Try.ntmps13
  go_wp2
  go_returns
  exact ⟨_, _, rfl, OwnRow.none_ _ _ _ _ _, OwnRow.none_ _ _ _ _ _, (by repeat (first | exact Below.refl _ _ | apply below_drew1 | apply below_alloc | apply pw_below_drewN))⟩
set_option maxHeartbeats 8000000 in
theorem walk_node (w0 : World) (B m aa : Nat) (a : Ar N2) (h : Hd) (k v : Int) (l r : T2) (hi : Int) (il : WalkSays w0 B m aa a l) (ir : WalkSays w0 B m aa a r) : WalkSays w0 B m aa a (.node h k v l r hi) := by
  intro W deep HM hl av hd hd2 hn
  obtain ⟨e, a1, a2, al, ar⟩ := av
  obtain ⟨hz, hg, ll, lr⟩ := hl
  have l0 := al.nonneg
  have r0 := ar.nonneg
  have m0 := mx_le l.hi r.hi
  have hne := hd_ne hz
  have hd' : hi ≤ deep := hd
  have hn' : (pairs l ++ (k, v) :: pairs r).length ≤ 1000000 := hn
  rw [List.length_append, List.length_cons] at hn'
  have hnl : (hds l).length = (pairs l).length := hds_len l
  have hnr : (hds r).length = (pairs r).length := hds_len r
  have HG := Lib.hid (fun (V : World) (hb : Below W.heap.size W V) => show Calls Try.prog 18 #[.pointer (some ⟨m, 0, none⟩), .agg #[.int .i64 h.s, .int .i64 h.g]] V fun e w' => e = .returned (.tuple #[.agg #[.int .i64 k, .int .i64 v, .int .i64 l.h.s, .int .i64 l.h.g, .int .i64 r.h.s, .int .i64 r.h.g, .int .i64 hi], .bool true]) ∧ Below V.heap.size V w' by obtain ⟨sv, fv, h'⟩ := (HM.below hb).mapAt; have := load_calls V m aa _ sv fv a h h'; rw [hg] at this; exact this)
  have HWL := Lib.hid (fun (V : World) (hb : Below W.heap.size W V) => il V (deep - 1) (HM.below hb) ll al (by omega) (by omega) (by omega))
  have HWR := Lib.hid (fun (V : World) (hb : Below W.heap.size W V) => ir V (deep - 1) (HM.below hb) lr ar (by omega) (by omega) (by omega))
  have hb1 : (hds l).length ≤ 1000000 := by omega
  have hb2 : (hds r).length ≤ 1000000 := by omega
  have hb3 : (pairs l).length + 1 + (pairs r).length ≤ 1000000 := by omega
  have hb4 : (hds l).length + 1 + (hds r).length ≤ 1000000 := by omega
  have hw1 : IntKind.i64.wrap (deep - 1) = deep - 1 := by rw [IntKind.wrap_i64]; omega
  have hpos : decide (deep ≤ 0) = false := decide_eq_false (by omega)
  have hpos2 : ¬ deep ≤ 0 := by omega
  have HE := Lib.hid e
  clear il ir HM hz hg ll lr al ar hn hd hnl hnr hn'
  rw [show (T.node h k v l r hi).h = h from rfl]
  simp only [hdV] at HWL HWR ⊢
  unfold WalkOut at HWL HWR
  by_cases hlr : l.hi < r.hi
  · have hmx : mx l.hi r.hi = r.hi := if_pos hlr
    have hsum : IntKind.i64.wrap (1 + r.hi) = 1 + r.hi := by rw [IntKind.wrap_i64]; omega
    have hq : (hi != 1 + r.hi) = false := by rw [bne_eq_false_iff_eq]; omega
    have hs1 : IntKind.i64.wrap (l.hi - r.hi) = l.hi - r.hi := by rw [IntKind.wrap_i64]; omega
    have hs2 : IntKind.i64.wrap (r.hi - l.hi) = r.hi - l.hi := by rw [IntKind.wrap_i64]; omega
    have hs3 : decide (1 < l.hi - r.hi) = false := decide_eq_false (by omega)
    have hs4 : decide (1 < r.hi - l.hi) = false := decide_eq_false (by omega)
    clear e hmx
    go_enter Try.func13, Try.ntmps13
    go_wp2_with (first
      | (go_at_call 18; go_loud (
          (with_reducible refine Calls.mono (HG.out _ (by repeat (first | exact Below.refl _ _ | apply below_drew1 | apply below_alloc | apply pw_below_drewN))) ?_);
          rintro e w1 ⟨rfl, hb⟩;
          have hx := blk_below (blk_new W (.cells #[.int .i64 h.s, .int .i64 h.g] 28 (0, 0))) hb;
          have HX1 := Lib.hid hx;
          have HB1 := Lib.hid ((below_alloc (Below.refl _ _) _).trans (hb.mono (by simp [World.size_alloc])) : Below W.heap.size W w1);
          clear hb hx))
      | (fail "no arm"))
    have HNV := Lib.hid (blk_new w1 (.cells #[.int .i64 k, .int .i64 v, .int .i64 l.h.s, .int .i64 l.h.g, .int .i64 r.h.s, .int .i64 r.h.g, .int .i64 hi] 44 (0, 0)))
    have HXV := Lib.hid (blk_below HX1.out (below_alloc (Below.refl _ _) (.cells #[.int .i64 k, .int .i64 v, .int .i64 l.h.s, .int .i64 l.h.g, .int .i64 r.h.s, .int .i64 r.h.g, .int .i64 hi] 44 (0, 0))))
    have HBV := Lib.hid (HB1.out.alloc (HB1.out.size) (.cells #[.int .i64 k, .int .i64 v, .int .i64 l.h.s, .int .i64 l.h.g, .int .i64 r.h.s, .int .i64 r.h.g, .int .i64 hi] 44 (0, 0)))
    generalize (w1.alloc (.cells #[.int .i64 k, .int .i64 v, .int .i64 l.h.s, .int .i64 l.h.g, .int .i64 r.h.s, .int .i64 r.h.g, .int .i64 hi] 44 (0, 0))) = V at *
    generalize hnb : w1.heap.size = nb at *
    clear hnb
    (with_reducible refine Calls.mono (HWL.out V HBV.out) ?_)
    rintro e2 w2 ⟨pa, ha, rfl, hop, hoh, hb2⟩
    obtain ⟨A1, c1, rfl, _⟩ := OwnRow.slice_ hop
    obtain ⟨A2, c2, rfl, _⟩ := OwnRow.slice_ hoh
    have HB2 := Lib.hid (HBV.out.trans (hb2.mono HBV.out.size))
    have HN2 := Lib.hid (blk_below HNV.out hb2)
    have HX2 := Lib.hid (blk_below HXV.out hb2)
    have HP2 := Lib.hid hop
    have HH2 := Lib.hid hoh
    have n4 := blk_cell HN2.out 4
    have n5 := blk_cell HN2.out 5
    simp at n4 n5
    clear hop hoh hb2
    generalize hlp : (pairs l).length = LP at *
    generalize hlh : (hds l).length = LH at *
    generalize hrp : (pairs r).length = RP at *
    generalize hrh : (hds r).length = RH at *
    have HRP := Lib.hid hrp
    have HRH := Lib.hid hrh
    have HLP := Lib.hid hlp
    have HLH := Lib.hid hlh
    clear hlp hlh hrp hrh
    go_wp2_with (first
      | (go_at_call 13; go_loud (
          (with_reducible refine Calls.mono (HWR.out _ HB2.out) ?_);
          rintro e3 w3 ⟨pb, hbv, rfl, hop, hoh, hb3⟩;
          obtain ⟨A3, c3, rfl, _⟩ := OwnRow.slice_ hop; rw [HRP.out] at hop;
          obtain ⟨A4, c4, rfl, _⟩ := OwnRow.slice_ hoh; rw [HRH.out] at hoh; simp only [HRP.out, HRH.out];
          have HB3 := Lib.hid (HB2.out.trans (hb3.mono HB2.out.size));
          have HN3 := Lib.hid (blk_below HN2.out hb3);
          have HX3 := Lib.hid (blk_below HX2.out hb3);
          have HP3 := Lib.hid (OwnRow.below HP2.out hb3);
          have HH3 := Lib.hid (OwnRow.below HH2.out hb3);
          have HPB := Lib.hid hop;
          have HHB := Lib.hid hoh;
          have HAP := Lib.hid (apart_of HP2.out hop (Nat.le_refl _)); have HAH := Lib.hid (apart_of HH2.out hoh (Nat.le_refl _)); have n0 := blk_cell HN3.out 0; have n1 := blk_cell HN3.out 1; have n6 := blk_cell HN3.out 6;
          have x0 := blk_cell HX3.out 0; have x1 := blk_cell HX3.out 1;
          simp at n0 n1 n6 x0 x1;
          clear hop hoh hb3))
      | (at_builtin; go_loud (
          (refine OwnRow.append (R := fun p cs => cs = pc p) (w0 := W) (W := w3) W.heap.size rfl (.tmp 84) (.tmp 90) 29 64 _ 2 16 rfl Try.underlying29 prInfo rfl (by decide) (by decide) _ (pairs l) (k, v) [.int .i64 k, .int .i64 v] (by rfl) (by simp [Act.eval]) rfl rfl (by simp [Value.oneCell']) (row_low HP3.out HBV.out.size) HB3.out HB3.out.size ?hlA ?_);
          (case hlA => rw [HLP.out]; omega);
          intro v4 w4 ho hb hg hat;
          obtain ⟨A5, c5, rfl, _⟩ := OwnRow.slice_ ho;
          have hz4 := hg.size;
          have HP4 := Lib.hid ho;
          have HB4 := Lib.hid hb;
          have HH4 := Lib.hid (OwnRow.other HH3.out hg (apart_type HH3.out HP3.out (by decide)));
          have HPB4 := Lib.hid (OwnRow.other HPB.out hg HAP.out);
          have HHB4 := Lib.hid (OwnRow.other HHB.out hg (apart_type HHB.out HP3.out (by decide)));
          have HAP4 := Lib.hid (apart_step HAP.out HPB.out hat);
          have HN4 := Lib.hid (grown_blk hg HP3.out HN3.out (by decide));
          have HX4 := Lib.hid (grown_blk hg HP3.out HX3.out (by decide));
          have x0 := blk_cell HX4.out 0; have x1 := blk_cell HX4.out 1;
          simp at x0 x1;
          generalize hL4 : (pairs l ++ [(k, v)]).length = L4 at *;
          have hL4b : L4 ≤ LP + 1 := (by rw [← hL4, List.length_append, List.length_singleton, HLP.out]; exact Nat.le_refl _); have HL4 := Lib.hid hL4;
          clear ho hb hg hat hL4))
      | (at_builtin; go_loud (
          (refine OwnRow.append (R := fun h cs => cs = hdC h) (w0 := W) (W := w4) W.heap.size rfl (.tmp 92) (.tmp 94) 32 28 _ 2 16 rfl Try.underlying32 hdInfo rfl (by decide) (by decide) _ (hds l) h [.int .i64 h.s, .int .i64 h.g] (by rfl) (by simp [Act.eval]) rfl rfl (by simp [Value.oneCell']) (row_low HH4.out HBV.out.size) HB4.out HB4.out.size ?hlB ?_);
          (case hlB => rw [HLH.out]; omega);
          intro v5 w5 ho hb hg hat;
          obtain ⟨A6, c6, rfl, _⟩ := OwnRow.slice_ ho;
          have hz5 := hg.size;
          have HH5 := Lib.hid ho;
          have HB5 := Lib.hid hb;
          have HP5 := Lib.hid (OwnRow.other HP4.out hg (apart_type HP4.out HH4.out (by decide)));
          have HPB5 := Lib.hid (OwnRow.other HPB4.out hg (apart_type HPB4.out HH4.out (by decide)));
          have HHB5 := Lib.hid (OwnRow.other HHB4.out hg HAH.out);
          have HAH5 := Lib.hid (apart_step HAH.out HHB4.out hat);
          have HN5 := Lib.hid (grown_blk hg HH4.out HN4.out (by decide));
          have nn6 := blk_cell HN5.out 6;
          simp at nn6;
          generalize hL5 : (hds l ++ [h]).length = L5 at *;
          have hL5b : L5 ≤ LH + 1 := (by rw [← hL5, List.length_append, List.length_singleton, HLH.out]; exact Nat.le_refl _); have HL5 := Lib.hid hL5;
          clear ho hb hg hat hL5))
      | (fail "no arm"))
    go_region_law (first
      | (go_loud (
          (refine OwnRow.rows_step (R := fun p cs => cs = pc p) (w0 := W) (W := w5.drew) W.heap.size rfl (.tmp 96) (.tmp 97) 29 64 _ 2 16 rfl Try.underlying29 prInfo rfl (by decide) (by decide) _ _ (pairs l ++ [(k, v)]) (pairs r) (by rfl) (by rfl) pc_one HP5.out (row_low HPB5.out HB2.out.size) (below_drew1 HB5.out) HB5.out.size ?hlC5 ?_);
          (case hlC5 => rw [HL4.out, HRP.out]; omega);
          intro v_6p w6p ho hb hg hat; have hg := grown_undrew hg;
          obtain ⟨A7, c7, rfl, _⟩ := OwnRow.slice_ ho;
          have HP6p := Lib.hid ho;
          have HB6p := Lib.hid hb;
          have HH6p := Lib.hid (OwnRow.other HH5.out hg (apart_type HH5.out HP5.out (by decide))); have HHB6p := Lib.hid (OwnRow.other HHB5.out hg (apart_type HHB5.out HP5.out (by decide)));
          have HN6p := Lib.hid (grown_blk hg HP5.out HN5.out (by decide));
          have m6_6p := blk_cell HN6p.out 6;
          simp at m6_6p;
          generalize hHL6 : (pairs l ++ [(k, v)] ++ pairs r).length = L6 at *;
          have HL6 := Lib.hid hHL6;
          clear ho hb hg hat hHL6))
      | (go_loud (
          (refine OwnRow.rows_step (R := fun h cs => cs = hdC h) (w0 := W) (W := w6p) W.heap.size rfl (.tmp 99) (.tmp 100) 32 28 _ 2 16 rfl Try.underlying32 hdInfo rfl (by decide) (by decide) _ _ (hds l ++ [h]) (hds r) (by rfl) (by rfl) hc_one HH6p.out (row_low HHB6p.out HB2.out.size) HB6p.out HB6p.out.size ?hlD6p ?_);
          (case hlD6p => rw [HL5.out, HRH.out]; omega);
          intro v_7 w7 ho hb hg hat;
          obtain ⟨A8, c8, rfl, _⟩ := OwnRow.slice_ ho;
          have HH7 := Lib.hid ho;
          have HB7 := Lib.hid hb;
          have HP7 := Lib.hid (OwnRow.other HP6p.out hg (apart_type HP6p.out HH6p.out (by decide)));
          have HN7 := Lib.hid (grown_blk hg HH6p.out HN6p.out (by decide));
          have m6_7 := blk_cell HN7.out 6;
          simp at m6_7;
          generalize hHL7 : (hds l ++ [h] ++ hds r).length = L7 at *;
          have HL7 := Lib.hid hHL7;
          clear ho hb hg hat hHL7))
      | (go_loud (
          (refine OwnRow.rows_step (R := fun h cs => cs = hdC h) (w0 := W) (W := w5.drew) W.heap.size rfl (.tmp 99) (.tmp 100) 32 28 _ 2 16 rfl Try.underlying32 hdInfo rfl (by decide) (by decide) _ _ (hds l ++ [h]) (hds r) (by rfl) (by rfl) hc_one HH5.out (row_low HHB5.out HB2.out.size) (below_drew1 HB5.out) HB5.out.size ?hlD5 ?_);
          (case hlD5 => rw [HL5.out, HRH.out]; omega);
          intro v_6h w6h ho hb hg hat; have hg := grown_undrew hg;
          obtain ⟨A8, c8, rfl, _⟩ := OwnRow.slice_ ho;
          have HH6h := Lib.hid ho;
          have HB6h := Lib.hid hb;
          have HP6h := Lib.hid (OwnRow.other HP5.out hg (apart_type HP5.out HH5.out (by decide))); have HPB6h := Lib.hid (OwnRow.other HPB5.out hg (apart_type HPB5.out HH5.out (by decide)));
          have HN6h := Lib.hid (grown_blk hg HH5.out HN5.out (by decide));
          have m6_6h := blk_cell HN6h.out 6;
          simp at m6_6h;
          generalize hHL7 : (hds l ++ [h] ++ hds r).length = L7 at *;
          have HL7 := Lib.hid hHL7;
          clear ho hb hg hat hHL7))
      | (go_loud (
          (refine OwnRow.rows_step (R := fun p cs => cs = pc p) (w0 := W) (W := w6h) W.heap.size rfl (.tmp 96) (.tmp 97) 29 64 _ 2 16 rfl Try.underlying29 prInfo rfl (by decide) (by decide) _ _ (pairs l ++ [(k, v)]) (pairs r) (by rfl) (by rfl) pc_one HP6h.out (row_low HPB6h.out HB2.out.size) HB6h.out HB6h.out.size ?hlC6h ?_);
          (case hlC6h => rw [HL4.out, HRP.out]; omega);
          intro v_7 w7 ho hb hg hat;
          obtain ⟨A7, c7, rfl, _⟩ := OwnRow.slice_ ho;
          have HP7 := Lib.hid ho;
          have HB7 := Lib.hid hb;
          have HH7 := Lib.hid (OwnRow.other HH6h.out hg (apart_type HH6h.out HP6h.out (by decide)));
          have HN7 := Lib.hid (grown_blk hg HP6h.out HN6h.out (by decide));
          have m6_7 := blk_cell HN7.out 6;
          simp at m6_7;
          generalize hHL6 : (pairs l ++ [(k, v)] ++ pairs r).length = L6 at *;
          have HL6 := Lib.hid hHL6;
          clear ho hb hg hat hHL6))
      | (fail "no arm"))
    all_goals
      go_wp2
      go_returns
      exact ⟨_, _, rfl, pairs_node ▸ HP7.out, hds_node ▸ HH7.out, HB7.out⟩
  · have hmx : mx l.hi r.hi = l.hi := if_neg hlr
    have hsum : IntKind.i64.wrap (1 + l.hi) = 1 + l.hi := by rw [IntKind.wrap_i64]; omega
    have hq : (hi != 1 + l.hi) = false := by rw [bne_eq_false_iff_eq]; omega
    have hs1 : IntKind.i64.wrap (l.hi - r.hi) = l.hi - r.hi := by rw [IntKind.wrap_i64]; omega
    have hs2 : IntKind.i64.wrap (r.hi - l.hi) = r.hi - l.hi := by rw [IntKind.wrap_i64]; omega
    have hs3 : decide (1 < l.hi - r.hi) = false := decide_eq_false (by omega)
    have hs4 : decide (1 < r.hi - l.hi) = false := decide_eq_false (by omega)
    clear e hmx
    go_enter Try.func13, Try.ntmps13
    go_wp2_with (first
      | (go_at_call 18; go_loud (
          (with_reducible refine Calls.mono (HG.out _ (by repeat (first | exact Below.refl _ _ | apply below_drew1 | apply below_alloc | apply pw_below_drewN))) ?_);
          rintro e w1 ⟨rfl, hb⟩;
          have hx := blk_below (blk_new W (.cells #[.int .i64 h.s, .int .i64 h.g] 28 (0, 0))) hb;
          have HX1 := Lib.hid hx;
          have HB1 := Lib.hid ((below_alloc (Below.refl _ _) _).trans (hb.mono (by simp [World.size_alloc])) : Below W.heap.size W w1);
          clear hb hx))
      | (fail "no arm"))
    have HNV := Lib.hid (blk_new w1 (.cells #[.int .i64 k, .int .i64 v, .int .i64 l.h.s, .int .i64 l.h.g, .int .i64 r.h.s, .int .i64 r.h.g, .int .i64 hi] 44 (0, 0)))
    have HXV := Lib.hid (blk_below HX1.out (below_alloc (Below.refl _ _) (.cells #[.int .i64 k, .int .i64 v, .int .i64 l.h.s, .int .i64 l.h.g, .int .i64 r.h.s, .int .i64 r.h.g, .int .i64 hi] 44 (0, 0))))
    have HBV := Lib.hid (HB1.out.alloc (HB1.out.size) (.cells #[.int .i64 k, .int .i64 v, .int .i64 l.h.s, .int .i64 l.h.g, .int .i64 r.h.s, .int .i64 r.h.g, .int .i64 hi] 44 (0, 0)))
    generalize (w1.alloc (.cells #[.int .i64 k, .int .i64 v, .int .i64 l.h.s, .int .i64 l.h.g, .int .i64 r.h.s, .int .i64 r.h.g, .int .i64 hi] 44 (0, 0))) = V at *
    generalize hnb : w1.heap.size = nb at *
    clear hnb
    (with_reducible refine Calls.mono (HWL.out V HBV.out) ?_)
    rintro e2 w2 ⟨pa, ha, rfl, hop, hoh, hb2⟩
    obtain ⟨A1, c1, rfl, _⟩ := OwnRow.slice_ hop
    obtain ⟨A2, c2, rfl, _⟩ := OwnRow.slice_ hoh
    have HB2 := Lib.hid (HBV.out.trans (hb2.mono HBV.out.size))
    have HN2 := Lib.hid (blk_below HNV.out hb2)
    have HX2 := Lib.hid (blk_below HXV.out hb2)
    have HP2 := Lib.hid hop
    have HH2 := Lib.hid hoh
    have n4 := blk_cell HN2.out 4
    have n5 := blk_cell HN2.out 5
    simp at n4 n5
    clear hop hoh hb2
    generalize hlp : (pairs l).length = LP at *
    generalize hlh : (hds l).length = LH at *
    generalize hrp : (pairs r).length = RP at *
    generalize hrh : (hds r).length = RH at *
    have HRP := Lib.hid hrp
    have HRH := Lib.hid hrh
    have HLP := Lib.hid hlp
    have HLH := Lib.hid hlh
    clear hlp hlh hrp hrh
    go_wp2_with (first
      | (go_at_call 13; go_loud (
          (with_reducible refine Calls.mono (HWR.out _ HB2.out) ?_);
          rintro e3 w3 ⟨pb, hbv, rfl, hop, hoh, hb3⟩;
          obtain ⟨A3, c3, rfl, _⟩ := OwnRow.slice_ hop; rw [HRP.out] at hop;
          obtain ⟨A4, c4, rfl, _⟩ := OwnRow.slice_ hoh; rw [HRH.out] at hoh; simp only [HRP.out, HRH.out];
          have HB3 := Lib.hid (HB2.out.trans (hb3.mono HB2.out.size));
          have HN3 := Lib.hid (blk_below HN2.out hb3);
          have HX3 := Lib.hid (blk_below HX2.out hb3);
          have HP3 := Lib.hid (OwnRow.below HP2.out hb3);
          have HH3 := Lib.hid (OwnRow.below HH2.out hb3);
          have HPB := Lib.hid hop;
          have HHB := Lib.hid hoh;
          have HAP := Lib.hid (apart_of HP2.out hop (Nat.le_refl _)); have HAH := Lib.hid (apart_of HH2.out hoh (Nat.le_refl _)); have n0 := blk_cell HN3.out 0; have n1 := blk_cell HN3.out 1; have n6 := blk_cell HN3.out 6;
          have x0 := blk_cell HX3.out 0; have x1 := blk_cell HX3.out 1;
          simp at n0 n1 n6 x0 x1;
          clear hop hoh hb3))
      | (at_builtin; go_loud (
          (refine OwnRow.append (R := fun p cs => cs = pc p) (w0 := W) (W := w3) W.heap.size rfl (.tmp 84) (.tmp 90) 29 64 _ 2 16 rfl Try.underlying29 prInfo rfl (by decide) (by decide) _ (pairs l) (k, v) [.int .i64 k, .int .i64 v] (by rfl) (by simp [Act.eval]) rfl rfl (by simp [Value.oneCell']) (row_low HP3.out HBV.out.size) HB3.out HB3.out.size ?hlA ?_);
          (case hlA => rw [HLP.out]; omega);
          intro v4 w4 ho hb hg hat;
          obtain ⟨A5, c5, rfl, _⟩ := OwnRow.slice_ ho;
          have hz4 := hg.size;
          have HP4 := Lib.hid ho;
          have HB4 := Lib.hid hb;
          have HH4 := Lib.hid (OwnRow.other HH3.out hg (apart_type HH3.out HP3.out (by decide)));
          have HPB4 := Lib.hid (OwnRow.other HPB.out hg HAP.out);
          have HHB4 := Lib.hid (OwnRow.other HHB.out hg (apart_type HHB.out HP3.out (by decide)));
          have HAP4 := Lib.hid (apart_step HAP.out HPB.out hat);
          have HN4 := Lib.hid (grown_blk hg HP3.out HN3.out (by decide));
          have HX4 := Lib.hid (grown_blk hg HP3.out HX3.out (by decide));
          have x0 := blk_cell HX4.out 0; have x1 := blk_cell HX4.out 1;
          simp at x0 x1;
          generalize hL4 : (pairs l ++ [(k, v)]).length = L4 at *;
          have hL4b : L4 ≤ LP + 1 := (by rw [← hL4, List.length_append, List.length_singleton, HLP.out]; exact Nat.le_refl _); have HL4 := Lib.hid hL4;
          clear ho hb hg hat hL4))
      | (at_builtin; go_loud (
          (refine OwnRow.append (R := fun h cs => cs = hdC h) (w0 := W) (W := w4) W.heap.size rfl (.tmp 92) (.tmp 94) 32 28 _ 2 16 rfl Try.underlying32 hdInfo rfl (by decide) (by decide) _ (hds l) h [.int .i64 h.s, .int .i64 h.g] (by rfl) (by simp [Act.eval]) rfl rfl (by simp [Value.oneCell']) (row_low HH4.out HBV.out.size) HB4.out HB4.out.size ?hlB ?_);
          (case hlB => rw [HLH.out]; omega);
          intro v5 w5 ho hb hg hat;
          obtain ⟨A6, c6, rfl, _⟩ := OwnRow.slice_ ho;
          have hz5 := hg.size;
          have HH5 := Lib.hid ho;
          have HB5 := Lib.hid hb;
          have HP5 := Lib.hid (OwnRow.other HP4.out hg (apart_type HP4.out HH4.out (by decide)));
          have HPB5 := Lib.hid (OwnRow.other HPB4.out hg (apart_type HPB4.out HH4.out (by decide)));
          have HHB5 := Lib.hid (OwnRow.other HHB4.out hg HAH.out);
          have HAH5 := Lib.hid (apart_step HAH.out HHB4.out hat);
          have HN5 := Lib.hid (grown_blk hg HH4.out HN4.out (by decide));
          have nn6 := blk_cell HN5.out 6;
          simp at nn6;
          generalize hL5 : (hds l ++ [h]).length = L5 at *;
          have hL5b : L5 ≤ LH + 1 := (by rw [← hL5, List.length_append, List.length_singleton, HLH.out]; exact Nat.le_refl _); have HL5 := Lib.hid hL5;
          clear ho hb hg hat hL5))
      | (fail "no arm"))
    go_region_law (first
      | (go_loud (
          (refine OwnRow.rows_step (R := fun p cs => cs = pc p) (w0 := W) (W := w5.drew) W.heap.size rfl (.tmp 96) (.tmp 97) 29 64 _ 2 16 rfl Try.underlying29 prInfo rfl (by decide) (by decide) _ _ (pairs l ++ [(k, v)]) (pairs r) (by rfl) (by rfl) pc_one HP5.out (row_low HPB5.out HB2.out.size) (below_drew1 HB5.out) HB5.out.size ?hlC5 ?_);
          (case hlC5 => rw [HL4.out, HRP.out]; omega);
          intro v_6p w6p ho hb hg hat; have hg := grown_undrew hg;
          obtain ⟨A7, c7, rfl, _⟩ := OwnRow.slice_ ho;
          have HP6p := Lib.hid ho;
          have HB6p := Lib.hid hb;
          have HH6p := Lib.hid (OwnRow.other HH5.out hg (apart_type HH5.out HP5.out (by decide))); have HHB6p := Lib.hid (OwnRow.other HHB5.out hg (apart_type HHB5.out HP5.out (by decide)));
          have HN6p := Lib.hid (grown_blk hg HP5.out HN5.out (by decide));
          have m6_6p := blk_cell HN6p.out 6;
          simp at m6_6p;
          generalize hHL6 : (pairs l ++ [(k, v)] ++ pairs r).length = L6 at *;
          have HL6 := Lib.hid hHL6;
          clear ho hb hg hat hHL6))
      | (go_loud (
          (refine OwnRow.rows_step (R := fun h cs => cs = hdC h) (w0 := W) (W := w6p) W.heap.size rfl (.tmp 99) (.tmp 100) 32 28 _ 2 16 rfl Try.underlying32 hdInfo rfl (by decide) (by decide) _ _ (hds l ++ [h]) (hds r) (by rfl) (by rfl) hc_one HH6p.out (row_low HHB6p.out HB2.out.size) HB6p.out HB6p.out.size ?hlD6p ?_);
          (case hlD6p => rw [HL5.out, HRH.out]; omega);
          intro v_7 w7 ho hb hg hat;
          obtain ⟨A8, c8, rfl, _⟩ := OwnRow.slice_ ho;
          have HH7 := Lib.hid ho;
          have HB7 := Lib.hid hb;
          have HP7 := Lib.hid (OwnRow.other HP6p.out hg (apart_type HP6p.out HH6p.out (by decide)));
          have HN7 := Lib.hid (grown_blk hg HH6p.out HN6p.out (by decide));
          have m6_7 := blk_cell HN7.out 6;
          simp at m6_7;
          generalize hHL7 : (hds l ++ [h] ++ hds r).length = L7 at *;
          have HL7 := Lib.hid hHL7;
          clear ho hb hg hat hHL7))
      | (go_loud (
          (refine OwnRow.rows_step (R := fun h cs => cs = hdC h) (w0 := W) (W := w5.drew) W.heap.size rfl (.tmp 99) (.tmp 100) 32 28 _ 2 16 rfl Try.underlying32 hdInfo rfl (by decide) (by decide) _ _ (hds l ++ [h]) (hds r) (by rfl) (by rfl) hc_one HH5.out (row_low HHB5.out HB2.out.size) (below_drew1 HB5.out) HB5.out.size ?hlD5 ?_);
          (case hlD5 => rw [HL5.out, HRH.out]; omega);
          intro v_6h w6h ho hb hg hat; have hg := grown_undrew hg;
          obtain ⟨A8, c8, rfl, _⟩ := OwnRow.slice_ ho;
          have HH6h := Lib.hid ho;
          have HB6h := Lib.hid hb;
          have HP6h := Lib.hid (OwnRow.other HP5.out hg (apart_type HP5.out HH5.out (by decide))); have HPB6h := Lib.hid (OwnRow.other HPB5.out hg (apart_type HPB5.out HH5.out (by decide)));
          have HN6h := Lib.hid (grown_blk hg HH5.out HN5.out (by decide));
          have m6_6h := blk_cell HN6h.out 6;
          simp at m6_6h;
          generalize hHL7 : (hds l ++ [h] ++ hds r).length = L7 at *;
          have HL7 := Lib.hid hHL7;
          clear ho hb hg hat hHL7))
      | (go_loud (
          (refine OwnRow.rows_step (R := fun p cs => cs = pc p) (w0 := W) (W := w6h) W.heap.size rfl (.tmp 96) (.tmp 97) 29 64 _ 2 16 rfl Try.underlying29 prInfo rfl (by decide) (by decide) _ _ (pairs l ++ [(k, v)]) (pairs r) (by rfl) (by rfl) pc_one HP6h.out (row_low HPB6h.out HB2.out.size) HB6h.out HB6h.out.size ?hlC6h ?_);
          (case hlC6h => rw [HL4.out, HRP.out]; omega);
          intro v_7 w7 ho hb hg hat;
          obtain ⟨A7, c7, rfl, _⟩ := OwnRow.slice_ ho;
          have HP7 := Lib.hid ho;
          have HB7 := Lib.hid hb;
          have HH7 := Lib.hid (OwnRow.other HH6h.out hg (apart_type HH6h.out HP6h.out (by decide)));
          have HN7 := Lib.hid (grown_blk hg HP6h.out HN6h.out (by decide));
          have m6_7 := blk_cell HN7.out 6;
          simp at m6_7;
          generalize hHL6 : (pairs l ++ [(k, v)] ++ pairs r).length = L6 at *;
          have HL6 := Lib.hid hHL6;
          clear ho hb hg hat hHL6))
      | (fail "no arm"))
    all_goals
      go_wp2
      go_returns
      exact ⟨_, _, rfl, pairs_node ▸ HP7.out, hds_node ▸ HH7.out, HB7.out⟩
theorem walk_calls (w0 : World) (B m aa : Nat) (a : Ar N2) : ∀ t : T2, WalkSays w0 B m aa a t
  | .leaf => walk_leaf w0 B m aa a
  | .node h k v l r hi => walk_node w0 B m aa a h k v l r hi (walk_calls w0 B m aa a l) (walk_calls w0 B m aa a r)
end Go.Proofs.Ytmhfbpdahfepgaa.Pm
/- Package arena's and pmap's New. -/
namespace Go.Proofs.Ytmhfbpdahfepgaa.Pm
open Go.RowKit Go.Proofs.YtmhfbpdahfepgaaW.PrintWords
theorem anew_ok (W : World) (n : Nat) (hn : n ≤ 1048576) : Calls Try.prog 29 #[.int .i64 n] W fun e w' => e = .returned (.pointer (some ⟨W.heap.size, 0, none⟩)) ∧ w' = W.alloc (.cells #[.int .i64 n, .slice none 0 0, .slice none 0 0] 84 (0, 0)) := by
  have h1 : decide ((n : Int) < 0) = false := decide_eq_false (by omega)
  have h2 : decide ((1048576 : Int) < (n : Int)) = false := decide_eq_false (by omega)
  have h3 : ¬ (n : Int) < 0 := by omega
  have h4 : ¬ (1048576 : Int) < (n : Int) := by omega
  go_enter Try.func29, Try.ntmps29
  go_wp2
  go_ret
  exact ⟨rfl, rfl⟩
theorem anew_no (W : World) (n : Int) (hn : n < 0 ∨ 1048576 < n) : Calls Try.prog 29 #[.int .i64 n] W fun e w' => e = .returned (.pointer none) ∧ Below W.heap.size W w' := by
  by_cases h3 : n < 0
  · have h1 : decide (n < 0) = true := decide_eq_true h3
    go_enter Try.func29, Try.ntmps29
    go_wp2
    go_ret
    exact ⟨rfl, (by repeat (first | exact Below.refl _ _ | apply below_drew1 | apply below_alloc | apply pw_below_drewN))⟩
  · have h4 : 1048576 < n := by omega
    have h1 : decide (n < 0) = false := decide_eq_false h3
    have h2 : decide (1048576 < n) = true := decide_eq_true h4
    go_enter Try.func29, Try.ntmps29
    go_wp2
    go_ret
    exact ⟨rfl, (by repeat (first | exact Below.refl _ _ | apply below_drew1 | apply below_alloc | apply pw_below_drewN))⟩
theorem eqFn (w : World) (f : Fn) : (Go.binOp .eql 26 (.func f #[] #[]) .nilFunc).run Try.prog w = .ok (.bool false) w := by
  first | rfl | kernel_rfl | (simp [Go.binOp, Op.equal]; trace_state; done)
theorem eqFnNil (w : World) : (Go.binOp .eql 26 .nilFunc .nilFunc).run Try.prog w = .ok (.bool true) w := by
  first | rfl | kernel_rfl | (simp [Go.binOp, Op.equal]; trace_state; done)
attribute [local go_sem high] eqFn eqFnNil
def arNew (n : Nat) : Ar N2 := ⟨n, [], []⟩
theorem arNew_ok (n : Nat) (hn : n ≤ 1048576) : ArOk 0 (arNew n) := ⟨⟨hn, Nat.zero_le _, Nat.zero_le _⟩, by simp [arNew], by simp [arNew], by simp [arNew]⟩
theorem arNew_room (n : Nat) : (arNew n).room = n := by simp [arNew, Ar.room]
set_option maxRecDepth 100000 in
theorem pnew_ok (w0 W : World) (B n : Nat) (hb : Below B w0 W) (hB : B ≤ W.heap.size) (hn : n ≤ 1048576) : Calls Try.prog 10 #[.int .i64 n, cmpF] W fun e w' => (∃ m aa, e = .returned (.pointer (some ⟨m, 0, none⟩)) ∧ MapB w0 w' B m aa (arNew n)) ∧ Below W.heap.size W w' := by
  have HA := Lib.hid (fun (V : World) => anew_ok V n hn)
  have HBB := Lib.hid hb
  clear hb hn
  simp only [cmpF]
  go_enter Try.func10, Try.ntmps10
  go_wp2_with (first
    | (go_at_call 29; go_loud ((with_reducible refine Calls.mono (HA.out _) ?_); rintro e w1 ⟨rfl, rfl⟩))
    | (fail "no arm"))
  go_ret
  have hb2 : Below W.heap.size W ((W.alloc (.cells #[.int .i64 n, .slice none 0 0, .slice none 0 0] 84 (0, 0))).alloc (.cells #[.pointer (some ⟨W.heap.size, 0, none⟩), .func (.func 11) #[] #[]] 70 (0, 0))) := (by repeat (first | exact Below.refl _ _ | apply below_drew1 | apply below_alloc | apply pw_below_drewN))
  exact ⟨⟨W.heap.size + 1, W.heap.size, by first | rfl | (rw [World.size_alloc]), ⟨_, _, ⟨HBB.out.trans (hb2.mono hB), Nat.le_trans hB hb2.size, hB, blk_alloc (blk_new _ _) _, OwnRow.none_ _ _ _ _ _, own_nil _ _ _ _⟩⟩, alloc_at (by rw [World.size_alloc]), Nat.le_succ_of_le hB⟩, hb2⟩
set_option maxRecDepth 100000 in
theorem pnew_no (W : World) (n : Int) (v : Value) (hv : v = cmpF ∨ v = .nilFunc) (hn : n < 0 ∨ 1048576 < n) : Calls Try.prog 10 #[.int .i64 n, v] W fun e w' => e = .returned (.pointer none) ∧ Below W.heap.size W w' := by
  have HA := Lib.hid (fun (V : World) => anew_no V n hn)
  clear hn
  rcases hv with rfl | rfl
  · simp only [cmpF]
    go_enter Try.func10, Try.ntmps10
    go_wp2_with (first
      | (go_at_call 29; go_loud ((with_reducible refine Calls.mono (HA.out _) ?_); rintro e w1 ⟨rfl, hb⟩; have HB1 := Lib.hid hb; clear hb))
      | (fail "no arm"))
    go_ret
    exact ⟨rfl, HB1.out⟩
  · go_enter Try.func10, Try.ntmps10
    go_wp2_with (first
      | (go_at_call 29; go_loud ((with_reducible refine Calls.mono (HA.out _) ?_); rintro e w1 ⟨rfl, hb⟩; have HB1 := Lib.hid hb; clear hb))
      | (fail "no arm"))
    go_ret
    exact ⟨rfl, HB1.out⟩
set_option maxRecDepth 100000 in
theorem pnew_nil (W : World) (n : Nat) (hn : n ≤ 1048576) : Calls Try.prog 10 #[.int .i64 n, .nilFunc] W fun e w' => e = .returned (.pointer none) ∧ Below W.heap.size W w' := by
  have HA := Lib.hid (fun (V : World) => anew_ok V n hn)
  clear hn
  go_enter Try.func10, Try.ntmps10
  go_wp2_with (first
    | (go_at_call 29; go_loud ((with_reducible refine Calls.mono (HA.out _) ?_); rintro e w1 ⟨rfl, rfl⟩))
    | (fail "no arm"))
  go_ret
  exact ⟨rfl, (by repeat (first | exact Below.refl _ _ | apply below_drew1 | apply below_alloc | apply pw_below_drewN))⟩
end Go.Proofs.Ytmhfbpdahfepgaa.Pm
/- Package arena and pmap's store: plain laws. What lies where, which handles are new, which are gone. -/
namespace Go.Proofs.Ytmhfbpdahfepgaa.Pm
open Go.RowKit Go.Proofs.YtmhfbpdahfepgaaW.PrintWords

theorem get_eq (a : Ar N2) (h : Hd) : a.get h = if hh : 1 ≤ h.s ∧ h.s ≤ a.slots.length then (if (a.slots[(h.s - 1).toNat]'(by omega)).used && (a.slots[(h.s - 1).toNat]'(by omega)).gen == h.g then some (a.slots[(h.s - 1).toNat]'(by omega)).x else none) else none := by
  unfold Ar.get Ar.slot?
  by_cases hh : 1 ≤ h.s ∧ h.s ≤ a.slots.length
  · rw [if_pos hh, dif_pos hh, List.getElem?_eq_getElem (by omega)]
    simp only [Option.bind_some]
    split <;> rfl
  · rw [if_neg hh, dif_neg hh]; rfl
theorem hd_ext {x y : Hd} (h1 : x.s = y.s) (h2 : x.g = y.g) : x = y := by obtain ⟨s, g⟩ := x; obtain ⟨s', g'⟩ := y; simp at h1 h2; rw [h1, h2]
theorem put_get {G : Nat} {a : Ar N2} {x : N2} (ok : ArOk G a) (h : Hd) : (a.put nd0 x).1.get h = if h = (a.put nd0 x).2 then some x else a.get h := by
  rcases List.eq_nil_or_concat a.free with hf | ⟨fs, i, hf⟩
  · rw [put_free_nil hf, get_eq, get_eq]
    simp only [List.length_append, List.length_singleton]
    by_cases hh : 1 ≤ h.s ∧ h.s ≤ ((a.slots.length + 1 : Nat) : Int)
    · rw [dif_pos hh]
      by_cases hl : h.s ≤ a.slots.length
      · rw [dif_pos ⟨hh.1, hl⟩]
        have hne : ¬ h = (⟨(a.slots.length : Int) + 1, 1⟩ : Hd) := fun e => by rw [e] at hl; dsimp only at hl; omega
        rw [if_neg hne]
        simp only [List.getElem_append_left (show (h.s - 1).toNat < a.slots.length by omega)]
      · rw [dif_neg (show ¬ (1 ≤ h.s ∧ h.s ≤ a.slots.length) by omega)]
        have e : (h.s - 1).toNat = a.slots.length := by omega
        simp only [e, List.getElem_concat_length, Bool.true_and, beq_iff_eq]
        by_cases hg : (1 : Int) = h.g
        · rw [if_pos hg, if_pos (hd_ext (by dsimp only; omega) hg.symm)]
        · rw [if_neg hg, if_neg (fun e => hg (by rw [e]))]
    · rw [dif_neg hh, if_neg (fun e => hh (by rw [e]; dsimp only; omega)), dif_neg (by omega)]
  · rw [List.concat_eq_append] at hf
    obtain ⟨i1, i2, i3⟩ := ok.free i (by rw [hf]; simp)
    rw [put_free_snoc hf, get_eq, get_eq]
    have hj : (i - 1).toNat < a.slots.length := by omega
    have hd : a.slots.getD (i - 1).toNat ⟨0, false, nd0⟩ = a.slots[(i - 1).toNat] := by rw [List.getD_eq_getElem?_getD, List.getElem?_eq_getElem hj]; rfl
    rw [hd] at i3 ⊢
    simp only [List.length_set]
    by_cases hh : 1 ≤ h.s ∧ h.s ≤ a.slots.length
    · rw [dif_pos hh, dif_pos hh]
      by_cases e : h.s = i
      · have e' : (h.s - 1).toNat = (i - 1).toNat := by omega
        simp only [e', List.getElem_set_self, i3, Bool.false_and, Bool.true_and, beq_iff_eq]
        by_cases hg : a.slots[(i - 1).toNat].gen + 1 = h.g
        · rw [if_pos hg, if_pos (hd_ext e hg.symm)]
        · rw [if_neg hg, if_neg (fun e => hg (by rw [e]))]
          rfl
      · have e' : (i - 1).toNat ≠ (h.s - 1).toNat := by omega
        simp only [List.getElem_set_ne e']
        have hne : ¬ h = (⟨i, a.slots[(i - 1).toNat].gen + 1⟩ : Hd) := fun e2 => e (by rw [e2])
        rw [if_neg hne]
    · rw [dif_neg hh, dif_neg hh, if_neg (fun e => hh (by rw [e]; exact ⟨i1, i2⟩))]
theorem put_fresh {G : Nat} {a : Ar N2} {x : N2} (ok : ArOk G a) : a.get (a.put nd0 x).2 = none := by
  rcases List.eq_nil_or_concat a.free with hf | ⟨fs, i, hf⟩
  · rw [put_free_nil hf, get_eq, dif_neg (by simp; omega)]
  · rw [List.concat_eq_append] at hf
    obtain ⟨i1, i2, i3⟩ := ok.free i (by rw [hf]; simp)
    rw [put_free_snoc hf, get_eq]
    have hj : (i - 1).toNat < a.slots.length := by omega
    have hd : a.slots.getD (i - 1).toNat ⟨0, false, nd0⟩ = a.slots[(i - 1).toNat] := by rw [List.getD_eq_getElem?_getD, List.getElem?_eq_getElem hj]; rfl
    rw [hd] at i3
    rw [dif_pos ⟨i1, i2⟩]
    simp only [i3, Bool.false_and]
    rfl
theorem del_get {a : Ar N2} {h : Hd} (hh : (a.get h).isSome = true) (h' : Hd) : (a.del nd0 h).get h' = if h' = h then none else a.get h' := by
  unfold Ar.get at hh
  rw [Option.isSome_map] at hh
  obtain ⟨s, hs⟩ := Option.isSome_iff_exists.mp hh
  obtain ⟨j, hj, e1, e2, e3, e4⟩ := slot_at hs
  rw [del_some hs, get_eq, get_eq]
  simp only [List.length_set]
  have ej : (h.s - 1).toNat = j := by omega
  by_cases hc : 1 ≤ h'.s ∧ h'.s ≤ a.slots.length
  · rw [dif_pos hc, dif_pos hc]
    by_cases e : h'.s = h.s
    · have e' : (h'.s - 1).toNat = (h.s - 1).toNat := by omega
      simp only [e', List.getElem_set_self, Bool.false_and]
      by_cases he : h' = h
      · rw [if_pos he]; rfl
      · have hn : ¬ (a.slots[(h.s - 1).toNat]'(by omega)).gen = h'.g := fun hg => he (hd_ext e (by rw [← hg]; simp only [ej, e2, e4]))
        have hb : ((a.slots[(h.s - 1).toNat]'(by omega)).used && (a.slots[(h.s - 1).toNat]'(by omega)).gen == h'.g) = false := by
          rw [Bool.and_eq_false_iff]; right; rw [beq_eq_false_iff_ne]; exact hn
        rw [hb, if_neg he]; rfl
    · have e' : (h.s - 1).toNat ≠ (h'.s - 1).toNat := by omega
      simp only [List.getElem_set_ne e']
      have hne : ¬ h' = h := fun e2 => e (by rw [e2])
      rw [if_neg hne]
  · rw [dif_neg hc, dif_neg hc]; split <;> rfl
/-! ### Nodes that lie there, and new ones -/
/-- A tree that is made: its new nodes have no handles, what is below an old one lies in the arena. -/
def Half (a : Ar N2) : T2 → Prop
  | .leaf => True
  | .node h k v l r hi => (h = H0 ∧ Half a l ∧ Half a r) ∨ Lies a (.node h k v l r hi)
theorem Half.of_lies {a : Ar N2} : ∀ {t : T2}, Lies a t → Half a t
  | .leaf, _ => trivial
  | .node .., h => .inr h
theorem Half.sub {a : Ar N2} {h : Hd} {k v : Int} {l r : T2} {hi : Int} (H : Half a (.node h k v l r hi)) : Half a l ∧ Half a r := by
  rcases H with ⟨_, h1, h2⟩ | ⟨_, _, h1, h2⟩
  · exact ⟨h1, h2⟩
  · exact ⟨Half.of_lies h1, Half.of_lies h2⟩
theorem Half.mk {a : Ar N2} {k v : Int} {l r : T2} (hl : Half a l) (hr : Half a r) : Half a (Pm.mk k v l r) := .inl ⟨rfl, hl, hr⟩
theorem bal_half {a : Ar N2} {oh : Hd} {ok ov : Int} {l r : T2} (hl : Half a l) (hr : Half a r) : Half a (bal oh ok ov l r).1 := by
  unfold bal
  split
  · cases l with
    | leaf => exact Half.mk hl hr
    | node lh lk lv ll lr lhi =>
      obtain ⟨h1, h2⟩ := hl.sub
      unfold fromL
      by_cases hc : lr.hi ≤ ll.hi
      · simp only [hc, if_true]; exact Half.mk h1 (Half.mk h2 hr)
      · simp only [hc, if_false]
        cases lr with
        | leaf => exact Half.mk hl hr
        | node mh mkk mv ml mr mhi => exact Half.mk (Half.mk h1 h2.sub.1) (Half.mk h2.sub.2 hr)
  · split
    · cases r with
      | leaf => exact Half.mk hl hr
      | node rh rk rv rl rr rhi =>
        obtain ⟨h1, h2⟩ := hr.sub
        unfold fromR
        by_cases hc : rl.hi ≤ rr.hi
        · simp only [hc, if_true]; exact Half.mk (Half.mk hl h1) h2
        · simp only [hc, if_false]
          cases rl with
          | leaf => exact Half.mk hl hr
          | node mh mkk mv ml mr mhi => exact Half.mk (Half.mk hl h1.sub.1) (Half.mk h1.sub.2 h2)
    · exact Half.mk hl hr
theorem tput_half {a : Ar N2} (cmp : Int → Int → Int) (k v : Int) : ∀ t : T2, Lies a t → Half a (tput cmp t k v).1
  | .leaf, _ => .inl ⟨rfl, trivial, trivial⟩
  | .node h k' v' l r hi, hl => by
    obtain ⟨_, _, h1, h2⟩ := hl
    rw [tput]
    split
    · exact bal_half (tput_half cmp k v l h1) (Half.of_lies h2)
    · split
      · exact bal_half (Half.of_lies h1) (tput_half cmp k v r h2)
      · exact .inl ⟨rfl, Half.of_lies h1, Half.of_lies h2⟩
theorem tleast_half {a : Ar N2} : ∀ (l : T2) (h : Hd) (k v : Int) (r : T2), Lies a l → Lies a r → Half a (tleast h k v l r).2.1
  | .leaf, h, k, v, r, _, h2 => Half.of_lies h2
  | .node h' k' v' l' r' hi', h, k, v, r, h1, h2 => by
    rw [tleast]
    exact bal_half (tleast_half l' h' k' v' r' h1.2.2.1 h1.2.2.2) (Half.of_lies h2)
theorem tdel_half {a : Ar N2} (cmp : Int → Int → Int) (k : Int) : ∀ t : T2, Lies a t → Half a (tdel cmp t k).1
  | .leaf, _ => trivial
  | .node h k' v' l r hi, hl => by
    obtain ⟨_, _, hl1, hl2⟩ := hl
    by_cases h1 : cmp k k' < 0
    · rw [tdel_lt h1]; exact bal_half (tdel_half cmp k l hl1) (Half.of_lies hl2)
    · by_cases h2 : 0 < cmp k k'
      · rw [tdel_gt h1 h2]; exact bal_half (Half.of_lies hl1) (tdel_half cmp k r hl2)
      · cases l with
        | leaf => rw [tdel_l h1 h2]; exact Half.of_lies hl2
        | node lh lk lv ll lr lhi =>
          cases r with
          | leaf => rw [tdel_r h1 h2]; exact Half.of_lies hl1
          | node rh rk rv rl rr rhi => rw [tdel_m h1 h2]; exact bal_half (Half.of_lies hl1) (tleast_half rl rh rk rv rr hl2.2.2.1 hl2.2.2.2)
/-! ### How many are new -/
theorem lies_fresh {a : Ar N2} : ∀ {t : T2}, Lies a t → fresh t = 0
  | .leaf, _ => rfl
  | .node h k v l r hi, H => by rw [fresh, if_neg H.1]
theorem half_fresh {a : Ar N2} {h : Hd} {k v : Int} {l r : T2} {hi : Int} (H : Half a (.node h k v l r hi)) : fresh l + fresh r ≤ fresh (.node h k v l r hi : T2) := by
  rcases H with ⟨rfl, _, _⟩ | ⟨_, _, h1, h2⟩
  · rw [fresh, if_pos rfl]; omega
  · rw [lies_fresh h1, lies_fresh h2]; omega
theorem fresh_mk {k v : Int} {l r : T2} : fresh (mk k v l r) = 1 + fresh l + fresh r := if_pos rfl
theorem bal_fresh {a : Ar N2} {oh : Hd} {ok ov : Int} {l r : T2} (hl : Half a l) (hr : Half a r) : fresh (bal oh ok ov l r).1 ≤ fresh l + fresh r + 3 := by
  unfold bal
  split
  · cases l with
    | leaf => show fresh (mk ok ov .leaf r) ≤ _; rw [fresh_mk]; omega
    | node lh lk lv ll lr lhi =>
      have f1 := half_fresh hl
      unfold fromL
      by_cases hc : lr.hi ≤ ll.hi
      · simp only [hc, if_true, fresh_mk]; omega
      · simp only [hc, if_false]
        cases lr with
        | leaf => simp only [fresh_mk]; omega
        | node mh mkk mv ml mr mhi =>
          have f2 := half_fresh hl.sub.2
          simp only [fresh_mk]; omega
  · split
    · cases r with
      | leaf => show fresh (mk ok ov l .leaf) ≤ _; rw [fresh_mk]; omega
      | node rh rk rv rl rr rhi =>
        have f1 := half_fresh hr
        unfold fromR
        by_cases hc : rl.hi ≤ rr.hi
        · simp only [hc, if_true, fresh_mk]; omega
        · simp only [hc, if_false]
          cases rl with
          | leaf => simp only [fresh_mk]; omega
          | node mh mkk mv ml mr mhi =>
            have f2 := half_fresh hr.sub.1
            simp only [fresh_mk]; omega
    · simp only [fresh_mk]; omega
theorem tput_fresh {a : Ar N2} (cmp : Int → Int → Int) (k v : Int) : ∀ t : T2, Lies a t → Avl t → (fresh (tput cmp t k v).1 : Int) ≤ 3 * t.hi + 1
  | .leaf, _, _ => by show ((1 + fresh (.leaf : T2) + fresh (.leaf : T2) : Nat) : Int) ≤ 3 * 0 + 1; simp [fresh]
  | .node h k' v' l r hi, hl, av => by
    obtain ⟨_, _, h1, h2⟩ := hl
    obtain ⟨e, a1, a2, al, ar⟩ := av
    have m0 := mx_le l.hi r.hi
    have l0 := al.nonneg
    have r0 := ar.nonneg
    have hh : (T.node h k' v' l r hi).hi = hi := rfl
    rw [hh, tput]
    split
    · have i := tput_fresh cmp k v l h1 al
      have b := bal_fresh (oh := h) (ok := k') (ov := v') (tput_half cmp k v l h1) (Half.of_lies h2)
      rw [lies_fresh h2] at b
      dsimp only; omega
    · split
      · have i := tput_fresh cmp k v r h2 ar
        have b := bal_fresh (oh := h) (ok := k') (ov := v') (Half.of_lies h1) (tput_half cmp k v r h2)
        rw [lies_fresh h1] at b
        dsimp only; omega
      · show ((if H0 = H0 then 1 + fresh l + fresh r else 0 : Nat) : Int) ≤ _
        rw [if_pos rfl, lies_fresh h1, lies_fresh h2]; omega
theorem tleast_fresh {a : Ar N2} : ∀ (l : T2) (h : Hd) (k v : Int) (r : T2) (hi : Int), Lies a l → Lies a r → Avl (.node h k v l r hi) → (fresh (tleast h k v l r).2.1 : Int) ≤ 3 * hi
  | .leaf, h, k, v, r, hi, _, h2, av => by
    have := av.pos
    rw [tleast]; dsimp only; rw [lies_fresh h2]; omega
  | .node h' k' v' l' r' hi', h, k, v, r, hi, h1, h2, av => by
    obtain ⟨e, a1, a2, al, ar⟩ := av
    have m0 := mx_le (T.node h' k' v' l' r' hi').hi r.hi
    have hh : (T.node h' k' v' l' r' hi').hi = hi' := rfl
    have i := tleast_fresh l' h' k' v' r' hi' h1.2.2.1 h1.2.2.2 al
    have b := bal_fresh (oh := h) (ok := k) (ov := v) (tleast_half l' h' k' v' r' h1.2.2.1 h1.2.2.2) (Half.of_lies h2)
    rw [lies_fresh h2] at b
    rw [tleast]
    dsimp only; omega
theorem tdel_fresh {a : Ar N2} (cmp : Int → Int → Int) (k : Int) : ∀ t : T2, Lies a t → Avl t → (fresh (tdel cmp t k).1 : Int) ≤ 3 * t.hi
  | .leaf, _, _ => by show ((fresh (.leaf : T2) : Nat) : Int) ≤ 3 * 0; simp [fresh]
  | .node h k' v' l r hi, hl, av => by
    obtain ⟨_, _, hl1, hl2⟩ := hl
    obtain ⟨e, a1, a2, al, ar⟩ := av
    have m0 := mx_le l.hi r.hi
    have l0 := al.nonneg
    have r0 := ar.nonneg
    have hh : (T.node h k' v' l r hi).hi = hi := rfl
    rw [hh]
    by_cases h1 : cmp k k' < 0
    · rw [tdel_lt h1]
      have i := tdel_fresh cmp k l hl1 al
      have b := bal_fresh (oh := h) (ok := k') (ov := v') (tdel_half cmp k l hl1) (Half.of_lies hl2)
      rw [lies_fresh hl2] at b
      dsimp only; omega
    · by_cases h2 : 0 < cmp k k'
      · rw [tdel_gt h1 h2]
        have i := tdel_fresh cmp k r hl2 ar
        have b := bal_fresh (oh := h) (ok := k') (ov := v') (Half.of_lies hl1) (tdel_half cmp k r hl2)
        rw [lies_fresh hl1] at b
        dsimp only; omega
      · cases l with
        | leaf => rw [tdel_l h1 h2]; dsimp only; rw [lies_fresh hl2]; omega
        | node lh lk lv ll lr lhi =>
          cases r with
          | leaf => rw [tdel_r h1 h2]; dsimp only; rw [lies_fresh hl1]; omega
          | node rh rk rv rl rr rhi =>
            rw [tdel_m h1 h2]
            have i := tleast_fresh rl rh rk rv rr rhi hl2.2.2.1 hl2.2.2.2 ar
            have b := bal_fresh (oh := (tleast rh rk rv rl rr).1.1) (ok := (tleast rh rk rv rl rr).1.2.1) (ov := (tleast rh rk rv rl rr).1.2.2) (Half.of_lies hl1) (tleast_half rl rh rk rv rr hl2.2.2.1 hl2.2.2.2)
            rw [lies_fresh hl1] at b
            have hr : (T.node rh rk rv rl rr rhi).hi = rhi := rfl
            dsimp only; omega
end Go.Proofs.Ytmhfbpdahfepgaa.Pm
/- Package pmap's versions: plain laws. What a store makes of a tree; versions. -/
namespace Go.Proofs.Ytmhfbpdahfepgaa.Pm
open Go.RowKit Go.Proofs.YtmhfbpdahfepgaaW.PrintWords

/-- The tree that is stored, with its handles. -/
def stT (a : Ar N2) : T2 → T2
  | .leaf => .leaf
  | .node h k v l r hi =>
    if h = H0 then .node ((store nd0 (store nd0 a l).1 r).1.put nd0 ⟨k, v, (store nd0 a l).2.1, (store nd0 (store nd0 a l).1 r).2.1, hi⟩).2 k v (stT a l) (stT (store nd0 a l).1 r) hi
    else .node h k v l r hi
theorem stT_new {a : Ar N2} {k v : Int} {l r : T2} {hi : Int} : stT a (.node H0 k v l r hi) = .node ((store nd0 (store nd0 a l).1 r).1.put nd0 ⟨k, v, (store nd0 a l).2.1, (store nd0 (store nd0 a l).1 r).2.1, hi⟩).2 k v (stT a l) (stT (store nd0 a l).1 r) hi := by
  rw [stT, if_pos rfl]
theorem stT_old {a : Ar N2} {h : Hd} {k v : Int} {l r : T2} {hi : Int} (hz : h ≠ H0) : stT a (.node h k v l r hi) = .node h k v l r hi := by
  rw [stT, if_neg hz]
theorem stT_hi (a : Ar N2) (t : T2) : (stT a t).hi = t.hi := by
  cases t with
  | leaf => rfl
  | node h k v l r hi =>
    by_cases hz : h = H0
    · subst hz; rw [stT_new]; rfl
    · rw [stT_old hz]
theorem stT_pairs : ∀ (t : T2) (a : Ar N2), pairs (stT a t) = pairs t
  | .leaf, _ => rfl
  | .node h k v l r hi, a => by
    by_cases hz : h = H0
    · subst hz; rw [stT_new, pairs, pairs, stT_pairs l, stT_pairs r]
    · rw [stT_old hz]
theorem stT_avl : ∀ (t : T2) (a : Ar N2), Avl t → Avl (stT a t)
  | .leaf, _, _ => trivial
  | .node h k v l r hi, a, av => by
    by_cases hz : h = H0
    · subst hz
      rw [stT_new]
      obtain ⟨e, a1, a2, al, ar⟩ := av
      refine ⟨?_, ?_, ?_, stT_avl l a al, stT_avl r _ ar⟩
      · rw [stT_hi, stT_hi]; exact e
      · rw [stT_hi, stT_hi]; exact a1
      · rw [stT_hi, stT_hi]; exact a2
    · rw [stT_old hz]; exact av
theorem lies_keep {a a' : Ar N2} (hk : ∀ h n, a.get h = some n → a'.get h = some n) : ∀ {t : T2}, Lies a t → Lies a' t
  | .leaf, _ => trivial
  | .node h k v l r hi, H => ⟨H.1, hk _ _ H.2.1, lies_keep hk H.2.2.1, lies_keep hk H.2.2.2⟩
theorem half_keep {a a' : Ar N2} (hk : ∀ h n, a.get h = some n → a'.get h = some n) : ∀ {t : T2}, Half a t → Half a' t
  | .leaf, _ => trivial
  | .node h k v l r hi, H => by
    rcases H with ⟨e, h1, h2⟩ | H
    · exact .inl ⟨e, half_keep hk h1, half_keep hk h2⟩
    · exact .inr (lies_keep hk H)
theorem lies_ohds {a : Ar N2} : ∀ {t : T2}, Lies a t → ohds t = hds t
  | .leaf, _ => rfl
  | .node h k v l r hi, H => by
    show ohds l ++ (gh h ++ ohds r) = hds l ++ h :: hds r
    rw [lies_ohds H.2.2.1, lies_ohds H.2.2.2, gh, if_neg H.1]; rfl
/-- What a store makes. -/
structure StOk (a : Ar N2) (t : T2) : Prop where
  old : ∀ h, h ∉ (store nd0 a t).2.2 → (store nd0 a t).1.get h = a.get h
  new : ∀ h ∈ (store nd0 a t).2.2, a.get h = none ∧ ((store nd0 a t).1.get h).isSome = true
  nodup : (store nd0 a t).2.2.Nodup
  lies : Lies (store nd0 a t).1 (stT a t)
  root : (stT a t).h = (store nd0 a t).2.1
  cnt : ∀ x, Pm.cnt x (hds (stT a t)) = Pm.cnt x (ohds t) + Pm.cnt x (store nd0 a t).2.2
theorem StOk.keep {a : Ar N2} {t : T2} (H : StOk a t) (h : Hd) (n : N2) (hg : a.get h = some n) : (store nd0 a t).1.get h = some n := by
  rw [H.old h (fun hm => by rw [(H.new h hm).1] at hg; cases hg), hg]
theorem cnt_cons (x h : Hd) (l : List Hd) : cnt x (h :: l) = cnt x [h] + cnt x l := by
  rw [show h :: l = [h] ++ l from rfl, cnt_append]
theorem store_stok : ∀ (t : T2) (a : Ar N2) (G : Nat), ArOk G a → Half a t → (fresh t : Int) ≤ a.room → StOk a t
  | .leaf, a, G, ok, _, _ => ⟨fun _ _ => rfl, fun _ h => by simp [store] at h, by simp [store], trivial, rfl, fun x => by simp [stT, store, hds, ohds, cnt]⟩
  | .node h k v l r hi, a, G, ok, hf, hr => by
    by_cases hz : h = H0
    · subst hz
      obtain ⟨hl, hrr⟩ := hf.sub
      rw [fresh, if_pos rfl] at hr
      have okl := store_ok l a G ok (by omega)
      have erl := store_room l a
      have sl := store_stok l a G ok hl (by omega)
      have hrr' := half_keep (fun h n hg => sl.keep h n hg) hrr
      have okr := store_ok r (store nd0 a l).1 _ okl (by omega)
      have err := store_room r (store nd0 a l).1
      have sr := store_stok r (store nd0 a l).1 _ okl hrr' (by omega)
      have pg := fun h' => put_get (x := ⟨k, v, (store nd0 a l).2.1, (store nd0 (store nd0 a l).1 r).2.1, hi⟩) okr h'
      have pf := put_fresh (x := ⟨k, v, (store nd0 a l).2.1, (store nd0 (store nd0 a l).1 r).2.1, hi⟩) okr
      have root1 := sl.root
      have root2 := sr.root
      have hkp : ∀ h n, (store nd0 (store nd0 a l).1 r).1.get h = some n → ((store nd0 (store nd0 a l).1 r).1.put nd0 ⟨k, v, (store nd0 a l).2.1, (store nd0 (store nd0 a l).1 r).2.1, hi⟩).1.get h = some n := fun h n hg => by
        rw [pg, if_neg (fun e => by rw [e, pf] at hg; cases hg), hg]
      have e1 : ∀ h, ((store nd0 (store nd0 a l).1 r).1.get h = none) → h ∉ (store nd0 a l).2.2 ∧ h ∉ (store nd0 (store nd0 a l).1 r).2.2 ∧ a.get h = none := fun h hn => by
        have n2 : h ∉ (store nd0 (store nd0 a l).1 r).2.2 := fun hm => by have := (sr.new h hm).2; rw [hn] at this; cases this
        have g2 : (store nd0 a l).1.get h = none := by rw [← sr.old h n2, hn]
        have n1 : h ∉ (store nd0 a l).2.2 := fun hm => by have := (sl.new h hm).2; rw [g2] at this; cases this
        exact ⟨n1, n2, by rw [← sl.old h n1, g2]⟩
      have hpf := e1 _ pf
      refine ⟨?_, ?_, ?_, ?_, ?_, ?_⟩
      · intro h hm
        rw [store_new] at hm ⊢
        dsimp only at hm ⊢
        simp only [List.mem_append, List.mem_singleton, not_or] at hm
        rw [pg, if_neg hm.2, sr.old h hm.1.2, sl.old h hm.1.1]
      · intro h hm
        rw [store_new] at hm ⊢
        dsimp only at hm ⊢
        simp only [List.mem_append, List.mem_singleton] at hm
        rcases hm with (hm | hm) | rfl
        · obtain ⟨x1, x2⟩ := sl.new h hm
          obtain ⟨n, hn⟩ := Option.isSome_iff_exists.mp x2
          exact ⟨x1, by rw [hkp h n (sr.keep h n hn)]; rfl⟩
        · obtain ⟨x1, x2⟩ := sr.new h hm
          obtain ⟨n, hn⟩ := Option.isSome_iff_exists.mp x2
          refine ⟨?_, by rw [hkp h n hn]; rfl⟩
          cases hg : a.get h with
          | none => rfl
          | some n => rw [sl.keep h n hg] at x1; cases x1
        · exact ⟨hpf.2.2, by rw [pg, if_pos rfl]; rfl⟩
      · rw [store_new]
        dsimp only
        refine List.nodup_append.mpr ⟨List.nodup_append.mpr ⟨sl.nodup, sr.nodup, fun x hx y hy e => ?_⟩, by simp, fun x hx y hy e => ?_⟩
        · subst e
          have h1 := (sl.new x hx).2
          rw [(sr.new x hy).1] at h1; cases h1
        · simp only [List.mem_singleton] at hy
          subst e
          rw [List.mem_append] at hx
          rcases hx with hx | hx
          · rw [hy] at hx; exact hpf.1 hx
          · rw [hy] at hx; exact hpf.2.1 hx
      · rw [stT_new, store_new]
        dsimp only
        refine ⟨fun e => ?_, ?_, lies_keep hkp (lies_keep (fun h n hg => sr.keep h n hg) sl.lies), lies_keep hkp sr.lies⟩
        · have := pg ((store nd0 (store nd0 a l).1 r).1.put nd0 ⟨k, v, (store nd0 a l).2.1, (store nd0 (store nd0 a l).1 r).2.1, hi⟩).2
          rw [if_pos rfl, e, get_H0] at this
          cases this
        · rw [pg, if_pos rfl, root1, root2]
      · rw [stT_new, store_new]; rfl
      · intro x
        rw [stT_new, store_new]
        dsimp only
        rw [hds, ohds, gh0]
        have c1 := sl.cnt x
        have c2 := sr.cnt x
        rw [cnt_append, cnt_cons, cnt_append, cnt_append, cnt_append, cnt_append, cnt_nil]
        omega
    · have hl : Lies a (.node h k v l r hi) := by
        rcases hf with ⟨e, _⟩ | hf
        · exact absurd e hz
        · exact hf
      refine ⟨?_, ?_, ?_, ?_, ?_, ?_⟩
      · intro x _; rw [store_old hz]
      · intro x hm; rw [store_old hz] at hm; cases hm
      · rw [store_old hz]; exact List.nodup_nil
      · rw [stT_old hz, store_old hz]; exact hl
      · rw [stT_old hz, store_old hz]; rfl
      · intro x; rw [stT_old hz, store_old hz, lies_ohds hl]; rfl
/-! ### Versions -/
/-- A version: its nodes lie in the arena, it stands, its keys are in order. -/
structure Ver (a : Ar N2) (t : T2) : Prop where
  lies : Lies a t
  avl : Avl t
  sorted : Sorted cmpI (pairs t)
theorem Ver.leaf (a : Ar N2) : Ver a .leaf := ⟨trivial, trivial, List.Pairwise.nil⟩
theorem Ver.keep {a a' : Ar N2} {t : T2} (H : Ver a t) (hk : ∀ h n, a.get h = some n → a'.get h = some n) : Ver a' t := ⟨lies_keep hk H.lies, H.avl, H.sorted⟩
/-- All nodes of a version are unlike. -/
theorem hds_get {a : Ar N2} : ∀ {t : T2}, Lies a t → ∀ x ∈ hds t, ∃ n, a.get x = some n ∧ (n.k, n.v) ∈ pairs t
  | .leaf, _, x, hx => by simp [hds] at hx
  | .node h k v l r hi, H, x, hx => by
    simp only [hds, List.mem_append, List.mem_cons] at hx
    rcases hx with hx | rfl | hx
    · obtain ⟨n, h1, h2⟩ := hds_get H.2.2.1 x hx
      exact ⟨n, h1, by simp [pairs, h2]⟩
    · exact ⟨_, H.2.1, by simp [pairs]⟩
    · obtain ⟨n, h1, h2⟩ := hds_get H.2.2.2 x hx
      exact ⟨n, h1, by simp [pairs, h2]⟩
theorem hds_nodup {a : Ar N2} : ∀ {t : T2}, Lies a t → Sorted cmpI (pairs t) → (hds t).Nodup
  | .leaf, _, _ => by simp [hds]
  | .node h k v l r hi, H, hs => by
    obtain ⟨s1, s2, s3, s4⟩ := sorted_split (p := (k, v)) (show Sorted cmpI (pairs l ++ (k, v) :: pairs r) from hs)
    have n1 := hds_nodup H.2.2.1 s1
    have n2 := hds_nodup H.2.2.2 s2
    have irr : ∀ a, ¬ cmpI a a < 0 := fun a => by rw [cmpI_ok.refl]; decide
    rw [hds]
    refine List.nodup_append.mpr ⟨n1, List.nodup_cons.mpr ⟨fun hx => ?_, n2⟩, fun x hx y hy e => ?_⟩
    · obtain ⟨n, h1, h2⟩ := hds_get H.2.2.2 h hx
      rw [H.2.1] at h1; injection h1 with h1; subst h1
      exact irr _ (s4 _ h2)
    · subst e
      obtain ⟨n, h1, h2⟩ := hds_get H.2.2.1 x hx
      simp only [List.mem_cons] at hy
      rcases hy with rfl | hy
      · rw [H.2.1] at h1; injection h1 with h1; subst h1
        exact irr _ (s3 _ h2)
      · obtain ⟨n', h1', h2'⟩ := hds_get H.2.2.2 x hy
        rw [h1] at h1'; injection h1' with h1'; subst h1'
        exact irr _ (cmpI_ok.trans _ _ _ (s3 _ h2) (s4 _ h2'))
/-- What an act makes of a version: a tree u (of tput, tdel), what is gone. -/
structure Acted (a : Ar N2) (t : T2) (u : T2) (gone : List Hd) : Prop where
  half : Half a u
  avl : Avl u
  sorted : Sorted cmpI (pairs u)
  cnt : ∀ x, Pm.cnt x (ohds u) + Pm.cnt x gone = Pm.cnt x (ohds t)
  fresh : (Pm.fresh u : Int) ≤ 3 * t.hi + 1
theorem acted_put {a : Ar N2} {t : T2} (H : Ver a t) (k v : Int) : Acted a t (tput cmpI t k v).1 (tput cmpI t k v).2 :=
  ⟨tput_half cmpI k v t H.lies, (tput_avl cmpI k v t H.avl).1, by rw [tput_pairs cmpI_ok k v t H.sorted]; exact lput_sorted cmpI_ok H.sorted, fun x => tput_cnt cmpI k v x t, tput_fresh cmpI k v t H.lies H.avl⟩
theorem acted_del {a : Ar N2} {t : T2} (H : Ver a t) (k : Int) : Acted a t (tdel cmpI t k).1 (tdel cmpI t k).2 :=
  ⟨tdel_half cmpI k t H.lies, (tdel_avl cmpI k t H.avl).1, by rw [tdel_pairs cmpI_ok k t H.sorted]; exact ldel_sorted H.sorted, fun x => tdel_cnt cmpI k x t, by have := tdel_fresh cmpI k t H.lies H.avl; omega⟩
structure ActOk (a : Ar N2) (t u : T2) (gone : List Hd) : Prop where
  st : StOk a u
  ver : Ver (store nd0 a u).1 (stT a u)
  pairs : Pm.pairs (stT a u) = Pm.pairs u
  cnt : ∀ x, Pm.cnt x (hds (stT a u)) + Pm.cnt x gone = Pm.cnt x (hds t) + Pm.cnt x (store nd0 a u).2.2
theorem Acted.ok {a : Ar N2} {t u : T2} {gone : List Hd} {G : Nat} (H : Acted a t u gone) (hl : Lies a t) (ok : ArOk G a) (hr : (Pm.fresh u : Int) ≤ a.room) : ActOk a t u gone := by
  have st := store_stok u a G ok H.half hr
  refine ⟨st, ⟨st.lies, stT_avl u a H.avl, by rw [stT_pairs]; exact H.sorted⟩, stT_pairs u a, fun x => ?_⟩
  have c1 := st.cnt x
  have c2 := H.cnt x
  rw [lies_ohds hl] at c2
  omega
end Go.Proofs.Ytmhfbpdahfepgaa.Pm
/- Package holtref11's With, Without, Same, In, Minus, Sets: plain laws of what the print says that they compute. -/
namespace Go.Proofs.Ytmhfbpdahfepgaa.Pm
open Go.RowKit Go.Proofs.YtmhfbpdahfepgaaW.PrintWords
def sp (p : Int × Int) : PPmapPlays.S64 := ⟨p.1, p.2⟩
def sh (h : Hd) : PPmapPlays.S28 := ⟨h.s, h.g⟩
theorem rdP (ps : List (Int × Int)) (i : Nat) (h : i < ps.length) : PPmapPlays.rd_T64 (ps.map sp) (i : Int) = sp ps[i] := by
  unfold PPmapPlays.rd_T64
  rw [Int.toNat_natCast, List.getD_eq_getElem?_getD, List.getElem?_eq_getElem (by simpa using h)]
  simp
theorem rdH (hs : List Hd) (i : Nat) (h : i < hs.length) : PPmapPlays.rd_T28 (hs.map sh) (i : Int) = sh hs[i] := by
  unfold PPmapPlays.rd_T28
  rw [Int.toNat_natCast, List.getD_eq_getElem?_getD, List.getElem?_eq_getElem (by simpa using h)]
  simp
theorem w64 (i : Nat) (h : i ≤ 9000000000000000000) : wrap64 ((i : Int) + 1) = ((i + 1 : Nat) : Int) := by
  rw [IntWalk.wrap64_in _ (by omega)]; omega
/-- What With puts behind what is there already. -/
def wsuf (k v : Int) (put : Bool) : List (Int × Int) → List (Int × Int)
  | [] => if put then [] else [(k, v)]
  | p :: l => (if k ≤ p.1 ∧ put = false then [(k, v)] else []) ++ ((if p.1 = k then [] else [p]) ++ wsuf k v (put || decide (k ≤ p.1)) l)
theorem wsuf_len (k v : Int) : ∀ (l : List (Int × Int)) (put : Bool), (wsuf k v put l).length ≤ l.length + 1
  | [], put => by cases put <;> simp [wsuf]
  | p :: l, put => by
    have i := wsuf_len k v l (put || decide (k ≤ p.1))
    have it := wsuf_lent k v l
    rw [wsuf]
    simp only [List.length_append, List.length_cons]
    by_cases h1 : k ≤ p.1
    · have : (put || decide (k ≤ p.1)) = true := by simp [h1]
      rw [this] at i ⊢
      split <;> split <;> simp only [List.length_nil, List.length_singleton] <;> omega
    · rw [if_neg (by simp [h1])]
      split <;> simp only [List.length_nil, List.length_singleton] <;> omega
where
  wsuf_lent (k v : Int) : ∀ (l : List (Int × Int)), (wsuf k v true l).length ≤ l.length
  | [] => by simp [wsuf]
  | p :: l => by
    have i := wsuf_lent k v l
    rw [wsuf]
    simp only [Bool.true_or, List.length_append, List.length_cons]
    rw [if_neg (by simp)]
    split <;> simp only [List.length_nil, List.length_singleton] <;> omega
theorem with_l0 (k v : Int) (ps : List (Int × Int)) : ∀ (n i : Nat) (out : List (Int × Int)) (put : Bool) (fuel : Nat), n = ps.length - i → i ≤ ps.length → 2 * n + 1 ≤ fuel → out.length + 2 * n ≤ 1000000 → ps.length ≤ 1000000 →
    PPmapPlays.holtref11_With.l0 fuel (ps.map sp) k v (out.map sp) put i = some ((out ++ wsuf k v put (ps.drop i)).map sp)
  | 0, i, out, put, fuel, hn, hi, hf, ho, hl => by
    obtain ⟨f, rfl⟩ : ∃ f, fuel = f + 1 := ⟨fuel - 1, by omega⟩
    have e : i = ps.length := by omega
    rw [PPmapPlays.holtref11_With.l0, if_neg (by simp; omega), List.drop_eq_nil_of_le (by omega)]
    cases put
    · rw [if_neg (by simp), if_pos (by simp; omega)]
      simp [wsuf, sp]
    · rw [if_pos rfl]; simp [wsuf]
  | n + 1, i, out, put, fuel, hn, hi, hf, ho, hl => by
    obtain ⟨f, rfl⟩ : ∃ f, fuel = f + 2 := ⟨fuel - 2, by omega⟩
    have hlt : i < ps.length := by omega
    have hw := w64 i (by omega)
    have hd : ps.drop i = ps[i] :: ps.drop (i + 1) := List.drop_eq_getElem_cons hlt
    have hr := rdP ps i hlt
    rw [hd, wsuf, PPmapPlays.holtref11_With.l0, if_pos (by simpa using hlt), if_pos (by omega)]
    have ih := fun (out : List (Int × Int)) (put : Bool) (h : out.length + 2 * n ≤ 1000000) => with_l0 k v ps n (i + 1) out put f (by omega) (by omega) (by omega) h hl
    have key : ∀ (out : List (Int × Int)) (b : Bool), out.length + 2 * n + 1 ≤ 1000000 → PPmapPlays.holtref11_With.j1 (f + 1) (ps.map sp) k v (out.map sp) b i false = some ((out ++ ((if ps[i].1 = k then [] else [ps[i]]) ++ wsuf k v b (ps.drop (i + 1)))).map sp) := by
      intro out b hlen
      rw [PPmapPlays.holtref11_With.j1, if_neg (by decide), if_pos (by omega), if_pos (by simpa using hlt), hr]
      by_cases h1 : ps[i].1 = k
      · rw [if_pos (show (sp ps[i]).f0 = k from h1), if_pos h1, hw, ih out b (by omega)]; simp
      · rw [if_neg (show ¬ (sp ps[i]).f0 = k from h1), if_neg h1, if_pos (by simp; omega), hw]
        have := ih (out ++ [ps[i]]) b (by simp; omega)
        rw [List.map_append] at this
        rw [show out.map sp ++ [(⟨(sp ps[i]).f0, (sp ps[i]).f1⟩ : PPmapPlays.S64)] = out.map sp ++ [ps[i]].map sp from rfl, this]
        simp
    have key2 : ∀ (out : List (Int × Int)), out.length + 2 * n + 2 ≤ 1000000 → k ≤ ps[i].1 → PPmapPlays.holtref11_With.j1 (f + 1) (ps.map sp) k v (out.map sp) false i true = some ((out ++ [(k, v)] ++ ((if ps[i].1 = k then [] else [ps[i]]) ++ wsuf k v true (ps.drop (i + 1)))).map sp) := by
      intro out hlen hk
      rw [PPmapPlays.holtref11_With.j1, if_pos rfl, if_pos (by simp; omega), Option.bind_some, if_pos (by omega), if_pos (by simpa using hlt), hr]
      have e : out.map sp ++ [(⟨k, v⟩ : PPmapPlays.S64)] = (out ++ [(k, v)]).map sp := by simp [sp]
      rw [e]
      by_cases h1 : ps[i].1 = k
      · rw [if_pos (show (sp ps[i]).f0 = k from h1), if_pos h1, hw, ih (out ++ [(k, v)]) true (by simp; omega)]; simp
      · rw [if_neg (show ¬ (sp ps[i]).f0 = k from h1), if_neg h1, if_pos (by simp; omega), hw]
        have := ih (out ++ [(k, v)] ++ [ps[i]]) true (by simp; omega)
        rw [List.map_append (l₁ := out ++ [(k, v)])] at this
        rw [show (out ++ [(k, v)]).map sp ++ [(⟨(sp ps[i]).f0, (sp ps[i]).f1⟩ : PPmapPlays.S64)] = (out ++ [(k, v)]).map sp ++ [ps[i]].map sp from rfl, this]
        simp
    rw [hr]
    by_cases h1 : k ≤ ps[i].1
    · rw [if_pos (show (sp ps[i]).f0 ≥ k from h1)]
      cases put
      · rw [show (!false) = true from rfl, key2 out (by omega) h1, show (if k ≤ ps[i].1 ∧ false = false then [(k, v)] else []) = [(k, v)] from if_pos ⟨h1, rfl⟩]
        simp [h1]
      · rw [show (!true) = false from rfl, key out true (by omega), show (if k ≤ ps[i].1 ∧ true = false then [(k, v)] else []) = [] from if_neg (by simp)]
        simp
    · rw [if_neg (show ¬ (sp ps[i]).f0 ≥ k from h1), key out put (by omega), show (if k ≤ ps[i].1 ∧ put = false then [(k, v)] else []) = [] from if_neg (by simp [h1])]
      simp [h1]
theorem cmpI_lt {a b : Int} : cmpI a b < 0 ↔ a < b := by unfold cmpI; split <;> (try split) <;> simp <;> omega
theorem cmpI_gt {a b : Int} : 0 < cmpI a b ↔ b < a := by unfold cmpI; split <;> (try split) <;> simp <;> omega
theorem cmpI_ne {a b : Int} : cmpI a b ≠ 0 ↔ a ≠ b := by unfold cmpI; split <;> (try split) <;> simp <;> omega
theorem wsuf_true {k v : Int} : ∀ {l : List (Int × Int)}, (∀ p ∈ l, k < p.1) → wsuf k v true l = l
  | [], _ => rfl
  | p :: l, h => by
    have h1 := h p (by simp)
    rw [wsuf, if_neg (by simp), if_neg (by omega), Bool.true_or, wsuf_true (fun q hq => h q (by simp [hq]))]; rfl
theorem wsuf_lput {k v : Int} : ∀ {l : List (Int × Int)}, Sorted cmpI l → wsuf k v false l = lput cmpI k v l
  | [], _ => rfl
  | p :: l, h => by
    obtain ⟨h1, h2⟩ := List.pairwise_cons.mp h
    rw [wsuf, lput, Bool.false_or]
    by_cases c1 : k < p.1
    · rw [if_pos ⟨by omega, rfl⟩, if_neg (by omega), if_pos (cmpI_lt.mpr c1), show decide (k ≤ p.1) = true from decide_eq_true (by omega), wsuf_true (fun q hq => by have := cmpI_lt.mp (h1 q hq); omega)]; rfl
    · rw [if_neg (show ¬ cmpI k p.1 < 0 by rw [cmpI_lt]; exact c1)]
      by_cases c2 : p.1 < k
      · rw [if_neg (by omega), if_neg (by omega), if_pos (cmpI_gt.mpr c2), show decide (k ≤ p.1) = false from decide_eq_false (by omega), wsuf_lput h2]; rfl
      · rw [if_pos ⟨by omega, rfl⟩, if_pos (by omega), if_neg (by rw [cmpI_gt]; exact c2), show decide (k ≤ p.1) = true from decide_eq_true (by omega), wsuf_true (fun q hq => by have := cmpI_lt.mp (h1 q hq); omega)]; rfl
theorem with_f (k v : Int) (ps : List (Int × Int)) (hs : Sorted cmpI ps) (hl : ps.length ≤ 1000) : PPmapPlays.holtref11_With.f 3000 (ps.map sp) k v = some ((lput cmpI k v ps).map sp) := by
  have := with_l0 k v ps ps.length 0 [] false 3000 rfl (Nat.zero_le _) (by omega) (by simp; omega) (by omega)
  rw [List.drop_zero, wsuf_lput hs, List.nil_append] at this
  exact this
theorem without_l0 (k : Int) (ps : List (Int × Int)) : ∀ (n i : Nat) (out : List (Int × Int)) (fuel : Nat), n = ps.length - i → i ≤ ps.length → n + 1 ≤ fuel → out.length + n ≤ 1000000 → ps.length ≤ 1000000 →
    PPmapPlays.holtref11_Without.l0 fuel (ps.map sp) k (out.map sp) i = some ((out ++ ldel cmpI k (ps.drop i)).map sp, decide (((out ++ ldel cmpI k (ps.drop i)).length : Int) < ps.length))
  | 0, i, out, fuel, hn, hi, hf, ho, hl => by
    obtain ⟨f, rfl⟩ : ∃ f, fuel = f + 1 := ⟨fuel - 1, by omega⟩
    rw [PPmapPlays.holtref11_Without.l0, if_neg (by simp; omega), List.drop_eq_nil_of_le (by omega)]
    simp [ldel]
  | n + 1, i, out, fuel, hn, hi, hf, ho, hl => by
    obtain ⟨f, rfl⟩ : ∃ f, fuel = f + 1 := ⟨fuel - 1, by omega⟩
    have hlt : i < ps.length := by omega
    have hw := w64 i (by omega)
    have hd : ps.drop i = ps[i] :: ps.drop (i + 1) := List.drop_eq_getElem_cons hlt
    have hr := rdP ps i hlt
    rw [hd, PPmapPlays.holtref11_Without.l0, if_pos (by simpa using hlt), if_pos (by omega), hr]
    by_cases h1 : ps[i].1 = k
    · rw [if_pos (show (sp ps[i]).f0 = k from h1), hw, without_l0 k ps n (i + 1) out f (by omega) (by omega) (by omega) (by omega) hl]
      rw [show ldel cmpI k (ps[i] :: ps.drop (i + 1)) = ldel cmpI k (ps.drop (i + 1)) by unfold ldel; rw [List.filter_cons, if_neg (by simp; rw [h1]; exact cmpI_ok.refl k)]]
    · rw [if_neg (show ¬ (sp ps[i]).f0 = k from h1), if_pos (by simp; omega), hw]
      have := without_l0 k ps n (i + 1) (out ++ [ps[i]]) f (by omega) (by omega) (by omega) (by simp; omega) hl
      rw [List.map_append] at this
      rw [show out.map sp ++ [(⟨(sp ps[i]).f0, (sp ps[i]).f1⟩ : PPmapPlays.S64)] = out.map sp ++ [ps[i]].map sp from rfl, this]
      rw [show ldel cmpI k (ps[i] :: ps.drop (i + 1)) = ps[i] :: ldel cmpI k (ps.drop (i + 1)) by unfold ldel; rw [List.filter_cons, if_pos (by simp; exact cmpI_ne.mpr (fun e => h1 e.symm))]]
      simp
theorem without_f (k : Int) (ps : List (Int × Int)) (hl : ps.length ≤ 1000) : PPmapPlays.holtref11_Without.f 3000 (ps.map sp) k = some ((ldel cmpI k ps).map sp, decide (((ldel cmpI k ps).length : Int) < ps.length)) := by
  have := without_l0 k ps ps.length 0 [] 3000 rfl (Nat.zero_le _) (by omega) (by simp; omega) (by omega)
  rw [List.drop_zero, List.nil_append] at this
  exact this
theorem same_l0 (ps : List (Int × Int)) : ∀ (n i : Nat) (fuel : Nat), n = ps.length - i → i ≤ ps.length → n + 1 ≤ fuel → ps.length ≤ 1000000 → PPmapPlays.holtref11_Same.l0 fuel (ps.map sp) (ps.map sp) i = some true
  | 0, i, fuel, hn, hi, hf, hl => by
    obtain ⟨f, rfl⟩ : ∃ f, fuel = f + 1 := ⟨fuel - 1, by omega⟩
    rw [PPmapPlays.holtref11_Same.l0, if_neg (by simp; omega)]
  | n + 1, i, fuel, hn, hi, hf, hl => by
    obtain ⟨f, rfl⟩ : ∃ f, fuel = f + 1 := ⟨fuel - 1, by omega⟩
    have hlt : i < ps.length := by omega
    rw [PPmapPlays.holtref11_Same.l0, if_pos (by simpa using hlt), if_pos (by omega), if_pos (by simpa using hlt), if_neg (by simp), w64 i (by omega)]
    exact same_l0 ps n (i + 1) f (by omega) (by omega) (by omega) hl
theorem same_f (ps : List (Int × Int)) (hl : ps.length ≤ 1000) : PPmapPlays.holtref11_Same.f 3000 (ps.map sp) (ps.map sp) = some true := by
  unfold PPmapPlays.holtref11_Same.f
  rw [if_pos rfl]
  exact same_l0 ps ps.length 0 3000 rfl (Nat.zero_le _) (by omega) (by omega)
theorem in_l0 (h : Hd) (hs : List Hd) : ∀ (n i : Nat) (fuel : Nat), n = hs.length - i → i ≤ hs.length → n + 1 ≤ fuel → hs.length ≤ 1000000 → PPmapPlays.holtref09_In.l0 fuel (hs.map sh) i h.s h.g = some (decide (h ∈ hs.drop i))
  | 0, i, fuel, hn, hi, hf, hl => by
    obtain ⟨f, rfl⟩ : ∃ f, fuel = f + 1 := ⟨fuel - 1, by omega⟩
    rw [PPmapPlays.holtref09_In.l0, if_neg (by simp; omega), List.drop_eq_nil_of_le (by omega)]; simp
  | n + 1, i, fuel, hn, hi, hf, hl => by
    obtain ⟨f, rfl⟩ : ∃ f, fuel = f + 1 := ⟨fuel - 1, by omega⟩
    have hlt : i < hs.length := by omega
    have hd : hs.drop i = hs[i] :: hs.drop (i + 1) := List.drop_eq_getElem_cons hlt
    have hr := rdH hs i hlt
    rw [hd, PPmapPlays.holtref09_In.l0, if_pos (by simpa using hlt), if_pos (by omega), hr]
    by_cases he : h = hs[i]
    · rw [if_pos (by rw [he]; simp [sh]), show decide (h ∈ hs[i] :: hs.drop (i + 1)) = true from decide_eq_true (by rw [he]; exact List.mem_cons_self)]
    · rw [if_neg (by simp only [Bool.and_eq_true, beq_iff_eq]; rintro ⟨a, b⟩; exact he (hd_ext a.symm b.symm)), w64 i (by omega), in_l0 h hs n (i + 1) f (by omega) (by omega) (by omega) hl]
      exact congrArg some (decide_eq_decide.mpr ⟨fun x => List.mem_cons_of_mem _ x, fun x => (List.mem_cons.mp x).resolve_left he⟩)
theorem in_f (h : Hd) (hs : List Hd) (fuel : Nat) (hf : hs.length + 1 ≤ fuel) (hl : hs.length ≤ 1000000) : PPmapPlays.holtref09_In.f fuel (hs.map sh) h.s h.g = some (decide (h ∈ hs)) :=
  (in_l0 h hs hs.length 0 fuel rfl (Nat.zero_le _) hf hl).trans (by rw [List.drop_zero])
def hminus (l r : List Hd) : List Hd := l.filter (fun h => !decide (h ∈ r))
theorem minus_l0 (hs rs : List Hd) (hr : rs.length ≤ 1000) : ∀ (n i : Nat) (out : List Hd) (fuel : Nat), n = hs.length - i → i ≤ hs.length → n + 1001 + 1 ≤ fuel → out.length + n ≤ 1000000 → hs.length ≤ 1000000 →
    PPmapPlays.holtref11_Minus.l0 fuel (hs.map sh) (rs.map sh) (out.map sh) i = some ((out ++ hminus (hs.drop i) rs).map sh)
  | 0, i, out, fuel, hn, hi, hf, ho, hl => by
    obtain ⟨f, rfl⟩ : ∃ f, fuel = f + 1 := ⟨fuel - 1, by omega⟩
    rw [PPmapPlays.holtref11_Minus.l0, if_neg (by simp; omega), List.drop_eq_nil_of_le (by omega)]; simp [hminus]
  | n + 1, i, out, fuel, hn, hi, hf, ho, hl => by
    obtain ⟨f, rfl⟩ : ∃ f, fuel = f + 1 := ⟨fuel - 1, by omega⟩
    have hlt : i < hs.length := by omega
    have hw := w64 i (by omega)
    have hd : hs.drop i = hs[i] :: hs.drop (i + 1) := List.drop_eq_getElem_cons hlt
    have hrd := rdH hs i hlt
    have hin := in_f hs[i] rs f (by omega) (by omega)
    rw [hd, PPmapPlays.holtref11_Minus.l0, if_pos (by simpa using hlt), if_pos (by omega), hrd, show (sh hs[i]).f0 = hs[i].s from rfl, show (sh hs[i]).f1 = hs[i].g from rfl, hin, Option.bind_some, hw]
    by_cases he : hs[i] ∈ rs
    · rw [if_pos (by simpa using he), minus_l0 hs rs hr n (i + 1) out f (by omega) (by omega) (by omega) (by omega) hl]
      rw [show hminus (hs[i] :: hs.drop (i + 1)) rs = hminus (hs.drop (i + 1)) rs by unfold hminus; rw [List.filter_cons, if_neg (by simp [he])]]
    · rw [if_neg (by simpa using he), if_pos (by simp; omega)]
      have := minus_l0 hs rs hr n (i + 1) (out ++ [hs[i]]) f (by omega) (by omega) (by omega) (by simp; omega) hl
      rw [List.map_append] at this
      rw [show out.map sh ++ [(⟨hs[i].s, hs[i].g⟩ : PPmapPlays.S28)] = out.map sh ++ [hs[i]].map sh from rfl, this]
      rw [show hminus (hs[i] :: hs.drop (i + 1)) rs = hs[i] :: hminus (hs.drop (i + 1)) rs by unfold hminus; rw [List.filter_cons, if_pos (by simp [he])]]
      simp
theorem minus_f (hs rs : List Hd) (hl : hs.length ≤ 1000) (hr : rs.length ≤ 1000) : PPmapPlays.holtref11_Minus.f 3000 (hs.map sh) (rs.map sh) = some ((hminus hs rs).map sh) := by
  have := minus_l0 hs rs hr hs.length 0 [] 3000 rfl (Nat.zero_le _) (by omega) (by simp; omega) (by omega)
  rw [List.drop_zero, List.nil_append] at this
  exact this
theorem sets_f (hs rs : List Hd) (hl : hs.length ≤ 1000) (hr : rs.length ≤ 1000) : PPmapPlays.holtref11_Sets.f 3000 (hs.map sh) (rs.map sh) = some (decide (hs.length = rs.length ∧ hminus hs rs = [] ∧ hminus rs hs = [])) := by
  unfold PPmapPlays.holtref11_Sets.f
  rw [minus_f hs rs hl hr, minus_f rs hs hr hl]
  simp only [List.length_map, Option.bind_some]
  by_cases h1 : hs.length = rs.length
  · rw [if_pos (by omega)]
    by_cases h2 : hminus hs rs = []
    · rw [if_pos (by rw [h2]; rfl)]
      by_cases h3 : hminus rs hs = []
      · simp [h1, h2, h3]
      · have : ((hminus rs hs).length : Int) ≠ 0 := by
          intro e; exact h3 (List.eq_nil_of_length_eq_zero (by omega))
        simp [h1, h2, h3]
    · rw [if_neg (by intro e; exact h2 (List.eq_nil_of_length_eq_zero (by omega)))]
      simp [h2]
  · rw [if_neg (by omega)]; simp [h1]
end Go.Proofs.Ytmhfbpdahfepgaa.Pm
/- Package pmap's versions: heights, what Get finds, one step (a put, a del) as a law tells it. -/
namespace Go.Proofs.Ytmhfbpdahfepgaa.Pm
open Go.RowKit Go.Proofs.YtmhfbpdahfepgaaW.PrintWords
/-- How many keys a version of a height has at least. -/
def minS : Nat → Nat
  | 0 => 0
  | 1 => 1
  | n + 2 => minS (n + 1) + minS n + 1
theorem minS_mono (n : Nat) : minS n ≤ minS (n + 1) := by
  cases n with
  | zero => decide
  | succ n => show minS (n + 1) ≤ minS (n + 1) + minS n + 1; omega
theorem minS_le {m n : Nat} (h : m ≤ n) : minS m ≤ minS n := by
  induction h with
  | refl => exact Nat.le_refl _
  | step _ ih => exact Nat.le_trans ih (minS_mono _)
theorem avl_min : ∀ {t : T2}, Avl t → minS t.hi.toNat ≤ (pairs t).length
  | .leaf, _ => Nat.le_refl _
  | .node h k v l r hi, av => by
    obtain ⟨e, a1, a2, al, ar⟩ := av
    have il := avl_min al
    have ir := avl_min ar
    have l0 := al.nonneg
    have r0 := ar.nonneg
    have m0 := mx_le l.hi r.hi
    have hh : (T.node h k v l r hi).hi = hi := rfl
    have hp : (pairs (T.node h k v l r hi)).length = (pairs l).length + 1 + (pairs r).length := by
      show (pairs l ++ (k, v) :: pairs r).length = _
      rw [List.length_append, List.length_cons]; omega
    rw [hh, hp]
    by_cases h0 : hi = 1
    · rw [h0]; show 1 ≤ _; omega
    · obtain ⟨n, hn⟩ : ∃ n : Nat, hi.toNat = n + 2 := ⟨hi.toNat - 2, by omega⟩
      rw [hn]
      show minS (n + 1) + minS n + 1 ≤ _
      rcases m0.2.2 with m | m
      · have x1 : l.hi.toNat = n + 1 := by omega
        have x2 : n ≤ r.hi.toNat := by omega
        have := minS_le x2
        rw [x1] at il; omega
      · have x1 : r.hi.toNat = n + 1 := by omega
        have x2 : n ≤ l.hi.toNat := by omega
        have := minS_le x2
        rw [x1] at ir; omega
theorem avl_hi {t : T2} (av : Avl t) (n : Nat) (h : (pairs t).length < minS (n + 1)) : t.hi ≤ n := by
  have h1 := avl_min av
  have h0 := av.nonneg
  by_cases hc : t.hi ≤ n
  · exact hc
  · have := minS_le (show n + 1 ≤ t.hi.toNat by omega)
    omega
theorem minS_9 : minS 9 = 88 := by decide
theorem hi_60 {t : T2} (av : Avl t) (h : (pairs t).length ≤ 60) : t.hi ≤ 8 := avl_hi av 8 (by rw [minS_9]; omega)
theorem find_app {α : Type} (p : α → Bool) (l r : List α) (x : α) (h1 : ∀ y ∈ l, p y = false) : (l ++ x :: r).find? p = if p x then some x else r.find? p := by
  rw [List.find?_append, List.find?_eq_none.mpr (by intro y hy; rw [h1 y hy]; decide), Option.none_or, List.find?_cons]
  split <;> rename_i h <;> simp [h]
theorem tget_pairs (k : Int) : ∀ t : T2, Sorted cmpI (pairs t) → tget cmpI t k = lhas cmpI k (pairs t)
  | .leaf, _ => rfl
  | .node h k' v' l r hi, hs => by
    obtain ⟨s1, s2, s3, s4⟩ := sorted_split (p := (k', v')) (show Sorted cmpI (pairs l ++ (k', v') :: pairs r) from hs)
    have il := tget_pairs k l s1
    have ir := tget_pairs k r s2
    rw [tget, pairs]
    unfold lhas at il ir ⊢
    have c3 : ∀ q ∈ pairs l, q.1 < k' := fun q hq => cmpI_lt.mp (s3 q hq)
    have c4 : ∀ q ∈ pairs r, k' < q.1 := fun q hq => cmpI_lt.mp (s4 q hq)
    have ne : ∀ a : Int, a ≠ k → decide (cmpI k a = 0) = false := fun a h => decide_eq_false (cmpI_ne.mpr (Ne.symm h))
    by_cases h1 : k < k'
    · rw [if_pos (cmpI_lt.mpr h1), il, List.find?_append]
      have : ((k', v') :: pairs r).find? (fun p => decide (cmpI k p.1 = 0)) = none := List.find?_eq_none.mpr (by
        intro y hy
        simp only [List.mem_cons] at hy
        rcases hy with rfl | hy
        · rw [ne _ (by dsimp only; omega)]; decide
        · have := c4 y hy
          rw [ne _ (by omega)]; decide)
      rw [this, Option.or_none]
    · by_cases h2 : k' < k
      · rw [if_neg (by rw [cmpI_lt]; exact h1), if_pos (cmpI_gt.mpr h2), ir, find_app _ _ _ _ (fun q hq => ne _ (by have := c3 q hq; omega)), if_neg (by rw [ne _ (by dsimp only; omega)]; decide)]
      · have e : k = k' := by omega
        rw [if_neg (by rw [cmpI_lt]; exact h1), if_neg (by rw [cmpI_gt]; exact h2), find_app _ _ _ _ (fun q hq => ne _ (by have := c3 q hq; omega)), if_pos (by rw [e]; simp [cmpI_ok.refl])]
        rfl
/-- One step: of version t a version t' is made. -/
structure Step (G : Nat) (a : Ar N2) (t : T2) (a' : Ar N2) (t' : T2) (made gone : List Hd) : Prop where
  ver : Ver a' t'
  keep : ∀ h n, a.get h = some n → a'.get h = some n
  cnt : ∀ x, Pm.cnt x (hds t') + Pm.cnt x gone = Pm.cnt x (hds t) + Pm.cnt x made
  new : ∀ h ∈ made, a.get h = none
  isNew : ∀ h ∈ made, (a'.get h).isSome = true
  nodup : made.Nodup
  room : a'.room = a.room - made.length
  most : a'.most = a.most
  ok : ArOk (G + 30) a'
  len : (made.length : Int) ≤ 3 * t.hi + 1
theorem ArOk.more {G G' : Nat} {a : Ar N2} (h : ArOk G a) (hg : G ≤ G') : ArOk G' a := ⟨h.small, h.free, h.nodup, fun s hs => by have := h.gen s hs; omega⟩
theorem put_most {a : Ar N2} {x : N2} : (a.put nd0 x).1.most = a.most := by
  rcases List.eq_nil_or_concat a.free with hf | ⟨fs, i, hf⟩
  · rw [put_free_nil hf]
  · rw [List.concat_eq_append] at hf; rw [put_free_snoc hf]
theorem store_most : ∀ (t : T2) (a : Ar N2), (store nd0 a t).1.most = a.most
  | .leaf, _ => rfl
  | .node h k v l r hi, a => by
    by_cases hz : h = H0
    · subst hz; rw [store_new]; dsimp only; rw [put_most, store_most r, store_most l]
    · rw [store_old hz]
theorem Acted.step {G : Nat} {a : Ar N2} {t u : T2} {gone : List Hd} (H : Acted a t u gone) (hv : Ver a t) (ok : ArOk G a) (hn : (pairs t).length ≤ 60) (hr : 3 * t.hi + 1 ≤ a.room) :
    Step G a t (store nd0 a u).1 (stT a u) (store nd0 a u).2.2 gone ∧ pairs (stT a u) = pairs u ∧ (store nd0 a u).2.1 = (stT a u).h ∧ Pm.fresh u ≤ 25 ∧ (Pm.fresh u : Int) ≤ 3 * t.hi + 1 := by
  have h8 := hi_60 hv.avl hn
  have hf := H.fresh
  have O := H.ok hv.lies ok (by omega)
  have hl := store_len u a
  refine ⟨⟨O.ver, fun h n hg => O.st.keep h n hg, O.cnt, fun h hm => (O.st.new h hm).1, fun h hm => (O.st.new h hm).2, O.st.nodup, by rw [store_room, hl], store_most u a, (store_ok u a G ok (by omega)).more (by omega), by rw [hl]; exact hf⟩, O.pairs, O.st.root.symm, by omega, hf⟩
/-- What Put, and Del, hand out, and leave. -/
def EditOut (w0 W : World) (B m aa : Nat) (G : Nat) (a : Ar N2) (t : T2) (ps : List (Int × Int)) (e : Ending) (w' : World) : Prop :=
  ∃ a' t' made gone mv gv, Step G a t a' t' made gone ∧ pairs t' = ps ∧ e = .returned (.tuple #[edV t'.h mv gv, .bool true]) ∧ FS w0 w' B m aa gv mv a' made gone ∧ Fr W w'
theorem mput_law (w0 W : World) (B m aa : Nat) (a : Ar N2) (t : T2) (k v : Int) (G : Nat) (HM : MapB w0 W B m aa a) (hv : Ver a t) (ok : ArOk G a) (hG : G ≤ 900000) (hn : (pairs t).length ≤ 60) (hr : 3 * t.hi + 1 ≤ a.room) :
    Calls Try.prog 16 #[.pointer (some ⟨m, 0, none⟩), hdV t.h, .int .i64 k, .int .i64 v] W (EditOut w0 W B m aa G a t (lput cmpI k v (pairs t))) := by
  have h8 := hi_60 hv.avl hn
  obtain ⟨S, hp, hrt, hfr, hfr2⟩ := (acted_put hv k v).step hv ok hn hr
  refine (mput_calls w0 W B m aa a t k v G HM hv.lies hv.avl (by omega) ok (by omega) (by omega)).mono ?_
  rintro e w' ⟨mv, gv, rfl, hfs, hF⟩
  exact ⟨_, _, _, _, mv, gv, S, by rw [hp, tput_pairs cmpI_ok k v t hv.sorted], by rw [hrt], hfs, hF⟩
theorem mdel_law (w0 W : World) (B m aa : Nat) (a : Ar N2) (t : T2) (k : Int) (G : Nat) (HM : MapB w0 W B m aa a) (hv : Ver a t) (ok : ArOk G a) (hG : G ≤ 900000) (hn : (pairs t).length ≤ 60) (hr : 3 * t.hi + 1 ≤ a.room) (hk : (lhas cmpI k (pairs t)).isSome = true) :
    Calls Try.prog 23 #[.pointer (some ⟨m, 0, none⟩), hdV t.h, .int .i64 k] W (EditOut w0 W B m aa G a t (ldel cmpI k (pairs t))) := by
  have h8 := hi_60 hv.avl hn
  obtain ⟨S, hp, hrt, hfr, hfr2⟩ := (acted_del hv k).step hv ok hn hr
  refine (mdel_calls w0 W B m aa a t k G HM hv.lies hv.avl (by omega) (by rw [tget_pairs k t hv.sorted]; exact hk) ok (by omega) (by omega)).mono ?_
  rintro e w' ⟨mv, gv, rfl, hfs, hF⟩
  exact ⟨_, _, _, _, mv, gv, S, by rw [hp, tdel_pairs cmpI_ok k t hv.sorted], by rw [hrt], hfs, hF⟩
theorem mdel_none (w0 W : World) (B m aa : Nat) (a : Ar N2) (t : T2) (k : Int) (HM : MapB w0 W B m aa a) (hv : Ver a t) (hk : (lhas cmpI k (pairs t)).isSome = false) :
    Calls Try.prog 23 #[.pointer (some ⟨m, 0, none⟩), hdV t.h, .int .i64 k] W (NoEdit W) :=
  mdel_no w0 W B m aa a t k HM hv.lies hv.avl (by rw [tget_pairs k t hv.sorted]; exact hk)
theorem mget_law (w0 W : World) (B m aa : Nat) (a : Ar N2) (t : T2) (k : Int) (HM : MapB w0 W B m aa a) (hv : Ver a t) :
    Calls Try.prog 26 #[.pointer (some ⟨m, 0, none⟩), hdV t.h, .int .i64 k] W fun e w' => e = .returned (.tuple #[.int .i64 ((lhas cmpI k (pairs t)).getD 0), .bool (lhas cmpI k (pairs t)).isSome]) ∧ Below W.heap.size W w' := by
  rw [← tget_pairs k t hv.sorted]
  exact mget_calls w0 W B m aa a t k HM hv.lies hv.avl
theorem walk_law (w0 W : World) (B m aa : Nat) (a : Ar N2) (t : T2) (HM : MapB w0 W B m aa a) (hv : Ver a t) (hn : (pairs t).length ≤ 60) :
    Calls Try.prog 13 #[.pointer (some ⟨m, 0, none⟩), hdV t.h, .int .i64 40] W (WalkOut W t) :=
  walk_calls w0 B m aa a t W 40 HM hv.lies hv.avl (by have := hi_60 hv.avl hn; omega) (by omega) (by omega)
end Go.Proofs.Ytmhfbpdahfepgaa.Pm
