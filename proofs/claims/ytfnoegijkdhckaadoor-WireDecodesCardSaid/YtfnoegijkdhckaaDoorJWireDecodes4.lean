/-
  The bytes of an operation: the reference; The reference's Encode; The chapter's example (batches): what awake answers; The calls of the reference's Reader; The reference's Take, Decode and Cut; The walk of the law WireEncodes; The reference's Decode: what it comes to; The reference's Decode and Cut of any bytes; Opening arguments of plain data, whatever their make: what a reading's cells say, kind by kind; A small operation as an argument
-/
import Derived.Test.YtfnoegijkdhckaaDoorJWireDecodes3
import Derived.Test.YtfnoegijkdhckaaDoorWWords
import Derived.ProofKit
import Derived.OpenShut
import Derived.ChangeArms
/- The bytes of an operation: the reference. -/
namespace Go.Proofs.YtfnoegijkdhckaaDoor
open Go.RowKit Go.Proofs.YtfnoegijkdhckaaDoorW.PrintWords

theorem below_stepB {B : Nat} {w W w' : World} (h : Below B w W) (hB : B ≤ w.heap.size) (k : Below W.heap.size W w') : Below B w w' := below_then h (Nat.le_trans hB h.size) k

set_option maxHeartbeats 2000000 in
theorem refput_calls (o : OpR) (w : World) (hs : o.name.size ≤ 9223372036854775807) : Calls Tryd.prog 29 #[opV o] w fun e w' => ∃ v, e = .returned v ∧ OwnB w' w.heap.size v (opForm o) ∧ Below w.heap.size w w' := by
  by_cases hR : opRight o = true
  · have hc := fun w => refright_calls o w hs
    rw [hR] at hc
    simp only [opV] at hc ⊢
    have HC := Lib.hid hc
    have HF := Lib.hid (show opForm o = pre o 4 ++ textForm o.name by rw [opForm, if_pos hR])
    have HL : Hid (o.name.size ≤ 20) := Lib.hid (by
      have : nameB o.name.data.toList = true := by
        unfold opRight at hR
        simp only [Bool.and_eq_true] at hR
        exact hR.2.2.2
      unfold nameB at this
      simp only [Bool.and_eq_true, decide_eq_true_eq] at this
      have h2 : o.name.data.toList.length = o.name.size := by rw [Array.length_toList]; rfl
      omega)
    have hf1 := form_length o.n
    have hf2 := form_length o.r
    have hf3 := form_length o.node
    have hf4 := form_length o.par
    have hf5 : (textForm o.name).length ≤ 25 := by
      have h1 := HL.out
      have h2 := textForm_length o.name (by omega)
      have h3 := form_length o.name.size
      omega
    have L1 := Lib.hid (show (form o.n).length + (form o.r).length ≤ 140737488355328 by omega)
    have L2 := Lib.hid (show (form o.n ++ form o.r).length + (form o.node).length ≤ 140737488355328 by rw [List.length_append]; omega)
    have L3 := Lib.hid (show (form o.n ++ form o.r ++ form o.node).length + (form o.par).length ≤ 140737488355328 by rw [List.length_append, List.length_append]; omega)
    have L4 := Lib.hid (show (pre o 4).length + (textForm o.name).length ≤ 140737488355328 by rw [pre_four]; simp only [List.length_append]; omega)
    have HP := Lib.hid (pre_four o)
    clear hc hR hf1 hf2 hf3 hf4 hf5
    have HN := Lib.hid hs
    clear hs
    go_enter Tryd.func29, Tryd.ntmps29
    go_wp2_with (go_at_call 28; refine (HC.out _).mono ?_; rintro e w1 ⟨rfl, hb⟩; have c0 : w1.cell? ⟨w.heap.size, 0, none⟩ = some (.int .i64 o.n) := pw_cell_below hb (by go_cell); have c1 : w1.cell? ⟨w.heap.size, 1, none⟩ = some (.int .i64 o.r) := pw_cell_below hb (by go_cell); have c2 : w1.cell? ⟨w.heap.size, 2, none⟩ = some (.int .i64 o.node) := pw_cell_below hb (by go_cell); have c3 : w1.cell? ⟨w.heap.size, 3, none⟩ = some (.int .i64 o.par) := pw_cell_below hb (by go_cell); have c4 : w1.cell? ⟨w.heap.size, 4, none⟩ = some (.string o.name) := pw_cell_below hb (by go_cell); have hlt := World.block_lt_of_cell? w1 _ c4; have HB0 := Lib.hid (below_step (below_alloc (Below.refl w.heap.size w) _) hb); clear hb)
    have C0 := Lib.hid c0
    have C1 := Lib.hid c1
    have C2 := Lib.hid c2
    have C3 := Lib.hid c3
    have C4 := Lib.hid c4
    have HLT := Lib.hid (show w.heap.size + 1 ≤ w1.heap.size from hlt)
    have HB := Lib.hid (Below.refl (w.heap.size + 1) w1)
    clear c0 c1 c2 c3 c4 hlt
    go_region_held3 (fun w' => w'.cell? ⟨w.heap.size, 0, none⟩ = some (.int .i64 o.n) ∧ w'.cell? ⟨w.heap.size, 1, none⟩ = some (.int .i64 o.r)) (exact ⟨(Below.cell (by repeat (first | (with_reducible exact HB.out) | apply below_alloc | apply pw_below_drewN | apply below_drew1 | exact HB.out)) (Nat.lt_succ_self _)).trans C0.out, (Below.cell (by repeat (first | (with_reducible exact HB.out) | apply below_alloc | apply pw_below_drewN | apply below_drew1 | exact HB.out)) (Nat.lt_succ_self _)).trans C1.out⟩)
      (first
        | (go_at_call 27; (with_reducible refine (rwrite_calls _ o.n).mono ?_); rintro e w2 ⟨v2, rfl, ho, hb⟩; have HO2 := Lib.hid (ho.le (Nat.le_trans HLT.out (Below.size (show Below (w.heap.size + 1) w1 _ from (by repeat (first | (with_reducible exact HB.out) | apply below_alloc | apply pw_below_drewN | apply below_drew1 | exact HB.out)))))); have HBn := Lib.hid (below_stepB (by repeat (first | (with_reducible exact HB.out) | apply below_alloc | apply pw_below_drewN | apply below_drew1 | exact HB.out)) HLT.out hb); clear hb HB ho; have HB := HBn; clear HBn)
        | (go_at_call 27; (with_reducible refine (rwrite_calls _ o.r).mono ?_); rintro e w3 ⟨v3, rfl, ho, hb⟩; obtain ⟨A3, e3, rfl, hr3⟩ := own_reads ho; have HR3 := Lib.hid hr3; have HO3 := Lib.hid (HO2.out.now hb rfl); have HBn := Lib.hid (below_stepB (by repeat (first | (with_reducible exact HB.out) | apply below_alloc | apply pw_below_drewN | apply below_drew1 | exact HB.out)) HLT.out hb); clear hb HB ho hr3; have HB := HBn; clear HBn)
        | ((refine appB_step (w0 := w1) (w.heap.size + 1) (by rfl) (.tmp 12) (.tmp 16) (by rfl) v2 (form o.n) (form o.r) A3 (form o.r).length e3 (by rfl) (by rfl) HO3.out HR3.out HB.out (Nat.le_trans HLT.out (Below.size HB.out)) L1.out ?_); intro v4 w4 ho hb hg hat; have HO4 := Lib.hid ho; clear HB ho hg hat HO2 HO3; have HB := Lib.hid hb; clear hb)
        | (fail "no arm"))
    go_wp2
    go_region_held3 (fun w' => w'.cell? ⟨w.heap.size, 2, none⟩ = some (.int .i64 o.node) ∧ w'.cell? ⟨w.heap.size, 3, none⟩ = some (.int .i64 o.par)) (exact ⟨(Below.cell (by repeat (first | (with_reducible exact HB.out) | apply below_alloc | apply pw_below_drewN | apply below_drew1 | exact HB.out)) (Nat.lt_succ_self _)).trans C2.out, (Below.cell (by repeat (first | (with_reducible exact HB.out) | apply below_alloc | apply pw_below_drewN | apply below_drew1 | exact HB.out)) (Nat.lt_succ_self _)).trans C3.out⟩)
      (first
        | (go_at_call 27; (with_reducible refine (rwrite_calls _ o.node).mono ?_); rintro e w5 ⟨v5, rfl, ho, hb⟩; obtain ⟨A5, e5, rfl, hr3⟩ := own_reads ho; have HR5 := Lib.hid hr3; have HO5 := Lib.hid (HO4.out.now hb rfl); have HBn := Lib.hid (below_stepB (by repeat (first | (with_reducible exact HB.out) | apply below_alloc | apply pw_below_drewN | apply below_drew1 | exact HB.out)) HLT.out hb); clear hb HB ho hr3; have HB := HBn; clear HBn)
        | ((refine appB_step (w0 := w1) (w.heap.size + 1) (by rfl) (.tmp 18) (.tmp 21) (by rfl) v4 (form o.n ++ form o.r) (form o.node) A5 (form o.node).length e5 (by rfl) (by rfl) HO5.out HR5.out HB.out (Nat.le_trans HLT.out (Below.size HB.out)) L2.out ?_); intro v6 w6 ho hb hg hat; have HO6 := Lib.hid ho; clear HB ho hg hat; have HB := Lib.hid hb; clear hb)
        | (go_at_call 27; (with_reducible refine (rwrite_calls _ o.par).mono ?_); rintro e w7 ⟨v7, rfl, ho, hb⟩; obtain ⟨A7, e7, rfl, hr3⟩ := own_reads ho; have HR7 := Lib.hid hr3; have HO7 := Lib.hid (HO6.out.now hb rfl); have HBn := Lib.hid (below_stepB (by repeat (first | (with_reducible exact HB.out) | apply below_alloc | apply pw_below_drewN | apply below_drew1 | exact HB.out)) HLT.out hb); clear hb HB ho hr3; have HB := HBn; clear HBn)
        | ((refine appB_step (w0 := w1) (w.heap.size + 1) (by rfl) (.tmp 22) (.tmp 25) (by rfl) v6 (form o.n ++ form o.r ++ form o.node) (form o.par) A7 (form o.par).length e7 (by rfl) (by rfl) HO7.out HR7.out HB.out (Nat.le_trans HLT.out (Below.size HB.out)) L3.out ?_); intro v8 w8 ho hb hg hat; have HO8 := Lib.hid ho; clear HB ho hg hat; have HB := Lib.hid hb; clear hb)
        | (fail "no arm"))
    have c4 := (Below.cell HB.out (Nat.lt_succ_self _)).trans C4.out
    have HO9 := Lib.hid (show OwnB w8 (w.heap.size + 1) v8 (pre o 4) by rw [HP.out]; exact HO8.out)
    go_wp2_with (first
      | (go_at_call 53; refine (rtextw_calls _ _ HN.out).mono ?_; rintro e w9 ⟨v9, rfl, ho, hb⟩; obtain ⟨A9, e9, rfl, hr⟩ := own_reads ho; have HR9 := Lib.hid hr; have HO10 := Lib.hid (HO9.out.now hb rfl); have HBn := Lib.hid (below_stepB (by repeat (first | (with_reducible exact HB.out) | apply below_alloc | apply pw_below_drewN | apply below_drew1 | exact HB.out)) HLT.out hb); clear hb HB ho hr; have HB := HBn; clear HBn)
      | (at_builtin; (refine print_append_row (w0 := w1) (w.heap.size + 1) rfl (.tmp 27) (.tmp 30) 25 5 .u8 1 rfl Tryd.underlying25 pkInfo5 (by decide) _ (pre o 4) (textForm o.name) A9 (textForm o.name).length e9 rfl rfl ?cO ?cR ?cB ?cS ?cL ?_; (case cO => exact HO10.out); (case cR => exact HR9.out); (case cB => exact HB.out); (case cS => exact Nat.le_trans HLT.out (Below.size HB.out)); (case cL => (have := L4.out; omega)); intro v11 w11 ho hb hg hat; have HO11 := Lib.hid ho; clear ho hg hat HB; have HB := Lib.hid hb; clear hb)))
    go_ret
    rw [HF.out]
    exact ⟨_, rfl, OwnB.le HO11.out (Nat.le_succ _), below_wide HB0.out HB.out (Nat.le_succ _)⟩
  · have hc := fun w => refright_calls o w hs
    rw [Bool.not_eq_true] at hR
    rw [hR] at hc
    simp only [opV] at hc ⊢
    have HC := Lib.hid hc
    have HF := Lib.hid (show opForm o = [] by rw [opForm, if_neg (by rw [hR]; decide)])
    clear hc hR
    have HB := Lib.hid (Below.refl w.heap.size w)
    go_enter Tryd.func29, Tryd.ntmps29
    go_wp2_with (go_at_call 28; refine (HC.out _).mono ?_; rintro e w1 ⟨rfl, hb⟩; have HBn := Lib.hid (below_step (by repeat (first | (with_reducible exact HB.out) | apply below_alloc | apply pw_below_drewN | apply below_drew1 | exact HB.out)) hb); clear hb HB; have HB := HBn; clear HBn)
    go_ret
    rw [HF.out]
    exact ⟨_, rfl, own_nil _ _ _ _, HB.out⟩
end Go.Proofs.YtfnoegijkdhckaaDoor
/- The reference's Encode. -/
namespace Go.Proofs.YtfnoegijkdhckaaDoor
open Go.RowKit Go.Proofs.YtfnoegijkdhckaaDoorW.PrintWords

/-- What Encode answers: the word, and the bytes. -/
def encE (os : List OpR) : Int := if encOk os then 0 else 1
def encL (os : List OpR) : List Int := if encOk os then encB os else []
theorem encE_ok {os : List OpR} (h : encOk os = true) : encE os = 0 := by rw [encE, if_pos h]
theorem encL_ok {os : List OpR} (h : encOk os = true) : encL os = encB os := by rw [encL, if_pos h]
theorem encE_no {os : List OpR} (h : encOk os = false) : encE os = 1 := by rw [encE, if_neg (by rw [h]; decide)]
theorem encL_no {os : List OpR} (h : encOk os = false) : encL os = [] := by rw [encL, if_neg (by rw [h]; decide)]

set_option maxHeartbeats 4000000 in
theorem refencode_long (A : Option Addr) (n c : Nat) (os : List OpR) (w : World) (hr : OpsAt w A n os) (h64 : 64 < n) :
    Calls Tryd.prog 12 #[.slice A n c] w fun e w' => e = .returned (.tuple #[.slice none 0 0, .int .i64 1]) ∧ w' = w := by
  have hm := hr.2.1
  clear hr
  go_enter Tryd.func12, Tryd.ntmps12
  go_wp2
  go_ret2
  exact ⟨rfl, rfl⟩

set_option maxHeartbeats 4000000 in
theorem refencode_calls (A : Option Addr) (n c : Nat) (os : List OpR) (w : World) (hr : OpsAt w A n os) (hs : ∀ o ∈ os, o.name.size ≤ 9223372036854775807) (hn64 : n ≤ 64) :
    Calls Tryd.prog 12 #[.slice A n c] w fun e w' => ∃ v, e = .returned (.tuple #[v, .int .i64 (encE os)]) ∧ OwnB w' w.heap.size v (encL os) ∧ Below w.heap.size w w' := by
  have hm := hr.2.1
  have HR := Lib.hid hr
  have HS := Lib.hid hs
  have HL := Lib.hid hr.1
  have HB := Lib.hid (Below.refl w.heap.size w)
  have HF := Lib.hid (show encA os = [1] ++ form n ++ forms os by rw [encA, hr.1])
  have hfl := form_length n
  have hfsl : ∀ i, (forms (os.take i)).length ≤ 45 * n := fun i => by
    have := forms_len (os.take i)
    have h2 : (os.take i).length ≤ os.length := by rw [List.length_take]; omega
    rw [hr.1] at h2
    omega
  have HFS := Lib.hid hfsl
  have HOK := Lib.hid (show os.all opRight = true → encOk os = true from fun h => by unfold encOk; rw [h, decide_eq_true (show os.length ≤ 64 by rw [hr.1]; exact hn64)]; rfl)
  clear hr hs hfsl
  go_enter Tryd.func12, Tryd.ntmps12
  go_wp2_with (first
    | (go_at_call 27; (refine (rwrite_calls _ _).mono ?_); rintro e w2 ⟨v2, rfl, ho, hb⟩; obtain ⟨A2, c2, rfl, hr2⟩ := own_reads ho; have HR2 := Lib.hid hr2; have HO2 := Lib.hid (show OwnB w2 w.heap.size _ [1] from OwnB.below (own_lit w w.heap.size 5 .u8 [1] HB.out.size (by decide)) hb); clear ho hr2; have HBn := Lib.hid (below_step (by repeat (first | (with_reducible exact HB.out) | apply below_alloc | apply pw_below_drewN | apply below_drew1 | exact HB.out)) hb); clear hb HB; have HB := HBn; clear HBn)
    | (at_builtin; go_loud ((refine print_append_row (w0 := w) w.heap.size rfl (.tmp 10) (.tmp 13) 25 5 .u8 1 rfl Tryd.underlying25 pkInfo5 (by decide) _ [1] (form n) A2 (form n).length c2 rfl rfl ?cO ?cR ?cB ?cS ?cL ?_; (case cO => exact HO2.out); (case cR => exact HR2.out); (case cB => exact HB.out); (case cS => exact HB.out.size); (case cL => simp only [List.length_singleton]; omega); intro v3 w3 ho hb hg hat; have HO3 := Lib.hid ho; have HBn := Lib.hid hb; clear HB ho hb hg hat; have HB := HBn; clear HBn)))
    | (fail "no arm"))
  go_loopw [4, 5] (fun v vi W => ∃ i : Nat, vi = .int .i64 i ∧ i ≤ n ∧ Hid (OwnB W w.heap.size v ([1] ++ form n ++ forms (os.take i))) ∧ Hid ((os.take i).all opRight = true) ∧ Hid (Below w.heap.size w W)) (fun _ vi _ => (n - (RowKit.intOf vi).toNat))
  case atStart => exact ⟨0, rfl, by omega, Lib.hid (by have h := HO3.out; rw [show forms (os.take 0) = [] from rfl, List.append_nil]; exact h), Lib.hid (by simp), HB⟩
  case round =>
    clear HB HO3
    obtain ⟨i, rfl, hi, HO, HA, HB⟩ := hrel
    by_cases hlt : i < n
    · have hlt2 : i < os.length := by rw [HL.out]; exact hlt
      obtain ⟨b, o, rfl, hcell⟩ := HR.out.2.2 (show 0 < n by omega)
      have hci := (hcell i hlt2).below HB.out
      have hsn := forms_snoc os i hlt2
      have hps := HS.out os[i] (List.getElem_mem hlt2)
      have hp := fun w => refput_calls os[i] w hps
      have hrc := fun w => refright_calls os[i] w hps
      have hpl := opForm_length os[i]
      have hfi := HFS.out i
      have hno : opRight os[i] = false → encOk os = false := fun h => by
        have h2 : os.all opRight = false := by
          rw [← Bool.not_eq_true, List.all_eq_true]
          intro hh
          rw [hh _ (List.getElem_mem hlt2)] at h
          cases h
        unfold encOk
        rw [h2, Bool.and_false]
      have hya : opRight os[i] = true → (os.take (i + 1)).all opRight = true := fun h => by
        rw [List.take_succ_eq_append_getElem hlt2, List.all_append, HA.out, List.all_cons, h]; rfl
      generalize os[i] = p at *
      obtain ⟨c0, c1, c2', c3, c4⟩ := hci
      have hi1 : (0 : Int) ≤ (i : Int) := by omega
      have hi2 : (i : Int) < (n : Int) := by omega
      cases hrt : opRight p
      · have HNO := Lib.hid (hno hrt)
        rw [hrt] at hrc
        simp only [opV] at hrc
        have HRC := Lib.hid hrc
        clear hrc hp hsn hcell hfi hno hya hpl hrt
        go_wp2_with (first
          | (go_at_call 28; go_loud ((refine (HRC.out _).mono ?_); rintro e w5 ⟨rfl, hb⟩; have HBn := Lib.hid (below_step (by repeat (first | (with_reducible exact HB.out) | apply below_alloc | apply pw_below_drewN | apply below_drew1 | exact HB.out)) hb); clear hb HB; have HB := HBn; clear HBn))
          | (fail "no arm"))
        go_ret2
        refine ⟨.slice none 0 0, ?_, ?_, HB.out⟩
        · rw [encE_no HNO.out]; rfl
        · rw [encL_no HNO.out]; exact own_nil _ _ _ _
      · have HYA := Lib.hid (hya hrt)
        rw [hrt] at hrc
        simp only [opV] at hp hrc
        generalize opForm p = G at *
        generalize hX : [1] ++ form n ++ forms (os.take i) = X at HO
        have hXl : X.length ≤ 3000 := by
          rw [← hX]
          simp only [List.length_append, List.length_singleton]
          omega
        have HSN := Lib.hid (show [1] ++ form n ++ forms (os.take (i + 1)) = X ++ G by rw [hsn, ← hX]; simp only [List.append_assoc])
        have HP := Lib.hid hp
        have HRC := Lib.hid hrc
        clear hp hrc hsn hcell hX hfi hno hya hrt
        go_wp2_with (first
          | (go_at_call 28; go_loud ((refine (HRC.out _).mono ?_); rintro e w4 ⟨rfl, hb⟩; have d0 := pw_cell_below hb c0; have d1 := pw_cell_below hb c1; have d2 := pw_cell_below hb c2'; have d3 := pw_cell_below hb c3; have d4 := pw_cell_below hb c4; have HO4 := Lib.hid (show OwnB w4 w.heap.size _ X from OwnB.below HO.out hb); clear c0 c1 c2' c3 c4 HO; have HBn := Lib.hid (below_step (by repeat (first | (with_reducible exact HB.out) | apply below_alloc | apply pw_below_drewN | apply below_drew1 | exact HB.out)) hb); clear hb HB; have HB := HBn; clear HBn))
          | (go_at_call 29; go_loud ((refine (HP.out _).mono ?_); rintro e w5 ⟨v5, rfl, ho, hb⟩; obtain ⟨A5, c5, rfl, hr5⟩ := own_reads ho; have HR5 := Lib.hid hr5; have HO5 := Lib.hid (show OwnB w5 w.heap.size _ X from OwnB.below HO4.out hb); clear ho hr5 d0 d1 d2 d3 d4; have HBn := Lib.hid (below_step (by repeat (first | (with_reducible exact HB.out) | apply below_alloc | apply pw_below_drewN | apply below_drew1 | exact HB.out)) hb); clear hb HB; have HB := HBn; clear HBn))
          | (at_builtin; go_loud ((refine print_append_row (w0 := w) w.heap.size rfl (.tmp 28) (.tmp 33) 25 5 .u8 1 rfl Tryd.underlying25 pkInfo5 (by decide) _ X G A5 G.length c5 rfl rfl ?cO ?cR ?cB ?cS ?cL ?_; (case cO => exact HO5.out); (case cR => exact HR5.out); (case cB => exact HB.out); (case cS => exact HB.out.size); (case cL => omega); intro v6 w6 ho hb hg hat; have HO6 := Lib.hid ho; have HBn := Lib.hid hb; clear HB ho hb hg hat; have HB := HBn; clear HBn)))
          | (fail "no arm"))
        go_roundw
        case rel => exact ⟨i + 1, by go_num, by omega, Lib.hid (by rw [HSN.out]; exact HO6.out), HYA, HB⟩
        case measure => simp [RowKit.intOf] <;> omega
    · obtain rfl : i = n := by omega
      have hall : os.take i = os := List.take_of_length_le (by rw [HL.out]; exact Nat.le_refl _)
      have hO := HO.out
      have hA := HA.out
      rw [hall] at hA
      have HEK := Lib.hid (HOK.out hA)
      clear hA HA HOK
      rw [hall, ← HF.out] at hO
      have hEr := encA_range os
      have hEl := encA_len os
      rw [HL.out] at hEl
      have hsr := sumN_range (encA os) hEr
      have HE := Lib.hid (show encB os = form (encS os).length ++ encS os from rfl)
      have HE2 := Lib.hid (show encS os = encA os ++ fourL (sumN (encA os)) from rfl)
      generalize hEB : encB os = EB at *
      have HEB := Lib.hid hEB
      clear hEB
      generalize encS os = ES at *
      generalize encA os = E at *
      have hESl : ES.length ≤ 3000 := by rw [HE2.out, List.length_append, show (fourL (sumN E)).length = 4 from rfl]; omega
      obtain ⟨A7, c7, rfl, hr7⟩ := own_reads hO
      have hcap : E.length ≤ c7 := own_cap hO
      have hof := fun (W : World) (hr : ReadsInt W .u8 A7 E.length E) => (rthen_calls A7 E.length c7 E W hr hcap hEr (by omega)).mono (R' := fun e w' => e = .returned (.int .u32 (sumN E)) ∧ Below W.heap.size W w') fun _ _ ⟨he, k, hk⟩ => ⟨he, hk ▸ pw_below_drewN (Below.refl _ _) k⟩
      generalize hS : sumN E = S at *
      have HO7 := Lib.hid hO
      have HR7 := Lib.hid hr7
      have HOF := Lib.hid hof
      have HS4 := Lib.hid hsr
      have HER := Lib.hid hEr
      have h4 : (fourL S).length = 4 := rfl
      have hfe := form_length ES.length
      have HS2 := Lib.hid hS
      clear HO hO hr7 hof hsr hEr hall hS hcap
      generalize hFO : fourL S = F4 at *
      have HFO := Lib.hid hFO
      have H4 := Lib.hid h4
      clear hFO h4
      go_wp2_with (first
        | (go_at_call 31; go_loud ((refine (HOF.out _ HR7.out).mono ?_); rintro e w8 ⟨rfl, hb⟩; have HO8 := Lib.hid (HO7.out.below hb); have HR8 := Lib.hid (HR7.out.below hb); have HBn := Lib.hid (below_step (by repeat (first | (with_reducible exact HB.out) | apply below_alloc | apply pw_below_drewN | apply below_drew1 | exact HB.out)) hb); clear hb HB; have HB := HBn; clear HBn))
        | (go_at_call 30; go_loud ((refine (rfour_calls S _ HS4.out.1).mono ?_); rintro e w9 ⟨v9, rfl, ho, hb⟩; rw [HFO.out] at ho; obtain ⟨A9, c9, rfl, hr9⟩ := own_reads ho; rw [H4.out] at hr9 ⊢; have HR9 := Lib.hid hr9; have HO9 := Lib.hid (HO8.out.below hb); clear ho hr9; have HBn := Lib.hid (below_step (by repeat (first | (with_reducible exact HB.out) | apply below_alloc | apply pw_below_drewN | apply below_drew1 | exact HB.out)) hb); clear hb HB; have HB := HBn; clear HBn))
        | (at_builtin; (refine print_append_row (w0 := w) w.heap.size rfl (.tmp 35) (.tmp 38) 25 5 .u8 1 rfl Tryd.underlying25 pkInfo5 (by decide) _ E F4 A9 4 c9 rfl rfl ?cO ?cR ?cB ?cS ?cL ?_; (case cO => exact HO9.out); (case cR => exact HR9.out); (case cB => exact HB.out); (case cS => exact HB.out.size); (case cL => omega); intro v10 w10 ho hb hg hat; rw [← HE2.out] at ho; obtain ⟨A10, c10, rfl, hr10⟩ := own_reads ho; have HR10 := Lib.hid hr10; have HBn := Lib.hid hb; clear HB ho hb hg hat hr10; have HB := HBn; clear HBn))
        | (go_at_call 27; go_loud ((refine (rwrite_calls _ _).mono ?_); rintro e w11 ⟨v11, rfl, ho, hb⟩; have HO11 := Lib.hid (OwnB.le ho HB.out.size); have HR11 := Lib.hid (HR10.out.below hb); clear ho; have HBn := Lib.hid (below_step (by repeat (first | (with_reducible exact HB.out) | apply below_alloc | apply pw_below_drewN | apply below_drew1 | exact HB.out)) hb); clear hb HB; have HB := HBn; clear HBn))
        | (at_builtin; (refine print_append_row (w0 := w) w.heap.size rfl (.tmp 42) (.tmp 43) 25 5 .u8 1 rfl Tryd.underlying25 pkInfo5 (by decide) _ (form ES.length) ES A10 ES.length c10 rfl rfl ?cO ?cR ?cB ?cS ?cL ?_; (case cO => exact HO11.out); (case cR => exact HR11.out); (case cB => exact HB.out); (case cS => exact HB.out.size); (case cL => omega); intro v12 w12 ho hb hg hat; rw [← HE.out] at ho; have HO12 := Lib.hid ho; have HBn := Lib.hid hb; clear HB ho hb hg hat; have HB := HBn; clear HBn))
        | (fail "no arm"))
      go_ret2
      refine ⟨v12, ?_, ?_, HB.out⟩
      · rw [encE_ok HEK.out]; rfl
      · rw [encL_ok HEK.out, HEB.out]; exact HO12.out
end Go.Proofs.YtfnoegijkdhckaaDoor
/- The chapter's example (batches): what awake answers. -/
namespace Go.Proofs.YtfnoegijkdhckaaDoor
open Go.RowKit Go.Proofs.YtfnoegijkdhckaaDoorW.PrintWords

theorem OpsAt.nil (w : World) : OpsAt w none 0 [] := ⟨rfl, by omega, fun h => absurd h (by omega)⟩
theorem OpsAt.one {w : World} {b : Nat} {p : OpR} (h : OpIn b 0 p w) : OpsAt w (some ⟨b, 0, none⟩) 1 [p] :=
  ⟨rfl, by omega, fun _ => ⟨b, 0, rfl, fun i hi => by
    obtain rfl : i = 0 := by simp only [List.length_singleton] at hi; omega
    exact h⟩⟩

theorem opIn_ex {g : Nat} {w : World} (h0 : w.cell? ⟨g, 0, none⟩ = some (.int .i64 5)) (h1 : w.cell? ⟨g, 1, none⟩ = some (.int .i64 7)) (h2 : w.cell? ⟨g, 2, none⟩ = some (.int .i64 1287)) (h3 : w.cell? ⟨g, 3, none⟩ = some (.int .i64 0)) (h4 : w.cell? ⟨g, 4, none⟩ = some (.string ⟨#[97]⟩)) : OpIn g 0 exO w := ⟨h0, h1, h2, h3, h4⟩
theorem e0_cells {w : World} {ad : Addr} {E : List Int} (h : ReadsInt w .u8 (some ad) 7 E) (k : E.getD 0 0 = 6 ∧ E.getD 1 0 = 1 ∧ E.getD 2 0 = 0) : w.cell? ad = some (.int .u8 6) ∧ w.cell? ⟨ad.block, ad.off + 1, none⟩ = some (.int .u8 1) ∧ w.cell? ⟨ad.block, ad.off + 2, none⟩ = some (.int .u8 0) := by
  obtain ⟨ad', e, hc⟩ := h.2.2 (by omega)
  cases e
  have h0 := hc 0 (by omega)
  have h1 := hc 1 (by omega)
  have h2 := hc 2 (by omega)
  rw [k.1] at h0
  rw [k.2.1] at h1
  rw [k.2.2] at h2
  exact ⟨by simpa [go_sem] using h0, h1, h2⟩
theorem same_ex (A : Option Addr) (c g : Nat) (w : World) (ha : OpsAt w A 1 [exO]) (hb : OpIn g 0 exO w) : Calls Tryd.prog 18 #[.slice A 1 c, .slice (some ⟨g, 0, none⟩) 1 1] w fun e w' => e = .returned (.bool true) ∧ ∃ k, w' = w.drewN k :=
  (sameO_calls A 1 c [exO] (some ⟨g, 0, none⟩) 1 1 [exO] w ha (OpsAt.one hb)).mono fun _ _ ⟨he, h⟩ => ⟨he.trans (by rw [show sameO [exO] [exO] = true by simp [sameO]]), h⟩
theorem e0_facts : (encB []).length = 7 ∧ (encB []).getD 0 0 = 6 ∧ (encB []).getD 1 0 = 1 ∧ (encB []).getD 2 0 = 0 := by
  rw [ex0_enc]
  generalize sumN [1, 0] = S
  exact ⟨rfl, rfl, rfl, rfl⟩
theorem e0_calls (w : World) (h : Tabs w) : Calls Tryd.prog 11 #[.slice none 0 0] w fun e w' => ∃ v, e = .returned (.tuple #[v, .int .i64 0]) ∧ OwnB w' w.heap.size v (encB []) ∧ Below w.heap.size w w' :=
  encode_calls none 0 0 [] w (OpsAt.nil w) (fun o h => by cases h) h ex0_ok
theorem exO_small : exO.name.size ≤ 9223372036854775807 := by show (1 : Nat) ≤ 9223372036854775807; omega
theorem e1_calls (g : Nat) (w : World) (k : OpIn g 0 exO w) (h : Tabs w) : Calls Tryd.prog 11 #[.slice (some ⟨g, 0, none⟩) 1 1] w fun e w' => ∃ v, e = .returned (.tuple #[v, .int .i64 0]) ∧ OwnB w' w.heap.size v (encB [exO]) ∧ Below w.heap.size w w' :=
  encode_calls (some ⟨g, 0, none⟩) 1 1 [exO] w (OpsAt.one k) (fun o h => by rw [List.mem_singleton.1 h]; exact exO_small) h exO_ok
theorem d1_calls (A : Option Addr) (c : Nat) (w : World) (hr : ReadsInt w .u8 A (encB [exO]).length (encB [exO])) (hc : (encB [exO]).length ≤ c) (h : Tabs w) : Calls Tryd.prog 14 #[.slice A (encB [exO]).length c] w fun e w' => ∃ v, e = .returned (.tuple #[v, .int .i64 0]) ∧ OwnO w' w.heap.size v [exO] ∧ Below w.heap.size w w' :=
  decode_enc A (encB [exO]).length c [exO] w exO_ok hr hc h

set_option maxHeartbeats 1000000 in
theorem awake_calls (w : World) (hT : Tabs w) :
    Calls Tryd.prog 9 #[] w fun e w' => e = .returned (.bool true) ∧ Below w.heap.size w w' := by
  have HT := Lib.hid hT
  have HB := Lib.hid (Below.refl w.heap.size w)
  obtain ⟨E0, he0, hf0⟩ : ∃ E, (∀ w, Tabs w → Calls Tryd.prog 11 #[.slice none 0 0] w fun e w' => ∃ v, e = .returned (.tuple #[v, .int .i64 0]) ∧ OwnB w' w.heap.size v E ∧ Below w.heap.size w w') ∧ E.length = 7 ∧ E.getD 0 0 = 6 ∧ E.getD 1 0 = 1 ∧ E.getD 2 0 = 0 := ⟨_, e0_calls, e0_facts⟩
  obtain ⟨E1, he1, hd1⟩ : ∃ E, (∀ g w, OpIn g 0 exO w → Tabs w → Calls Tryd.prog 11 #[.slice (some ⟨g, 0, none⟩) 1 1] w fun e w' => ∃ v, e = .returned (.tuple #[v, .int .i64 0]) ∧ OwnB w' w.heap.size v E ∧ Below w.heap.size w w') ∧ ∀ A c w, ReadsInt w .u8 A E.length E → E.length ≤ c → Tabs w → Calls Tryd.prog 14 #[.slice A E.length c] w fun e w' => ∃ v, e = .returned (.tuple #[v, .int .i64 0]) ∧ OwnO w' w.heap.size v [exO] ∧ Below w.heap.size w w' := ⟨_, e1_calls, d1_calls⟩
  have HE0 := Lib.hid he0
  have HE1 := Lib.hid he1
  have HD1 := Lib.hid hd1
  have HF0 := Lib.hid hf0
  clear hT he0 he1 hd1 hf0
  go_enter Tryd.func9, Tryd.ntmps9
  go_wp2_with (first
    | (go_at_call 11; ((with_reducible refine Calls.mono (HE0.out _ HT.out) ?_); rintro e w1 ⟨v1, rfl, ho, hb⟩; obtain ⟨A1, c1, rfl, hr1⟩ := own_reads ho; rw [HF0.out.1] at hr1 ⊢; obtain ⟨ad, rfl, _⟩ := hr1.2.2 (by omega); have HR1 := Lib.hid hr1; clear ho hr1; have HBn := Lib.hid (below_step (by repeat (first | (with_reducible exact HB.out) | apply below_alloc | apply pw_below_drewN | apply below_drew1 | exact HB.out)) hb); clear hb HB; have HB := HBn; clear HBn))
    | (go_at_call 11; go_loud ((with_reducible refine Calls.mono (HE1.out (w1.heap.size + 1) _ (opIn_ex (by go_cell) (by go_cell) (by go_cell) (by go_cell) (by go_cell)) (HT.out.below (by repeat (first | (with_reducible exact HB.out) | apply below_alloc | apply pw_below_drewN | apply below_drew1 | exact HB.out)))) ?_); rintro e w2 ⟨v2, rfl, ho, hb⟩; obtain ⟨A2, c2, rfl, hr2⟩ := own_reads ho; have HC2 := Lib.hid (own_cap ho); have HR2 := Lib.hid hr2; have HR12 := Lib.hid ((HR1.out.below (below_alloc (below_alloc (Below.refl w1.heap.size w1) _) _)).below hb); have K2 := Lib.hid (show OpIn w1.heap.size 0 exO w2 from OpIn.below (opIn_ex (by go_cell) (by go_cell) (by go_cell) (by go_cell) (by go_cell)) hb); clear ho hr2; have HBn := Lib.hid (below_step (by repeat (first | (with_reducible exact HB.out) | apply below_alloc | apply pw_below_drewN | apply below_drew1 | exact HB.out)) hb); clear hb HB; have HB := HBn; clear HBn))
    | (go_at_call 14; go_loud ((with_reducible refine Calls.mono (HD1.out _ _ _ HR2.out HC2.out (HT.out.below (by repeat (first | (with_reducible exact HB.out) | apply below_alloc | apply pw_below_drewN | apply below_drew1 | exact HB.out)))) ?_); rintro e w3 ⟨v3, rfl, ho, hb⟩; obtain ⟨A3, c3, rfl, _, hr3⟩ := OwnO.ops ho; have HR3 := Lib.hid hr3; have HR13 := Lib.hid (HR12.out.below hb); have K3 := K2.out.below hb; obtain ⟨a0, a1, a2⟩ := e0_cells HR13.out HF0.out.2; have d0 : w3.cell? ⟨w1.heap.size, 0, none⟩ = some (.int .i64 5) := K3.1; have d1 : w3.cell? ⟨w1.heap.size, 1, none⟩ = some (.int .i64 7) := K3.2.1; have d2 : w3.cell? ⟨w1.heap.size, 2, none⟩ = some (.int .i64 1287) := K3.2.2.1; have d3 : w3.cell? ⟨w1.heap.size, 3, none⟩ = some (.int .i64 0) := K3.2.2.2.1; have d4 : w3.cell? ⟨w1.heap.size, 4, none⟩ = some (.string ⟨#[97]⟩) := K3.2.2.2.2; clear K3 ho hr3; have HBn := Lib.hid (below_step (by repeat (first | (with_reducible exact HB.out) | apply below_alloc | apply pw_below_drewN | apply below_drew1 | exact HB.out)) hb); clear hb HB; have HB := HBn; clear HBn))
    | (go_at_call 18; go_loud ((with_reducible refine Calls.mono (same_ex _ _ _ _ (HR3.out.below (by repeat (first | exact Below.refl _ _ | apply below_alloc | apply pw_below_drewN | apply below_drew1))) (opIn_ex (by go_cell) (by go_cell) (by go_cell) (by go_cell) (by go_cell))) ?_); rintro e w4 ⟨rfl, n4, rfl⟩))
    | (fail "no arm"))
  go_ret
  exact ⟨rfl, (by repeat (first | (with_reducible exact HB.out) | apply below_alloc | apply pw_below_drewN | apply below_drew1 | exact HB.out))⟩
end Go.Proofs.YtfnoegijkdhckaaDoor
/- The calls of the reference's Reader. -/
namespace Go.Proofs.YtfnoegijkdhckaaDoor
open Go.RowKit Go.Proofs.YtfnoegijkdhckaaDoorW.PrintWords

set_option maxHeartbeats 400000 in
theorem rfail_calls (w : World) (a d : Nat) (xs : List Int) (e0 e : Int) (h : RD 63 w a d xs e0) :
    Calls Tryd.prog 56 #[.pointer (some ⟨a, 0, none⟩), .int .i64 e] w fun r w' => r = .returned (.tuple #[]) ∧ RD 63 w' a d [] e ∧ Only a w w' := by
  obtain ⟨A, c, hb, hr, hc, hA, hda, hx⟩ := h.out
  have c0 := blk_cell hb 0
  have c1 := blk_cell hb 1
  have z0 := blk_frozen hb 0
  have z1 := blk_frozen hb 1
  simp at c0 c1
  have HB := Lib.hid hb
  clear hb h hr hA hx
  go_enter Tryd.func56, Tryd.ntmps56
  go_wp2
  go_end0
  refine ⟨rfl, ⟨none, 0, ?_, ?_, by simp, by simp, hda, by simp⟩, ((Only.refl a w).set 0 _).set 1 _⟩
  · have := blk_set (blk_set HB.out 0 (.slice none 0 0)) 1 (.int .i64 e)
    simpa using this
  · exact ReadsInt.nil _ _

set_option maxHeartbeats 1000000 in
theorem rnum_calls (w : World) (a d : Nat) (xs : List Int) (e most : Int) (h : RD 63 w a d xs e) :
    Calls Tryd.prog 38 #[.pointer (some ⟨a, 0, none⟩), .int .i64 most] w fun r w' => r = .returned (.int .i64 (rdNum xs e most).1) ∧ RD 63 w' a d (rdNum xs e most).2.1 (rdNum xs e most).2.2 ∧ Only a w w' := by
  have h0 := Lib.hid h
  obtain ⟨A, c, hb, hr, hc, hA, hda, hx⟩ := h.out
  have c0 := blk_cell hb 0
  have c1 := blk_cell hb 1
  have z0 := blk_frozen hb 0
  have z1 := blk_frozen hb 1
  simp at c0 c1
  have hm := hr.2.1
  have HB := Lib.hid hb
  have HR := Lib.hid hr
  have HA := Lib.hid hA
  have HX := Lib.hid hx
  clear hb h hr hA hx
  have hcell : ∀ k, k < xs.length → ∃ ad y, A = some ad ∧ w.cell? (ad.add k) = some (.int .u8 y) ∧ y = xs.getD k 0 ∧ 0 ≤ y ∧ y < 256 := by
    intro k hk
    obtain ⟨ad, rfl, hcell⟩ := HR.out.at_ k (by omega) (by omega)
    rw [Int.toNat_natCast] at hcell
    refine ⟨ad, _, rfl, hcell, by unfold rd; rw [Int.toNat_natCast], ?_⟩
    refine HX.out _ ?_
    unfold rd; rw [Int.toNat_natCast, List.getD_eq_getElem?_getD, List.getElem?_eq_getElem hk]; simp
  have HCELL := Lib.hid hcell
  clear hcell
  by_cases he : e = 0
  · subst he
    go_enter Tryd.func38, Tryd.ntmps38
    go_wp2
    go_loop [5, 6] (fun vl vi => ∃ (k : Nat) (l : Int), vi = .int .i64 k ∧ vl = .int .i64 l ∧ k ≤ 5 ∧ k ≤ xs.length ∧ Hid ((l = -1 ∧ ∀ j, j < k → 128 ≤ xs.getD j 0) ∨ (l + 1 = k ∧ 0 ≤ l ∧ xs.getD l.toNat 0 < 128 ∧ ∀ j, j < l.toNat → 128 ≤ xs.getD j 0)) ∧ -1 ≤ l ∧ l ≤ 4) (fun _ vi => (5 - intOf vi).toNat)
    case atStart => exact ⟨0, -1, rfl, rfl, by omega, by omega, Lib.hid (.inl ⟨rfl, fun j hj => by omega⟩), by omega, by omega⟩
    case round =>
      obtain ⟨k, l, rfl, rfl, hk5, hkl, HL, hl0, hl4⟩ := hrel
      rcases HL.out with ⟨hl, hall⟩ | ⟨hl, hl1, hy, hall⟩
      · subst hl
        have HALL := Lib.hid hall
        clear hall HL
        by_cases hgo : k < 5 ∧ k < xs.length
        · obtain ⟨hgo1, hgo2⟩ := hgo
          obtain ⟨ad, y, rfl, hcell, hy, hy0, hy1⟩ := HCELL.out k hgo2
          have HY := Lib.hid hy
          clear hy
          go_wp2
          · go_round
            case rel => exact ⟨k + 1, k, by go_num, rfl, by omega, by omega, Lib.hid (.inr ⟨by omega, by omega, by rw [Int.toNat_natCast, ← HY.out]; omega, fun j hj => HALL.out j (by omega)⟩), by omega, by omega⟩
            case measure => simp [intOf] <;> omega
          · go_round
            case rel => exact ⟨k + 1, -1, by go_num, rfl, by omega, by omega, Lib.hid (.inl ⟨rfl, all_snoc HALL.out (by rw [← HY.out]; omega)⟩), by omega, by omega⟩
            case measure => simp [intOf] <;> omega
        · have HF := Lib.hid (rdNum_none xs most k HALL.out (by omega))
          by_cases hs : xs.length < 5
          · go_wp2_with (go_at_call 56; refine (rfail_calls _ _ _ _ _ _ h0.out).mono ?_; rintro e w' ⟨rfl, hd, ho⟩; have HD := Lib.hid hd; have HO := Lib.hid ho; clear hd ho)
            all_goals
              go_ret
              rw [HF.out, if_pos hs]
              exact ⟨rfl, HD.out, HO.out⟩
          · go_wp2_with (go_at_call 56; refine (rfail_calls _ _ _ _ _ _ h0.out).mono ?_; rintro e w' ⟨rfl, hd, ho⟩; have HD := Lib.hid hd; have HO := Lib.hid ho; clear hd ho)
            all_goals
              go_ret
              rw [HF.out, if_neg hs]
              exact ⟨rfl, HD.out, HO.out⟩
      · obtain ⟨m, rfl⟩ := Int.eq_ofNat_of_zero_le hl1
        simp only [Int.toNat_natCast] at hy hall
        obtain rfl : k = m + 1 := by omega
        clear hl
        have HF := Lib.hid (rdNum_some xs most m hall (by omega) (by omega) hy)
        obtain ⟨ad, y, rfl, hcell, hyy, hy0, hy1⟩ := HCELL.out m (by omega)
        rw [← hyy] at HF hy
        have HV := Lib.hid (valGo_zero xs (m + 1))
        clear hall hyy HL
        by_cases hz : y = 0 ∧ 0 < (m : Int)
        · obtain ⟨rfl, hz1⟩ := hz
          go_wp2_with (go_at_call 56; refine (rfail_calls _ _ _ _ _ _ h0.out).mono ?_; rintro e w' ⟨rfl, hd, ho⟩; have HD := Lib.hid hd; have HO := Lib.hid ho; clear hd ho)
          all_goals
            go_ret
            rw [HF.out, if_pos (.inl ⟨by trivial, by omega⟩)]
            exact ⟨rfl, HD.out, HO.out⟩
        · go_wp2
          all_goals
            go_loop [7, 8] (fun vn vi => ∃ (i n : Int), vi = .int .i64 i ∧ vn = .int .i64 n ∧ -1 ≤ i ∧ i ≤ m ∧ Hid (valGo xs (i + 1).toNat n = lo xs (m + 1)) ∧ 0 ≤ n ∧ (i = m → n < 1) ∧ ((m : Int) - 1 ≤ i → n < 128) ∧ ((m : Int) - 2 ≤ i → n < 16384) ∧ ((m : Int) - 3 ≤ i → n < 2097152) ∧ ((m : Int) - 4 ≤ i → n < 268435456) ∧ ((m : Int) - 5 ≤ i → n < 34359738368)) (fun _ vi => (intOf vi + 1).toNat)
            case atStart => exact ⟨m, 0, rfl, rfl, by omega, by omega, Lib.hid (by rw [show ((m : Int) + 1).toNat = m + 1 by omega]; exact HV.out), by omega, by omega, by omega, by omega, by omega, by omega, by omega⟩
            case round =>
              obtain ⟨i, n, rfl, rfl, hi0, hi1, HG, hn0, b0, b1, b2, b3, b4, b5⟩ := hrel
              by_cases hgo : 0 ≤ i
              · obtain ⟨q, rfl⟩ := Int.eq_ofNat_of_zero_le hgo
                obtain ⟨ad', z, hadd, hcell2, hzz, hz0, hz1⟩ := HCELL.out q (by omega)
                obtain rfl : ad = ad' := Option.some.inj hadd
                have HZ := Lib.hid hzz
                clear hzz hcell
                go_wp2
                go_round
                case rel => exact ⟨(q : Int) - 1, 128 * n + z % 128, rfl, rfl, by omega, by omega, Lib.hid (by have h := HG.out; rw [show ((q : Int) + 1).toNat = q + 1 by omega, valGo, ← HZ.out] at h; rw [show ((q : Int) - 1 + 1).toNat = q by omega]; exact h), by omega, by omega, by omega, by omega, by omega, by omega, by omega⟩
                case measure => simp [intOf] <;> omega
              · have hn : lo xs (m + 1) = n := by
                  have h := HG.out
                  rw [show (i + 1).toNat = 0 by omega] at h
                  exact h.symm
                rw [hn] at HF
                clear hn HG HV
                by_cases bad : 4294967295 < n ∨ most < n
                · go_wp2_with (go_at_call 56; refine (rfail_calls _ _ _ _ _ _ h0.out).mono ?_; rintro e w' ⟨rfl, hd, ho⟩; have HD := Lib.hid hd; have HO := Lib.hid ho; clear hd ho)
                  all_goals
                    go_ret
                    rw [HF.out, if_pos (by omega)]
                    exact ⟨rfl, HD.out, HO.out⟩
                · go_wp2
                  all_goals
                    go_ret
                    rw [HF.out, if_neg (by omega)]
                    have hcut := fun A' n' c' h1 h2 h3 => RD.cut h0.out HB.out (m := m + 1) (by omega) (A' := A') (n' := n') (c' := c') h1 h2 h3
                    refine ⟨rfl, (hcut _ _ _ ?_ ?_ ?_).1, (hcut _ _ _ ?_ ?_ ?_).2⟩
                    all_goals first | omega | (rw [if_pos (by omega)]; done) | (rw [if_neg (by omega)]; simp [Addr.add]; done) | (rw [if_neg (by omega), show m + 1 = 1 by omega]; simp [Addr.add]; done)
  · have he' : (e != 0) = true := by simp [he]
    go_enter Tryd.func38, Tryd.ntmps38
    go_wp2
    go_ret
    rw [rdNum, if_neg he]
    exact ⟨rfl, h0.out, Only.refl _ _⟩
set_option maxHeartbeats 1000000 in
theorem rtext_calls (w : World) (a d : Nat) (xs : List Int) (e most : Int) (h : RD 63 w a d xs e) (he : 0 ≤ e ∧ e ≤ 3) :
    Calls Tryd.prog 57 #[.pointer (some ⟨a, 0, none⟩), .int .i64 most] w fun r w' => r = .returned (.string (rdText xs e most).1) ∧ RD 63 w' a d (rdText xs e most).2.1 (rdText xs e most).2.2 ∧ Only a w w' := by
  have h0 := Lib.hid h
  have hr := rdNum_range xs e most (by obtain ⟨A, c, _, _, _, _, _, hx⟩ := h.out; exact fun x hx' => (hx x hx').1) he
  have hc := fun w => rnum_calls w a d xs e most
  obtain ⟨n, hn⟩ : ∃ n, n = (rdNum xs e most).1 := ⟨_, rfl⟩
  obtain ⟨ys, hys⟩ : ∃ ys, ys = (rdNum xs e most).2.1 := ⟨_, rfl⟩
  obtain ⟨e', he'⟩ : ∃ e', e' = (rdNum xs e most).2.2 := ⟨_, rfl⟩
  rw [← hn, ← he'] at hr
  simp only [← hn, ← hys, ← he'] at hc
  have HC := Lib.hid hc
  clear hc h
  obtain ⟨hr0, hr1, _, hr3, hr4⟩ := hr
  by_cases h1 : e' = 0
  · subst h1
    by_cases h2 : (ys.length : Int) < n
    · have HT := Lib.hid (show rdText xs e most = (strOfNums [], [], 2) by unfold rdText; rw [← hn, ← hys, ← he', if_neg (by simp), if_pos h2])
      clear hn hys he'
      go_enter Tryd.func57, Tryd.ntmps57
      go_wp2_with (first
        | (go_at_call 38; refine (HC.out _ h0.out).mono ?_; rintro e w' ⟨rfl, hd, ho⟩; obtain ⟨A, c, hb, hrd, hcc, _, _, _⟩ := hd.out; have c0 := blk_cell hb 0; have c1 := blk_cell hb 1; simp at c0 c1; have hm := hrd.2.1; have HD := Lib.hid hd; have HO := Lib.hid ho; clear hd ho hb hrd)
        | (go_at_call 56; refine (rfail_calls _ _ _ _ _ _ HD.out).mono ?_; rintro e w2 ⟨rfl, hd, ho⟩; have HD2 := Lib.hid hd; have HO2 := Lib.hid ho; clear hd ho))
      go_ret
      rw [HT.out]
      exact ⟨rfl, HD2.out, HO.out.trans HO2.out⟩
    · obtain ⟨m, rfl⟩ := Int.eq_ofNat_of_zero_le hr0
      have HT := Lib.hid (show rdText xs e most = (strOfNums (ys.take m), ys.drop m, 0) by unfold rdText; rw [← hn, ← hys, ← he', if_neg (by simp), if_neg h2]; simp)
      clear hn hys he'
      obtain ⟨i5, hi5, hs5⟩ := pkInfo5'
      go_enter Tryd.func57, Tryd.ntmps57
      go_wp2_with (first
        | (go_at_call 38; refine (HC.out _ h0.out).mono ?_; rintro e w' ⟨rfl, hd, ho⟩; obtain ⟨A, c, hb, hrd, hcc, _, _, _⟩ := hd.out; have c0 := blk_cell hb 0; have c1 := blk_cell hb 1; have z0 := blk_frozen hb 0; simp at c0 c1; have hm := hrd.2.1; have hst := string_of_reads (P := Tryd.prog) (n := m) (c := c) (src := 25) (dst := 9) Tryd.underlying25 Tryd.underlying5 Tryd.underlying9 (hrd.take_ m (by omega)); have HB := Lib.hid hb; have HD := Lib.hid hd; have HO := Lib.hid ho; clear hd ho hb hrd))
      all_goals
        go_ret
        have hcut := fun A' n' c' h1 h2 h3 => RD.cut HD.out HB.out (m := m) (by omega) (A' := A') (n' := n') (c' := c') h1 h2 h3
        rw [HT.out]
        refine ⟨rfl, (hcut _ _ _ ?_ ?_ ?_).1, HO.out.trans (hcut _ _ _ ?_ ?_ ?_).2⟩
        all_goals first | omega | (rw [if_pos (by omega)]; done) | (rw [if_neg (by omega)]; done)
  · have HT := Lib.hid (show rdText xs e most = (strOfNums [], ys, e') by unfold rdText; rw [← hn, ← hys, ← he', if_pos h1])
    clear hn hys he'
    have hb1 : (e' != 0) = true := by simp [h1]
    clear h1
    go_enter Tryd.func57, Tryd.ntmps57
    go_wp2_with (first
        | (go_at_call 38; refine (HC.out _ h0.out).mono ?_; rintro e w' ⟨rfl, hd, ho⟩; obtain ⟨A, c, hb, hrd, hcc, _, _, _⟩ := hd.out; have c0 := blk_cell hb 0; have c1 := blk_cell hb 1; simp at c0 c1; have HD := Lib.hid hd; have HO := Lib.hid ho; clear hd ho hb hrd))
    go_ret
    rw [HT.out]
    exact ⟨rfl, HD.out, HO.out⟩
end Go.Proofs.YtfnoegijkdhckaaDoor
/- The reference's Take, Decode and Cut. -/
namespace Go.Proofs.YtfnoegijkdhckaaDoor
open Go.RowKit Go.Proofs.YtfnoegijkdhckaaDoorW.PrintWords

theorem rnum_calls_eq (w : World) (a d : Nat) (xs : List Int) (e most : Int) {n : Int} {ys : List Int} {e' : Int} (h : RD 63 w a d xs e) (hf : rdNum xs e most = (n, ys, e')) :
    Calls Tryd.prog 38 #[.pointer (some ⟨a, 0, none⟩), .int .i64 most] w fun r w' => r = .returned (.int .i64 n) ∧ RD 63 w' a d ys e' ∧ Only a w w' := by
  have := rnum_calls w a d xs e most h
  rw [hf] at this
  exact this
theorem rtext_calls_eq (w : World) (a d : Nat) (xs : List Int) (e most : Int) {s : ByteArray} {ys : List Int} {e' : Int} (h : RD 63 w a d xs e) (he : 0 ≤ e ∧ e ≤ 3) (hf : rdText xs e most = (s, ys, e')) :
    Calls Tryd.prog 57 #[.pointer (some ⟨a, 0, none⟩), .int .i64 most] w fun r w' => r = .returned (.string s) ∧ RD 63 w' a d ys e' ∧ Only a w w' := by
  have := rtext_calls w a d xs e most h he
  rw [hf] at this
  exact this
set_option maxHeartbeats 2000000 in
theorem reftake_calls (w : World) (a d : Nat) (xs : List Int) (e : Int) (h : RD 63 w a d xs e) (he : 0 ≤ e ∧ e ≤ 3) (hd : d < w.heap.size) :
    Calls Tryd.prog 39 #[.pointer (some ⟨a, 0, none⟩)] w fun r w' => r = .returned (.tuple #[opV (if opRight (tkOp xs e) = true then tkOp xs e else zeroOp), .bool (opRight (tkOp xs e))]) ∧ RD 63 w' a d (tk5 xs e).2.1 (tk5 xs e).2.2 ∧ Wide a w w' := by
  have hal := h.lt
  have hx : ∀ x ∈ xs, 0 ≤ x ∧ x < 256 := by obtain ⟨_, _, _, _, _, _, _, hx⟩ := h.out; exact hx
  have hdrop : ∀ (zs : List Int) (e most : Int), (∀ x ∈ zs, 0 ≤ x ∧ x < 256) → ∀ x ∈ (rdNum zs e most).2.1, 0 ≤ x ∧ x < 256 := by
    intro zs e most hz x hm
    by_cases he : e = 0
    · subst he
      rcases rdNum_cases zs most hz with ⟨e', h, _⟩ | ⟨k, n, h, _⟩
      · rw [h] at hm; simp at hm
      · rw [h] at hm; exact hz x (List.mem_of_mem_drop hm)
    · rw [rdNum, if_neg he] at hm; exact hz x hm
  have r1 := rdNum_range xs e 16777215 (fun x h => (hx x h).1) he
  have x1 := hdrop xs e 16777215 hx
  rcases h1 : rdNum xs e 16777215 with ⟨n1, y1, e1⟩
  rw [h1] at r1 x1
  have r2 := rdNum_range y1 e1 255 (fun x h => (x1 x h).1) ⟨r1.2.2.2.1, r1.2.2.2.2⟩
  have x2 := hdrop y1 e1 255 x1
  rcases h2 : rdNum y1 e1 255 with ⟨n2, y2, e2⟩
  rw [h2] at r2 x2
  have r3 := rdNum_range y2 e2 4294967295 (fun x h => (x2 x h).1) ⟨r2.2.2.2.1, r2.2.2.2.2⟩
  have x3 := hdrop y2 e2 4294967295 x2
  rcases h3 : rdNum y2 e2 4294967295 with ⟨n3, y3, e3⟩
  rw [h3] at r3 x3
  have r4 := rdNum_range y3 e3 4294967295 (fun x h => (x3 x h).1) ⟨r3.2.2.2.1, r3.2.2.2.2⟩
  have x4 := hdrop y3 e3 4294967295 x3
  rcases h4 : rdNum y3 e3 4294967295 with ⟨n4, y4, e4⟩
  rw [h4] at r4 x4
  have hsz := rdText_size y4 e4 x4
  rcases h5 : rdText y4 e4 20 with ⟨s, y5, e5⟩
  rw [h5] at hsz
  have t1 : tk1 xs e = (n1, y1, e1) := h1
  have t2 : tk2 xs e = (n2, y2, e2) := by rw [tk2, t1]; exact h2
  have t3 : tk3 xs e = (n3, y3, e3) := by rw [tk3, t2]; exact h3
  have t4 : tk4 xs e = (n4, y4, e4) := by rw [tk4, t3]; exact h4
  have t5 : tk5 xs e = (s, y5, e5) := by rw [tk5, t4]; exact h5
  have t6 : tkOp xs e = ⟨n1, n2, n3, n4, s⟩ := by rw [tkOp, t1, t2, t3, t4, t5]
  rw [t6, t5]
  have HE4 := Lib.hid (show 0 ≤ e4 ∧ e4 ≤ 3 from ⟨r4.2.2.2.1, r4.2.2.2.2⟩)
  have HS := Lib.hid (show s.size ≤ 9223372036854775807 from Nat.le_trans hsz (by decide))
  have H1 := Lib.hid h1
  have H2 := Lib.hid h2
  have H3 := Lib.hid h3
  have H4 := Lib.hid h4
  have H5 := Lib.hid h5
  clear t1 t2 t3 t4 t5 t6 r1 r2 r3 r4 x1 x2 x3 x4 hsz hdrop hx h1 h2 h3 h4 h5 he
  have HD0 := Lib.hid (show RD 63 (w.alloc (.cells #[.int .i64 0, .int .i64 0, .int .i64 0, .int .i64 0, .string ⟨#[]⟩] 48)) a d xs e from h.below ((Below.refl _ _).alloc (Nat.le_refl _) _))
  have HA2 := Lib.hid (show a ≠ w.heap.size by omega)
  have HDM := Lib.hid (show d ≠ w.heap.size by omega)
  clear h
  have hrc := fun w => refright_calls ⟨n1, n2, n3, n4, s⟩ w HS.out
  simp only [opV] at hrc
  generalize opRight ⟨n1, n2, n3, n4, s⟩ = R at *
  have HRC := Lib.hid hrc
  clear hrc
  cases R
  all_goals
    go_enter Tryd.func39, Tryd.ntmps39
    go_wp2_with (first
      | (go_at_call 38; (with_reducible refine Calls.mono (rnum_calls_eq _ a d xs e 16777215 HD0.out H1.out) ?_); rintro r w1 ⟨rfl, hd, ho⟩; have HD1 := Lib.hid hd; have HZ1 := Lib.hid (ho.size); have G21 := Lib.hid (show w1.heap[w.heap.size]? = some (.cells #[.int .i64 0, .int .i64 0, .int .i64 0, .int .i64 0, .string ⟨#[]⟩] 48 (0, 0)) from (ho.block _ (by omega)).trans (blk_new _ _)); have HW1 := Lib.hid (Wide.only ((Wide.refl a w).alloc _) ho); clear hd ho)
      | (go_at_call 38; (with_reducible refine Calls.mono (rnum_calls_eq _ a d y1 e1 255 HD1.out H2.out) ?_); rintro r w2 ⟨rfl, hd, ho⟩; have HD2 := Lib.hid hd; have HZ2 := Lib.hid (ho.size.trans HZ1.out); have G22 := Lib.hid (show w2.heap[w.heap.size]? = some (.cells #[.int .i64 0, .int .i64 0, .int .i64 0, .int .i64 0, .string ⟨#[]⟩] 48 (0, 0)) from (ho.block _ (by omega)).trans G21.out); have HW2 := Lib.hid (Wide.only (HW1.out) ho); clear hd ho)
      | (go_at_call 38; (with_reducible refine Calls.mono (rnum_calls_eq _ a d y2 e2 4294967295 HD2.out H3.out) ?_); rintro r w3 ⟨rfl, hd, ho⟩; have HD3 := Lib.hid hd; have HZ3 := Lib.hid (ho.size.trans HZ2.out); have G23 := Lib.hid (show w3.heap[w.heap.size]? = some (.cells #[.int .i64 0, .int .i64 0, .int .i64 0, .int .i64 0, .string ⟨#[]⟩] 48 (0, 0)) from (ho.block _ (by omega)).trans G22.out); have HW3 := Lib.hid (Wide.only (HW2.out) ho); clear hd ho)
      | (go_at_call 38; (with_reducible refine Calls.mono (rnum_calls_eq _ a d y3 e3 4294967295 HD3.out H4.out) ?_); rintro r w4 ⟨rfl, hd, ho⟩; have HD4 := Lib.hid hd; have HZ4 := Lib.hid (ho.size.trans HZ3.out); have G24 := Lib.hid (show w4.heap[w.heap.size]? = some (.cells #[.int .i64 0, .int .i64 0, .int .i64 0, .int .i64 0, .string ⟨#[]⟩] 48 (0, 0)) from (ho.block _ (by omega)).trans G23.out); have HW4 := Lib.hid (Wide.only (HW3.out) ho); clear hd ho)
      | (go_at_call 57; (with_reducible refine Calls.mono (rtext_calls_eq _ a d y4 e4 20 HD4.out HE4.out H5.out) ?_); rintro r w5 ⟨rfl, hd, ho⟩; have HD5 := Lib.hid hd; have HZ5 := Lib.hid (ho.size.trans HZ4.out); have G25 := Lib.hid (show w5.heap[w.heap.size]? = some (.cells #[.int .i64 0, .int .i64 0, .int .i64 0, .int .i64 0, .string ⟨#[]⟩] 48 (0, 0)) from (ho.block _ (by omega)).trans G24.out); have HW5 := Lib.hid (Wide.only HW4.out ho); clear hd ho)
      | (go_at_call 28; (with_reducible refine Calls.mono (HRC.out _) ?_); rintro r w6 ⟨rfl, hb⟩; have HW6 := Lib.hid (Wide.more (HW5.out.alloc (.cells #[.int .i64 n1, .int .i64 n2, .int .i64 n3, .int .i64 n4, .string s] 48)) hb); have HD6 := Lib.hid ((HD5.out.below ((Below.refl _ _).alloc (Nat.le_refl _) _)).below hb); have G26 := blk_below (alloc_old (.cells #[.int .i64 n1, .int .i64 n2, .int .i64 n3, .int .i64 n4, .string s] 48) G25.out) hb; have m0 : w6.cell? ⟨w5.heap.size, 0, none⟩ = some (.int .i64 n1) := pw_cell_below hb (by go_cell); have p0 : w6.cell? ⟨w.heap.size, 0, none⟩ = some (.int .i64 0) := blk_cell G26 0; have q0 := blk_frozen G26 0; have m1 : w6.cell? ⟨w5.heap.size, 1, none⟩ = some (.int .i64 n2) := pw_cell_below hb (by go_cell); have p1 : w6.cell? ⟨w.heap.size, 1, none⟩ = some (.int .i64 0) := blk_cell G26 1; have q1 := blk_frozen G26 1; have m2 : w6.cell? ⟨w5.heap.size, 2, none⟩ = some (.int .i64 n3) := pw_cell_below hb (by go_cell); have p2 : w6.cell? ⟨w.heap.size, 2, none⟩ = some (.int .i64 0) := blk_cell G26 2; have q2 := blk_frozen G26 2; have m3 : w6.cell? ⟨w5.heap.size, 3, none⟩ = some (.int .i64 n4) := pw_cell_below hb (by go_cell); have p3 : w6.cell? ⟨w.heap.size, 3, none⟩ = some (.int .i64 0) := blk_cell G26 3; have q3 := blk_frozen G26 3; have m4 : w6.cell? ⟨w5.heap.size, 4, none⟩ = some (.string s) := pw_cell_below hb (by go_cell); have p4 : w6.cell? ⟨w.heap.size, 4, none⟩ = some (.string ⟨#[]⟩) := blk_cell G26 4; have q4 := blk_frozen G26 4; clear hb)
      | (fail "no arm"))
  · refine (show ∀ W : World, (W.heap[w.heap.size]? = some (.cells #[.int .i64 0, .int .i64 0, .int .i64 0, .int .i64 0, .string ⟨#[]⟩] 48 (0, 0)) ∧ RD 63 W a d y5 e5 ∧ Wide a w W) → bodyPost _ _ _ _ _ W from fun W h => ?_) _ ⟨(blk_put (blk_put (blk_put (blk_put (blk_put G26 0 (.int .i64 0) rfl) 1 (.int .i64 0) rfl) 2 (.int .i64 0) rfl) 3 (.int .i64 0) rfl) 4 (.string ⟨#[]⟩) rfl), (((((HD6.out.far _ 0 (.int .i64 0) HA2.out HDM.out).far _ 1 (.int .i64 0) HA2.out HDM.out).far _ 2 (.int .i64 0) HA2.out HDM.out).far _ 3 (.int .i64 0) HA2.out HDM.out).far _ 4 (.string ⟨#[]⟩) HA2.out HDM.out), (((((HW6.out.set _ (Nat.le_refl _) 0 (.int .i64 0)).set _ (Nat.le_refl _) 1 (.int .i64 0)).set _ (Nat.le_refl _) 2 (.int .i64 0)).set _ (Nat.le_refl _) 3 (.int .i64 0)).set _ (Nat.le_refl _) 4 (.string ⟨#[]⟩))⟩
    obtain ⟨hG, hRD, hWi⟩ := h
    have k0 : W.cell? ⟨w.heap.size, 0, none⟩ = some (.int .i64 0) := blk_cell hG 0
    have k1 : W.cell? ⟨w.heap.size, 1, none⟩ = some (.int .i64 0) := blk_cell hG 1
    have k2 : W.cell? ⟨w.heap.size, 2, none⟩ = some (.int .i64 0) := blk_cell hG 2
    have k3 : W.cell? ⟨w.heap.size, 3, none⟩ = some (.int .i64 0) := blk_cell hG 3
    have k4 : W.cell? ⟨w.heap.size, 4, none⟩ = some (.string ⟨#[]⟩) := blk_cell hG 4
    have HG := Lib.hid hG
    clear hG
    refine bodyPost_ret (by simp [results, Tryd.results39, go_sem, k0, k1, k2, k3, k4]; try rfl) rfl ?_
    exact ⟨by simp [opV, zeroOp], hRD, hWi⟩
  · refine (show ∀ W : World, (W.heap[w.heap.size]? = some (.cells #[.int .i64 n1, .int .i64 n2, .int .i64 n3, .int .i64 n4, .string s] 48 (0, 0)) ∧ RD 63 W a d y5 e5 ∧ Wide a w W) → bodyPost _ _ _ _ _ W from fun W h => ?_) _ ⟨(blk_put (blk_put (blk_put (blk_put (blk_put G26 0 (.int .i64 n1) rfl) 1 (.int .i64 n2) rfl) 2 (.int .i64 n3) rfl) 3 (.int .i64 n4) rfl) 4 (.string s) rfl), (((((HD6.out.far _ 0 (.int .i64 n1) HA2.out HDM.out).far _ 1 (.int .i64 n2) HA2.out HDM.out).far _ 2 (.int .i64 n3) HA2.out HDM.out).far _ 3 (.int .i64 n4) HA2.out HDM.out).far _ 4 (.string s) HA2.out HDM.out), (((((HW6.out.set _ (Nat.le_refl _) 0 (.int .i64 n1)).set _ (Nat.le_refl _) 1 (.int .i64 n2)).set _ (Nat.le_refl _) 2 (.int .i64 n3)).set _ (Nat.le_refl _) 3 (.int .i64 n4)).set _ (Nat.le_refl _) 4 (.string s))⟩
    obtain ⟨hG, hRD, hWi⟩ := h
    have k0 : W.cell? ⟨w.heap.size, 0, none⟩ = some (.int .i64 n1) := blk_cell hG 0
    have k1 : W.cell? ⟨w.heap.size, 1, none⟩ = some (.int .i64 n2) := blk_cell hG 1
    have k2 : W.cell? ⟨w.heap.size, 2, none⟩ = some (.int .i64 n3) := blk_cell hG 2
    have k3 : W.cell? ⟨w.heap.size, 3, none⟩ = some (.int .i64 n4) := blk_cell hG 3
    have k4 : W.cell? ⟨w.heap.size, 4, none⟩ = some (.string s) := blk_cell hG 4
    have HG := Lib.hid hG
    clear hG
    refine bodyPost_ret (by simp [results, Tryd.results39, go_sem, k0, k1, k2, k3, k4]; try rfl) rfl ?_
    exact ⟨by simp [opV], hRD, hWi⟩
end Go.Proofs.YtfnoegijkdhckaaDoor
/- The walk of the law WireEncodes. -/
namespace Go.Proofs.YtfnoegijkdhckaaDoor
open Go.RowKit Go.Proofs.YtfnoegijkdhckaaDoorW.PrintWords

theorem shortB_of {os : List OpR} (h : shortB os = true) : ∀ o ∈ os, o.name.size ≤ 60 := by
  unfold shortB at h
  rw [List.all_eq_true] at h
  intro o ho
  simpa using h o ho
theorem enc_any (A : Option Addr) (n c : Nat) (os : List OpR) (w : World) (hr : OpsAt w A n os) (hs : ∀ o ∈ os, o.name.size ≤ 9223372036854775807) (hT : Tabs w) :
    Calls Tryd.prog 11 #[.slice A n c] w fun e w' => ∃ v, e = .returned (.tuple #[v, .int .i64 (encE os)]) ∧ OwnB w' w.heap.size v (encL os) ∧ Below w.heap.size w w' := by
  cases h : encOk os
  · rw [encE_no h, encL_no h]
    exact (encode_none A n c os w hr hs hT h).mono fun _ _ ⟨he, hb⟩ => ⟨_, he, own_nil _ _ _ _, hb⟩
  · rw [encE_ok h, encL_ok h]
    exact encode_calls A n c os w hr hs hT h
theorem refenc_any (A : Option Addr) (n c : Nat) (os : List OpR) (w : World) (hr : OpsAt w A n os) (hs : ∀ o ∈ os, o.name.size ≤ 9223372036854775807) :
    Calls Tryd.prog 12 #[.slice A n c] w fun e w' => ∃ v, e = .returned (.tuple #[v, .int .i64 (encE os)]) ∧ OwnB w' w.heap.size v (encL os) ∧ Below w.heap.size w w' := by
  by_cases h64 : 64 < n
  · have h : encOk os = false := by
      unfold encOk
      rw [decide_eq_false (show ¬ os.length ≤ 64 by rw [hr.1]; omega), Bool.false_and]
    rw [encE_no h, encL_no h]
    exact (refencode_long A n c os w hr h64).mono fun _ _ ⟨he, hw⟩ => ⟨_, he, own_nil _ _ _ _, by rw [hw]; exact Below.refl _ _⟩
  · exact refencode_calls A n c os w hr hs (by omega)
set_option maxHeartbeats 2000000 in
theorem wireEncodes_walk (A : Option Addr) (n c : Nat) (os : List OpR) (w : World) (hr : OpsAt w A n os) (hs : ∀ o ∈ os, o.name.size ≤ 9223372036854775807) (hT : Tabs w) :
    Calls Tryd.prog 3 #[.slice A n c] w fun e w' => e = .returned (.bool true) ∧ Below w.heap.size w w' := by
  have hm := hr.2.1
  have HT := Lib.hid hT
  have HR := Lib.hid hr
  have HB := Lib.hid (Below.refl w.heap.size w)
  have HS := Lib.hid (fun (W : World) (h : OpsAt W A n os) => short_calls A n c os W h hs)
  cases hsh : shortB os
  · rw [hsh] at HS
    clear hr hs hT hsh
    go_enter Tryd.func3, Tryd.ntmps3
    go_wp2_with (first
      | (go_at_call 9; (with_reducible refine Calls.mono (awake_calls _ HT.out) ?_); rintro e w1 ⟨rfl, hb⟩; have HR1 := Lib.hid (HR.out.below hb); have HBn := Lib.hid (below_step (by repeat (first | (with_reducible exact HB.out) | apply below_alloc | apply pw_below_drewN | apply below_drew1 | exact HB.out)) hb); clear hb HB; have HB := HBn; clear HBn)
      | (go_at_call 10; (with_reducible refine Calls.mono (HS.out _ HR1.out) ?_); rintro e w2 ⟨rfl, rfl⟩)
      | (fail "no arm"))
    all_goals (go_ret; exact ⟨rfl, HB.out⟩)
  · rw [hsh] at HS
    have he := fun (W : World) (h : OpsAt W A n os) (k : Tabs W) => enc_any A n c os W h hs k
    have hf := fun (W : World) (h : OpsAt W A n os) => refenc_any A n c os W h hs
    generalize encE os = E at *
    generalize encL os = L at *
    have HE := Lib.hid he
    have HF := Lib.hid hf
    clear hr hs hT hsh he hf
    go_enter Tryd.func3, Tryd.ntmps3
    go_wp2_with (first
      | (go_at_call 9; (with_reducible refine Calls.mono (awake_calls _ HT.out) ?_); rintro e w1 ⟨rfl, hb⟩; have HR1 := Lib.hid (HR.out.below hb); have HBn := Lib.hid (below_step (by repeat (first | (with_reducible exact HB.out) | apply below_alloc | apply pw_below_drewN | apply below_drew1 | exact HB.out)) hb); clear hb HB; have HB := HBn; clear HBn)
      | (go_at_call 10; (with_reducible refine Calls.mono (HS.out _ HR1.out) ?_); rintro e w2 ⟨rfl, rfl⟩)
      | (go_at_call 11; go_loud ((with_reducible refine Calls.mono (HE.out _ HR1.out (HT.out.below (by repeat (first | (with_reducible exact HB.out) | apply below_alloc | apply pw_below_drewN | apply below_drew1 | exact HB.out)))) ?_); rintro e w3 ⟨v3, rfl, ho, hb⟩; obtain ⟨A3, c3, rfl, hr3⟩ := own_reads ho; have HC3 := Lib.hid (own_cap ho); have HR3 := Lib.hid hr3; have HR2 := Lib.hid (HR1.out.below hb); clear ho hr3; have HBn := Lib.hid (below_step (by repeat (first | (with_reducible exact HB.out) | apply below_alloc | apply pw_below_drewN | apply below_drew1 | exact HB.out)) hb); clear hb HB; have HB := HBn; clear HBn))
      | (go_at_call 12; go_loud ((with_reducible refine Calls.mono (HF.out _ HR2.out) ?_); rintro e w4 ⟨v4, rfl, ho, hb⟩; obtain ⟨A4, c4, rfl, hr4⟩ := own_reads ho; have HC4 := Lib.hid (own_cap ho); have HR4 := Lib.hid hr4; have HR5 := Lib.hid (HR3.out.below hb); clear ho hr4; have HBn := Lib.hid (below_step (by repeat (first | (with_reducible exact HB.out) | apply below_alloc | apply pw_below_drewN | apply below_drew1 | exact HB.out)) hb); clear hb HB; have HB := HBn; clear HBn))
      | (go_at_call 13; go_loud ((refine (same_calls_eq _ HR5.out HC3.out HR4.out HC4.out rfl).mono ?_); rintro e v9 ⟨rfl, m9, rfl⟩))
      | (fail "no arm"))
    all_goals (go_ret; exact ⟨rfl, (by repeat (first | (with_reducible exact HB.out) | apply below_alloc | apply pw_below_drewN | apply below_drew1 | exact HB.out))⟩)
end Go.Proofs.YtfnoegijkdhckaaDoor
/- The reference's Decode: what it comes to. -/
namespace Go.Proofs.YtfnoegijkdhckaaDoor
open Go.RowKit Go.Proofs.YtfnoegijkdhckaaDoorW.PrintWords

/-- So many operations are read. -/
def tkN : Nat → List Int → Option (List OpR)
  | 0, _ => some []
  | j + 1, ys => if opRight (tkOp ys 0) = true then (tkN j (tk5 ys 0).2.1).map (tkOp ys 0 :: ·) else none
theorem tkN_succ {j : Nat} {ys : List Int} {os : List OpR} (h : tkN (j + 1) ys = some os) : ∃ r, os = tkOp ys 0 :: r ∧ opRight (tkOp ys 0) = true ∧ tkN j (tk5 ys 0).2.1 = some r := by
  rw [tkN] at h
  by_cases hr : opRight (tkOp ys 0) = true
  · rw [if_pos hr] at h
    obtain ⟨r, h1, h2⟩ := Option.map_eq_some_iff.1 h
    exact ⟨r, h2.symm, hr, h1⟩
  · rw [if_neg hr] at h; cases h
theorem tkN_fails {j : Nat} {ys : List Int} (h : tkN (j + 1) ys = none) : opRight (tkOp ys 0) = false ∨ (opRight (tkOp ys 0) = true ∧ tkN j (tk5 ys 0).2.1 = none) := by
  rw [tkN] at h
  by_cases hr : opRight (tkOp ys 0) = true
  · rw [if_pos hr] at h
    exact .inr ⟨hr, by simpa using h⟩
  · exact .inl (by simpa using hr)
theorem tkN_len (j : Nat) : ∀ (ys : List Int) (os : List OpR), tkN j ys = some os → os.length = j := by
  induction j with
  | zero => intro ys os h; rw [tkN] at h; injection h with h; rw [← h]; rfl
  | succ j ih =>
    intro ys os h
    obtain ⟨r, rfl, _, h2⟩ := tkN_succ h
    rw [List.length_cons, ih _ _ h2]
theorem tkN_right (j : Nat) : ∀ (ys : List Int) (os : List OpR), tkN j ys = some os → os.all opRight = true := by
  induction j with
  | zero => intro ys os h; rw [tkN] at h; injection h with h; rw [← h]; rfl
  | succ j ih =>
    intro ys os h
    obtain ⟨r, rfl, h1, h2⟩ := tkN_succ h
    rw [List.all_cons, h1, ih _ _ h2]; rfl
theorem tkN_forms (os : List OpR) (zs : List Int) (h : os.all opRight = true) : tkN os.length (forms os ++ zs) = some os := by
  induction os with
  | nil => rfl
  | cons o os ih =>
    simp only [List.all_cons, Bool.and_eq_true] at h
    obtain ⟨h1, h2, h3⟩ := put_take h.1 (forms os ++ zs)
    have e : forms (o :: os) ++ zs = opForm o ++ (forms os ++ zs) := by simp [forms]
    rw [List.length_cons, tkN, e, h1, h2, if_pos h.1, ih h.2]
    rfl
theorem OwnO.wideR {W W' : World} {base a d : Nat} {v : Value} {os : List OpR} {ys : List Int} {e : Int} (h : OwnO W base v os) (hr : RD 63 W a d ys e) (hw : Wide a W W') : OwnO W' base v os := by
  obtain ⟨A, c, hk, _⟩ := hr.out
  have hne := OwnRow.ne_block h hk (by decide)
  obtain ⟨inner, ho, hrp⟩ := h
  exact ⟨inner, own_move ho (fun k hk' => hw.block k (own_lt ho k hk') (fun e => hne (by rw [← e, hk']))), hrp⟩
theorem cell_lt {w : World} {a : Addr} {v : Value} (h : w.cell? a = some v) : a.block < w.heap.size := by
  rcases Nat.lt_or_ge a.block w.heap.size with hlt | hge
  · exact hlt
  · exfalso
    have hn : w.heap[a.block]? = none := Array.getElem?_eq_none hge
    unfold World.cell? at h
    rw [hn] at h
    cases h
theorem rd_new {w : World} {A : Option Addr} {n c : Nat} {xs : List Int} (hr : ReadsInt w .u8 A n xs) (hc : n ≤ c) (hx : ∀ x ∈ xs, 0 ≤ x ∧ x < 256) :
    ∃ d, RD 63 (w.alloc (.cells #[.slice A n c, .int .i64 0] 63)) w.heap.size d xs 0 ∧ (0 < n → d < w.heap.size) := by
  obtain rfl : xs.length = n := hr.1
  cases A with
  | none => 
    have h0 : ¬ 0 < xs.length := fun h => by obtain ⟨ad, e, _⟩ := hr.2.2 h; cases e
    exact ⟨w.heap.size + 1, ⟨none, c, alloc_at _ _, hr.below (below_alloc (Below.refl _ _) _), hc, (fun ad e _ => by cases e), by omega, hx⟩, fun h => absurd h h0⟩
  | some ad =>
    by_cases h0 : 0 < xs.length
    · obtain ⟨ad', e, hcell⟩ := hr.2.2 h0
      cases e
      have h1 := hcell 0 h0
      have hlt : ad.block < w.heap.size := by
        have hb := cell_lt h1
        rw [add_block] at hb
        exact hb
      exact ⟨ad.block, ⟨some ad, c, alloc_at _ _, hr.below (below_alloc (Below.refl _ _) _), hc, (fun ad' e _ => by cases e; rfl), by omega, hx⟩, fun _ => hlt⟩
    · exact ⟨w.heap.size + 1, ⟨some ad, c, alloc_at _ _, hr.below (below_alloc (Below.refl _ _) _), hc, fun ad e h => absurd h h0, by omega, hx⟩, fun h => absurd h h0⟩

set_option maxRecDepth 100000 in
set_option maxHeartbeats 4000000 in
theorem refdec_none (A : Option Addr) (n c : Nat) (xs : List Int) (w : World) (hr : ReadsInt w .u8 A n xs) (hc : n ≤ c) (hx : ∀ x ∈ xs, 0 ≤ x ∧ x < 256) (hn : 0 < n) (n0 n1 e0 e1 : Int) (m : Nat) (y0 y1 y2 : List Int) (h0 : rdNum xs 0 65535 = (n0, y0, e0)) (h1 : rdNum y0 e0 1 = (n1, y1, e1)) (h2 : rdNum y1 e1 64 = ((m : Int), y2, 0)) (hm : m ≤ 64) (hrun : tkN m y2 = none) :
    Calls Tryd.prog 15 #[.slice A n c] w fun e w' => e = .returned (.tuple #[.slice none 0 0, .int .i64 3]) ∧ Below w.heap.size w w' := by
  have H0 := Lib.hid (fun (W : World) (a d : Nat) (h : RD 63 W a d xs 0) => rnum_calls_eq W a d xs 0 65535 h h0)
  have H1 := Lib.hid (fun (W : World) (a d : Nat) (h : RD 63 W a d y0 e0) => rnum_calls_eq W a d y0 e0 1 h h1)
  have H2 := Lib.hid (fun (W : World) (a d : Nat) (h : RD 63 W a d y1 e1) => rnum_calls_eq W a d y1 e1 64 h h2)
  obtain ⟨d, hd0, hdl⟩ := rd_new hr hc hx
  have HD0 := Lib.hid hd0
  have hm2 := hr.2.1
  have hdl := hdl hn
  have HB := Lib.hid (Below.refl w.heap.size w)
  have HAA : w.heap.size ≤ w.heap.size := Nat.le_refl _
  have HRUN := Lib.hid hrun
  clear hr hx h0 h1 h2 hd0 hrun
  go_enter Tryd.func15, Tryd.ntmps15
  go_wp2_with (first
    | (go_at_call 38; (with_reducible refine Calls.mono (H0.out _ _ d HD0.out) ?_); rintro r w1 ⟨rfl, hd, ho⟩; have HD1 := Lib.hid hd; have HZ1 := Lib.hid ho.size; clear hd; have HBn := Lib.hid (Below.trans (by repeat (first | (with_reducible exact HB.out) | apply below_alloc | apply pw_below_drewN | apply below_drew1 | exact HB.out)) (ho.below HAA)); clear ho HB; have HB := HBn; clear HBn)
    | (go_at_call 38; (with_reducible refine Calls.mono (H1.out _ _ d HD1.out) ?_); rintro r w2 ⟨rfl, hd, ho⟩; have HD2 := Lib.hid hd; have HZ2 := Lib.hid (ho.size.trans HZ1.out); clear hd; have HBn := Lib.hid (Below.trans (by repeat (first | (with_reducible exact HB.out) | apply below_alloc | apply pw_below_drewN | apply below_drew1 | exact HB.out)) (ho.below HAA)); clear ho HB; have HB := HBn; clear HBn)
    | (go_at_call 38; (with_reducible refine Calls.mono (H2.out _ _ d HD2.out) ?_); rintro r w3 ⟨rfl, hd, ho⟩; have HD3 := Lib.hid hd; have HZ3 := Lib.hid (ho.size.trans HZ2.out); clear hd; have HBn := Lib.hid (Below.trans (by repeat (first | (with_reducible exact HB.out) | apply below_alloc | apply pw_below_drewN | apply below_drew1 | exact HB.out)) (ho.below HAA)); clear ho HB; have HB := HBn; clear HBn)
    | (fail "no arm"))
  have HSZ := Lib.hid (show w3.heap.size = w.heap.size + 1 by rw [HZ3.out, World.size_alloc])
  go_loopw [6, 7] (fun vo vi W => ∃ (k : Nat) (us : List Int) (os : List OpR), vi = .int .i64 k ∧ k ≤ m ∧ Hid (os.length = k) ∧ Hid (RD 63 W w.heap.size d us 0) ∧ Hid (tkN (m - k) us = none) ∧ Hid (OwnO W (w.heap.size + 1) vo os) ∧ Hid (w.heap.size + 1 ≤ W.heap.size) ∧ Hid (Below w.heap.size w W)) (fun _ vi _ => (m - (RowKit.intOf vi).toNat))
  case atStart => exact ⟨0, y2, [], rfl, by omega, Lib.hid rfl, HD3, HRUN, Lib.hid (OwnRow.none_ _ _ _ _ _), Lib.hid (Nat.le_of_eq HSZ.out.symm), HB⟩
  case round =>
    clear HB HD3 HRUN
    obtain ⟨k, us, os, rfl, hk, HLK, HD, HRU, HO, HLE, HB⟩ := hrel
    have hlt : k < m := by
      rcases Nat.lt_or_ge k m with h | h
      · exact h
      · have := HRU.out
        rw [show m - k = 0 by omega, tkN] at this
        cases this
    obtain ⟨j, hj⟩ : ∃ j, m - k = j + 1 := ⟨m - k - 1, by omega⟩
    have hru := HRU.out
    rw [hj] at hru
    have ht := fun (v : World) (a d : Nat) h hd => reftake_calls v a d us 0 h (by decide) hd
    obtain ⟨RA, rc, hb, _⟩ := HD.out.out
    have b1 := blk_cell hb 1
    simp at b1
    clear hb
    rcases tkN_fails hru with hright | ⟨hright, hrest⟩
    · rw [hright, if_neg (by decide)] at ht
      simp only [opV, zeroOp] at ht
      have HTK := Lib.hid ht
      clear hru ht hright hj HRU
      go_wp2_with (first
        | (go_at_call 39; go_loud ((refine (HTK.out _ _ d HD.out (Nat.lt_of_lt_of_le (Nat.lt_succ_of_lt hdl) HLE.out)).mono ?_); rintro e w6 ⟨rfl, hd, hw⟩; clear b1; have HBn := Lib.hid (hw.below HB.out HAA HB.out.size); clear hd hw HB; have HB := HBn; clear HBn))
        | (fail "no arm"))
      go_ret2
      exact ⟨rfl, (by repeat (first | (with_reducible exact HB.out) | apply below_alloc | apply pw_below_drewN | apply below_drew1 | exact HB.out))⟩
    · rw [if_pos hright, hright, tk5_zero hright] at ht
      have HRU2 := Lib.hid (show tkN (m - (k + 1)) (tk5 us 0).2.1 = none by rw [show m - (k + 1) = j by omega]; exact hrest)
      have hplen : os.length ≤ 64 := by rw [HLK.out]; omega
      generalize tkOp us 0 = q at *
      generalize (tk5 us 0).2.1 = vs at *
      simp only [opV] at ht
      have HTK := Lib.hid ht
      have HL2 := Lib.hid (show (os ++ [q]).length = k + 1 by rw [List.length_append, HLK.out]; rfl)
      clear hru hright hrest ht hj HRU
      go_wp2_with (first
        | (go_at_call 39; go_loud ((refine (HTK.out _ _ d HD.out (Nat.lt_of_lt_of_le (Nat.lt_succ_of_lt hdl) HLE.out)).mono ?_); rintro e w6 ⟨rfl, hd, hw⟩; clear b1; have HO6 := Lib.hid (OwnO.wideR HO.out HD.out hw); have HD6 := Lib.hid hd; have HLE6 := Lib.hid (show w.heap.size + 1 ≤ w6.heap.size from Nat.le_trans HLE.out hw.size); have HBn := Lib.hid (hw.below HB.out HAA HB.out.size); clear hd hw HB; have HB := HBn; clear HBn))
        | (at_builtin; go_loud ((refine OwnRow.append (R := fun p cs => cs = opCells p) (w0 := w6.alloc (.cells #[.int .i64 q.n, .int .i64 q.r, .int .i64 q.node, .int .i64 q.par, .string q.name] 48)) (W := w6.alloc (.cells #[.int .i64 q.n, .int .i64 q.r, .int .i64 q.node, .int .i64 q.par, .string q.name] 48)) (w.heap.size + 1) rfl (.tmp 40) (.tmp 42) 22 48 _ 5 48 rfl Tryd.underlying22 opInfo rfl (by decide) (by decide) _ os q [.int .i64 q.n, .int .i64 q.r, .int .i64 q.node, .int .i64 q.par, .string q.name] (by rfl) (by simp [Act.eval, World.size_alloc]) rfl rfl (by simp [Value.oneCell']) (OwnRow.below HO6.out ((Below.refl _ _).alloc (Nat.le_refl _) _)) (Below.refl _ _) ?hbase ?hl ?_; (case hbase => rw [World.size_alloc]; exact Nat.le_succ_of_le HLE6.out); (case hl => omega); intro v8 w8 ho hb hg hat; have HO8 := Lib.hid ho; have HD8 := Lib.hid ((HD6.out.below ((Below.refl _ _).alloc (Nat.le_refl _) _)).keepB hb (Nat.lt_succ_self _) (Nat.lt_succ_of_lt hdl)); have HLE8 := Lib.hid (show w.heap.size + 1 ≤ w8.heap.size from Nat.le_trans (by rw [World.size_alloc]; exact Nat.le_succ_of_le HLE6.out) hb.size); have HBn := Lib.hid (below_wide (HB.out.alloc HB.out.size _) hb (by omega)); clear HB ho hb hg hat; have HB := HBn; clear HBn)))
        | (fail "no arm"))
      go_roundw
      case rel => exact ⟨k + 1, vs, os ++ [q], by go_num, by omega, HL2, HD8, HRU2, HO8, HLE8, HB⟩
      case measure => simp [RowKit.intOf] <;> omega

/-- What the reference's Decode answers, where these operations were read. -/
def refE (xs : List Int) (os : List OpR) : Int := if encL os = xs then 0 else 3
def refO (xs : List Int) (os : List OpR) : List OpR := if encL os = xs then os else []
theorem encL_range (os : List OpR) : ∀ x ∈ encL os, 0 ≤ x ∧ x < 256 := by
  cases h : encOk os
  · rw [encL_no h]; simp
  · rw [encL_ok h]; exact encB_range os
set_option maxRecDepth 100000 in
set_option maxHeartbeats 4000000 in
theorem refdec_some (A : Option Addr) (n c : Nat) (xs : List Int) (os : List OpR) (w : World) (hr : ReadsInt w .u8 A n xs) (hc : n ≤ c) (hx : ∀ x ∈ xs, 0 ≤ x ∧ x < 256) (n0 n1 e0 e1 e2 : Int) (m : Nat) (y0 y1 y2 : List Int) (h0 : rdNum xs 0 65535 = (n0, y0, e0)) (h1 : rdNum y0 e0 1 = (n1, y1, e1)) (h2 : rdNum y1 e1 64 = ((m : Int), y2, e2)) (hm : m ≤ 64) (hpos : 0 < m → e2 = 0 ∧ 0 < n) (hrun : tkN m y2 = some os) :
    Calls Tryd.prog 15 #[.slice A n c] w fun e w' => ∃ v, e = .returned (.tuple #[v, .int .i64 (refE xs os)]) ∧ OwnO w' w.heap.size v (refO xs os) ∧ Below w.heap.size w w' := by
  have H0 := Lib.hid (fun (W : World) (a d : Nat) (h : RD 63 W a d xs 0) => rnum_calls_eq W a d xs 0 65535 h h0)
  have H1 := Lib.hid (fun (W : World) (a d : Nat) (h : RD 63 W a d y0 e0) => rnum_calls_eq W a d y0 e0 1 h h1)
  have H2 := Lib.hid (fun (W : World) (a d : Nat) (h : RD 63 W a d y1 e1) => rnum_calls_eq W a d y1 e1 64 h h2)
  obtain ⟨d, hd0, hdl⟩ := rd_new hr hc hx
  have HD0 := Lib.hid hd0
  have hm2 := hr.2.1
  have HXR := Lib.hid hr
  have HB := Lib.hid (Below.refl w.heap.size w)
  have HAA : w.heap.size ≤ w.heap.size := Nat.le_refl _
  have HRUN := Lib.hid hrun
  have HPOS := Lib.hid hpos
  have HDL := Lib.hid hdl
  have hol := tkN_len m y2 os hrun
  have hsm : ∀ o ∈ os, o.name.size ≤ 9223372036854775807 := by
    intro o ho
    have := (right_bounds (List.all_eq_true.1 (tkN_right m y2 os hrun) o ho)).2.2.2.2
    omega
  have hl := Lib.hid hol
  have HENC := Lib.hid (fun (A : Option Addr) (n c : Nat) (W : World) (h : OpsAt W A n os) => refenc_any A n c os W h hsm)
  have hq : ((encL os = xs ∧ ((strOfNums (encL os)).toList == (strOfNums xs).toList) = true ∧ refE xs os = 0 ∧ refO xs os = os) ∨ (((strOfNums (encL os)).toList == (strOfNums xs).toList) = false ∧ refE xs os = 3 ∧ refO xs os = [])) := by
    by_cases h : encL os = xs
    · refine .inl ⟨h, ?_, by rw [refE, if_pos h], by rw [refO, if_pos h]⟩
      rw [h]; simp
    · refine .inr ⟨?_, by rw [refE, if_neg h], by rw [refO, if_neg h]⟩
      exact str_ne (encL_range os) hx h
  have HQ := Lib.hid hq
  clear hr hx h0 h1 h2 hd0 hrun hpos hdl hol hsm hq
  generalize encL os = EL at *
  generalize refE xs os = FE at *
  generalize refO xs os = FO at *
  go_enter Tryd.func15, Tryd.ntmps15
  go_wp2_with (first
    | (go_at_call 38; (with_reducible refine Calls.mono (H0.out _ _ d HD0.out) ?_); rintro r w1 ⟨rfl, hd, ho⟩; have HD1 := Lib.hid hd; have HZ1 := Lib.hid ho.size; clear hd; have HBn := Lib.hid (Below.trans (by repeat (first | (with_reducible exact HB.out) | apply below_alloc | apply pw_below_drewN | apply below_drew1 | exact HB.out)) (ho.below HAA)); clear ho HB; have HB := HBn; clear HBn)
    | (go_at_call 38; (with_reducible refine Calls.mono (H1.out _ _ d HD1.out) ?_); rintro r w2 ⟨rfl, hd, ho⟩; have HD2 := Lib.hid hd; have HZ2 := Lib.hid (ho.size.trans HZ1.out); clear hd; have HBn := Lib.hid (Below.trans (by repeat (first | (with_reducible exact HB.out) | apply below_alloc | apply pw_below_drewN | apply below_drew1 | exact HB.out)) (ho.below HAA)); clear ho HB; have HB := HBn; clear HBn)
    | (go_at_call 38; (with_reducible refine Calls.mono (H2.out _ _ d HD2.out) ?_); rintro r w3 ⟨rfl, hd, ho⟩; have HD3 := Lib.hid hd; have HZ3 := Lib.hid (ho.size.trans HZ2.out); clear hd; have HBn := Lib.hid (Below.trans (by repeat (first | (with_reducible exact HB.out) | apply below_alloc | apply pw_below_drewN | apply below_drew1 | exact HB.out)) (ho.below HAA)); clear ho HB; have HB := HBn; clear HBn)
    | (fail "no arm"))
  have HSZ := Lib.hid (show w3.heap.size = w.heap.size + 1 by rw [HZ3.out, World.size_alloc])
  go_loopw [6, 7] (fun vo vi W => ∃ (k : Nat) (us : List Int) (e : Int), vi = .int .i64 k ∧ k ≤ m ∧ Hid (k < m → e = 0) ∧ Hid (RD 63 W w.heap.size d us e) ∧ Hid (tkN (m - k) us = some (os.drop k)) ∧ Hid (OwnO W (w.heap.size + 1) vo (os.take k)) ∧ Hid (w.heap.size + 1 ≤ W.heap.size) ∧ Hid (Below w.heap.size w W)) (fun _ vi _ => (m - (RowKit.intOf vi).toNat))
  case atStart => exact ⟨0, y2, e2, rfl, by omega, Lib.hid (fun h => (HPOS.out h).1), HD3, HRUN, Lib.hid (OwnRow.none_ _ _ _ _ _), Lib.hid (Nat.le_of_eq HSZ.out.symm), HB⟩
  case round =>
    clear HB HD3 HRUN
    obtain ⟨k, us, e, rfl, hk, HE, HD, HRU, HO, HLE, HB⟩ := hrel
    by_cases hlt : k < m
    · obtain rfl := HE.out hlt
      have hdl : d < w.heap.size := HDL.out (HPOS.out (by omega)).2
      obtain ⟨j, hj⟩ : ∃ j, m - k = j + 1 := ⟨m - k - 1, by omega⟩
      have hru := HRU.out
      rw [hj] at hru
      obtain ⟨r, he, hright, hrest⟩ := tkN_succ hru
      have ht := fun (v : World) (a d : Nat) h hd => reftake_calls v a d us 0 h (by decide) hd
      rw [if_pos hright, hright, tk5_zero hright] at ht
      have hkl : k < os.length := by rw [hl.out]; exact hlt
      have htake : os.take (k + 1) = os.take k ++ [tkOp us 0] := by
        rw [List.take_succ_eq_append_getElem hkl]
        rw [List.drop_eq_getElem_cons hkl] at he
        injection he with he1 _
        rw [he1]
      have hdrop : os.drop (k + 1) = r := by
        rw [List.drop_eq_getElem_cons hkl] at he
        injection he with _ he2
      have HRU2 := Lib.hid (show tkN (m - (k + 1)) (tk5 us 0).2.1 = some (os.drop (k + 1)) by rw [hdrop, show m - (k + 1) = j by omega]; exact hrest)
      have hplen : (os.take k).length ≤ 64 := by rw [List.length_take]; omega
      obtain ⟨RA, rc, hb, _⟩ := HD.out.out
      have b1 := blk_cell hb 1
      simp at b1
      clear hb
      generalize tkOp us 0 = q at *
      generalize (tk5 us 0).2.1 = vs at *
      simp only [opV] at ht
      have HTK := Lib.hid ht
      have HTAKE := Lib.hid htake
      clear hru he hright hrest ht htake hdrop hj HRU
      go_wp2_with (first
        | (go_at_call 39; go_loud ((refine (HTK.out _ _ d HD.out (Nat.lt_of_lt_of_le (Nat.lt_succ_of_lt hdl) HLE.out)).mono ?_); rintro e w6 ⟨rfl, hd, hw⟩; clear b1; have HO6 := Lib.hid (OwnO.wideR HO.out HD.out hw); have HD6 := Lib.hid hd; have HLE6 := Lib.hid (show w.heap.size + 1 ≤ w6.heap.size from Nat.le_trans HLE.out hw.size); have HBn := Lib.hid (hw.below HB.out HAA HB.out.size); clear hd hw HB; have HB := HBn; clear HBn))
        | (at_builtin; go_loud ((refine OwnRow.append (R := fun p cs => cs = opCells p) (w0 := w6.alloc (.cells #[.int .i64 q.n, .int .i64 q.r, .int .i64 q.node, .int .i64 q.par, .string q.name] 48)) (W := w6.alloc (.cells #[.int .i64 q.n, .int .i64 q.r, .int .i64 q.node, .int .i64 q.par, .string q.name] 48)) (w.heap.size + 1) rfl (.tmp 40) (.tmp 42) 22 48 _ 5 48 rfl Tryd.underlying22 opInfo rfl (by decide) (by decide) _ (os.take k) q [.int .i64 q.n, .int .i64 q.r, .int .i64 q.node, .int .i64 q.par, .string q.name] (by rfl) (by simp [Act.eval, World.size_alloc]) rfl rfl (by simp [Value.oneCell']) (OwnRow.below HO6.out ((Below.refl _ _).alloc (Nat.le_refl _) _)) (Below.refl _ _) ?hbase ?hl ?_; (case hbase => rw [World.size_alloc]; exact Nat.le_succ_of_le HLE6.out); (case hl => omega); intro v8 w8 ho hb hg hat; have HO8 := Lib.hid ho; have HD8 := Lib.hid ((HD6.out.below ((Below.refl _ _).alloc (Nat.le_refl _) _)).keepB hb (Nat.lt_succ_self _) (Nat.lt_succ_of_lt hdl)); have HLE8 := Lib.hid (show w.heap.size + 1 ≤ w8.heap.size from Nat.le_trans (by rw [World.size_alloc]; exact Nat.le_succ_of_le HLE6.out) hb.size); have HBn := Lib.hid (below_wide (HB.out.alloc HB.out.size _) hb (by omega)); clear HB ho hb hg hat; have HB := HBn; clear HBn)))
        | (fail "no arm"))
      go_roundw
      case rel => exact ⟨k + 1, vs, 0, by go_num, by omega, Lib.hid (fun _ => rfl), HD8, HRU2, Lib.hid (by rw [HTAKE.out]; exact HO8.out), HLE8, HB⟩
      case measure => simp [RowKit.intOf] <;> omega
    · obtain rfl : k = m := by omega
      have hall : os.take k = os := List.take_of_length_le (by rw [hl.out]; exact Nat.le_refl _)
      have hO := HO.out
      rw [hall] at hO
      obtain ⟨A5, c5, rfl, hc5, hr5⟩ := OwnO.ops hO
      have HO5 := Lib.hid hO
      have HR5 := Lib.hid hr5
      have HX5 := Lib.hid (HXR.out.below HB.out)
      clear hO HO hall hr5
      generalize os.length = L at *
      rcases HQ.out with ⟨hE, hq, rfl, rfl⟩ | ⟨hq, rfl, rfl⟩
      · have HQ1 := Lib.hid hq
        clear hq hE HQ
        go_wp2_with (first
          | (go_at_call 12; go_loud ((refine (HENC.out _ _ _ _ HR5.out).mono ?_); rintro e w9 ⟨v9, rfl, ho, hb⟩; obtain ⟨A9, c9, rfl, hr9⟩ := own_reads ho; have HO9 := Lib.hid (OwnRow.below HO5.out hb); have hcv1 := string_of_reads (P := Tryd.prog) (c := c9) (src := 25) (dst := 9) Tryd.underlying25 Tryd.underlying5 Tryd.underlying9 hr9; have hcv2 := string_of_reads (P := Tryd.prog) (c := c) (src := 25) (dst := 9) Tryd.underlying25 Tryd.underlying5 Tryd.underlying9 (HX5.out.below hb); clear ho hr9; have HBn := Lib.hid (below_step (by repeat (first | (with_reducible exact HB.out) | apply below_alloc | apply pw_below_drewN | apply below_drew1 | exact HB.out)) hb); clear hb HB; have HB := HBn; clear HBn))
          | (fail "no arm"))
        · exfalso
          have hh := ‹(!(strOfNums EL).toList == (strOfNums xs).toList) = true›
          rw [HQ1.out] at hh
          cases hh
        · go_ret2
          exact ⟨_, rfl, OwnRow.lower HO9.out (by omega), (by repeat (first | (with_reducible exact HB.out) | apply below_alloc | apply pw_below_drewN | apply below_drew1 | exact HB.out))⟩
      · have HQ1 := Lib.hid hq
        clear hq HQ
        go_wp2_with (first
          | (go_at_call 12; go_loud ((refine (HENC.out _ _ _ _ HR5.out).mono ?_); rintro e w9 ⟨v9, rfl, ho, hb⟩; obtain ⟨A9, c9, rfl, hr9⟩ := own_reads ho; have hcv1 := string_of_reads (P := Tryd.prog) (c := c9) (src := 25) (dst := 9) Tryd.underlying25 Tryd.underlying5 Tryd.underlying9 hr9; have hcv2 := string_of_reads (P := Tryd.prog) (c := c) (src := 25) (dst := 9) Tryd.underlying25 Tryd.underlying5 Tryd.underlying9 (HX5.out.below hb); clear ho hr9; have HBn := Lib.hid (below_step (by repeat (first | (with_reducible exact HB.out) | apply below_alloc | apply pw_below_drewN | apply below_drew1 | exact HB.out)) hb); clear hb HB; have HB := HBn; clear HBn))
          | (fail "no arm"))
        · go_ret2
          exact ⟨_, rfl, OwnRow.none_ _ _ _ _ _, (by repeat (first | (with_reducible exact HB.out) | apply below_alloc | apply pw_below_drewN | apply below_drew1 | exact HB.out))⟩
        · exfalso
          have hh := ‹(!(strOfNums EL).toList == (strOfNums xs).toList) = false›
          rw [HQ1.out] at hh
          cases hh
end Go.Proofs.YtfnoegijkdhckaaDoor
/- The reference's Decode and Cut of any bytes. -/
namespace Go.Proofs.YtfnoegijkdhckaaDoor
open Go.RowKit Go.Proofs.YtfnoegijkdhckaaDoorW.PrintWords

theorem encOk_nil : encOk [] = true := by decide +kernel
theorem encB_ne (os : List OpR) : encB os ≠ [] := by
  intro h
  have h1 : 1 ≤ (encB os).length ∨ (encB os).length = 0 := by omega
  have h2 : 4 ≤ (encS os).length := by rw [encS_len]; omega
  rw [encB] at h
  have := (List.append_eq_nil_iff.1 h).2
  rw [this] at h2
  simp at h2
theorem rdNum_zero_val {xs : List Int} {e most : Int} (hx : ∀ x ∈ xs, 0 ≤ x ∧ x < 256) (h : (rdNum xs e most).2.2 ≠ 0) : (rdNum xs e most).1 = 0 := by
  by_cases he : e = 0
  · subst he
    rcases rdNum_cases xs most hx with ⟨e', k, _⟩ | ⟨k, n, k1, _⟩
    · rw [k]
    · rw [k1] at h; exact absurd rfl h
  · rw [rdNum_err he]

set_option maxHeartbeats 1000000 in
/-- The reference's Decode answers as Decode. -/
theorem refdec_any (A : Option Addr) (n c : Nat) (xs : List Int) (w : World) (hr : ReadsInt w .u8 A n xs) (hc : n ≤ c) (hx : ∀ x ∈ xs, 0 ≤ x ∧ x < 256) :
    Calls Tryd.prog 15 #[.slice A n c] w fun e w' => ∃ v, e = .returned (.tuple #[v, .int .i64 (decE xs)]) ∧ OwnO w' w.heap.size v (decO xs) ∧ Below w.heap.size w w' := by
  have k0 := rdNum_len xs 0 65535 hx
  rcases h0 : rdNum xs 0 65535 with ⟨n0, y0, e0⟩
  rw [h0] at k0
  simp only at k0
  have k1 := rdNum_len y0 e0 1 k0.2
  rcases h1 : rdNum y0 e0 1 with ⟨n1, y1, e1⟩
  rw [h1] at k1
  simp only at k1
  have k2 := rdNum_len y1 e1 64 k1.2
  have z2 := rdNum_zero_val (xs := y1) (e := e1) (most := 64) k1.2
  have r1 := rdNum_range xs 0 65535 (fun x h => (hx x h).1) (by decide)
  rw [h0] at r1
  have r2 := rdNum_range y0 e0 1 (fun x h => (k0.2 x h).1) ⟨r1.2.2.2.1, r1.2.2.2.2⟩
  rw [h1] at r2
  have r3 := rdNum_range y1 e1 64 (fun x h => (k1.2 x h).1) ⟨r2.2.2.2.1, r2.2.2.2.2⟩
  rcases h2 : rdNum y1 e1 64 with ⟨m', y2, e2⟩
  rw [h2] at z2 r3
  simp only at z2 r3
  obtain ⟨m, rfl⟩ := Int.eq_ofNat_of_zero_le r3.1
  have hm : m ≤ 64 := by
    by_cases h : e2 = 0
    · have := r3.2.2.1 h; omega
    · have := z2 h; omega
  have hpos : 0 < m → e2 = 0 ∧ 0 < n := by
    intro hp
    have he2 : e2 = 0 := by
      by_cases h : e2 = 0
      · exact h
      · have := z2 h; omega
    refine ⟨he2, ?_⟩
    rcases Nat.eq_zero_or_pos n with h | h
    · exfalso
      have hx0 : xs = [] := List.length_eq_zero_iff.1 (by rw [hr.1]; exact h)
      subst hx0
      rw [show rdNum [] 0 65535 = (0, [], 2) from rfl] at h0
      cases h0
      rw [rdNum_err (by decide)] at h1
      cases h1
      rw [rdNum_err (by decide)] at h2
      cases h2
      cases he2
    · exact h
  -- what Decode makes of these bytes
  have key : ∀ os, decR xs = some os → tkN m y2 = some os ∧ encL os = xs := by
    intro os h
    obtain ⟨p1, p2⟩ := decR_enc hx h
    have hk : os.length ≤ 64 := by
      unfold encOk at p1
      simp only [Bool.and_eq_true, decide_eq_true_eq] at p1
      exact p1.1
    have hal : os.all opRight = true := by
      unfold encOk at p1
      simp only [Bool.and_eq_true] at p1
      exact p1.2
    have hA := encA_len os
    have hS := encS_len os
    have q0 := rdNum_form (encS os).length (by omega) (by omega) (encS os) 65535
    rw [if_neg (by omega), show form ((encS os).length : Int) ++ encS os = encB os from rfl, p2, h0] at q0
    cases q0
    have e1' : encS os = form 1 ++ (form os.length ++ (forms os ++ fourL (sumN (encA os)))) := by
      rw [encS, encA]
      simp only [List.append_assoc]
      rfl
    have q1 := rdNum_form 1 (by decide) (by decide) (form os.length ++ (forms os ++ fourL (sumN (encA os)))) 1
    rw [if_neg (by decide), ← e1', h1] at q1
    cases q1
    have q2 := rdNum_form os.length (by omega) (by omega) (forms os ++ fourL (sumN (encA os))) 64
    rw [if_neg (by omega), h2] at q2
    have hmo : m = os.length := by injection q2 with a _; omega
    have hy2 : y2 = forms os ++ fourL (sumN (encA os)) := by injection q2 with _ b; injection b
    rw [hmo, hy2]
    exact ⟨tkN_forms os _ hal, by rw [encL_ok p1, p2]⟩
  cases ht : tkN m y2 with
  | none =>
    have hd : decR xs = none := by
      cases hd : decR xs with
      | none => rfl
      | some os => rw [(key os hd).1] at ht; cases ht
    have hmp : 0 < m := by
      rcases Nat.eq_zero_or_pos m with h | h
      · rw [h, tkN] at ht; cases ht
      · exact h
    obtain ⟨rfl, hn⟩ := hpos hmp
    rw [decE_none hd, decO_none hd]
    exact (refdec_none A n c xs w hr hc hx hn n0 n1 e0 e1 m y0 y1 y2 h0 h1 h2 hm ht).mono fun _ _ ⟨he, hb⟩ => ⟨_, he, OwnRow.none_ _ _ _ _ _, hb⟩
  | some os =>
    have h := refdec_some A n c xs os w hr hc hx n0 n1 e0 e1 e2 m y0 y1 y2 h0 h1 h2 hm hpos ht
    have e : refE xs os = decE xs ∧ refO xs os = decO xs := by
      cases hd : decR xs with
      | some os' =>
        obtain ⟨a1, a2⟩ := key os' hd
        rw [a1] at ht
        cases ht
        rw [decE_some hd, decO_some hd, refE, refO, if_pos a2, if_pos a2]
        exact ⟨rfl, rfl⟩
      | none =>
        rw [decE_none hd, decO_none hd, refE, refO]
        have hne : encL os ≠ xs := by
          intro hh
          cases hok : encOk os with
          | true =>
            rw [encL_ok hok] at hh
            rw [← hh, decR_encB hok] at hd
            cases hd
          | false =>
            rw [encL_no hok] at hh
            subst hh
            have hz : m = 0 := by
              rcases Nat.eq_zero_or_pos m with h | h
              · exact h
              · have := (hpos h).2; rw [← hr.1] at this; simp at this
            subst hz
            rw [tkN] at ht
            cases ht
            rw [encOk_nil] at hok
            cases hok
        rw [if_neg hne, if_neg hne]
        exact ⟨rfl, rfl⟩
    rw [e.1, e.2] at h
    exact h

set_option maxHeartbeats 2000000 in
theorem refcut_err (A : Option Addr) (n c : Nat) (xs : List Int) (w : World) (hr : ReadsInt w .u8 A n xs) (hc : n ≤ c) (hx : ∀ x ∈ xs, 0 ≤ x ∧ x < 256) (he : cutE xs ≠ 0) :
    Calls Tryd.prog 17 #[.slice A n c] w fun e w' => e = .returned (.tuple #[.slice none 0 0, .slice none 0 0, .int .i64 (cutE xs)]) ∧ Below w.heap.size w w' := by
  obtain ⟨d, hd0, hdl⟩ := rd_new hr hc hx
  have HD0 := Lib.hid hd0
  have hm2 := hr.2.1
  have hnum := fun (W : World) (a d : Nat) (h : RD 63 W a d xs 0) => rnum_calls W a d xs 0 65535 h
  have hcase : ((rdNum xs 0 65535).2.2 ≠ 0 ∧ cutE xs = (rdNum xs 0 65535).2.2) ∨ ((rdNum xs 0 65535).2.2 = 0 ∧ ((rdNum xs 0 65535).2.1.length : Int) < (rdNum xs 0 65535).1 ∧ cutE xs = 2) := by
    unfold cutE at he ⊢
    by_cases h : (rdNum xs 0 65535).2.2 ≠ 0
    · exact .inl ⟨h, by rw [if_pos h]⟩
    · rw [if_neg h] at he ⊢
      by_cases h2 : ((rdNum xs 0 65535).2.1.length : Int) < (rdNum xs 0 65535).1
      · exact .inr ⟨by simpa using h, h2, by rw [if_pos h2]⟩
      · rw [if_neg h2] at he; exact absurd rfl he
  rcases hq : rdNum xs 0 65535 with ⟨k, ys, e⟩
  rw [hq] at hnum hcase
  simp only at hnum hcase
  have HNU := Lib.hid hnum
  have HB := Lib.hid (Below.refl w.heap.size w)
  have HAA : w.heap.size ≤ w.heap.size := Nat.le_refl _
  clear hr hx he hnum hq hd0 hdl
  generalize cutE xs = E at *
  rcases hcase with ⟨h1, rfl⟩ | ⟨rfl, h2, rfl⟩
  · have q1 : (E != 0) = true := by rw [bne_iff_ne]; exact h1
    clear h1
    go_enter Tryd.func17, Tryd.ntmps17
    go_wp2_with (first
      | (go_at_call 38; (with_reducible refine Calls.mono (HNU.out _ _ d HD0.out) ?_); rintro r w1 ⟨rfl, hd, ho⟩; obtain ⟨RA, rc, hb, _⟩ := hd.out; have b1 := blk_cell hb 1; simp at b1; clear hd hb; have HBn := Lib.hid (Below.trans (by repeat (first | (with_reducible exact HB.out) | apply below_alloc | apply pw_below_drewN | apply below_drew1 | exact HB.out)) (ho.below HAA)); clear ho HB; have HB := HBn; clear HBn)
      | (fail "no arm"))
    go_quiet (fail)
    go_wp2
    go_ret3
    exact ⟨rfl, (by repeat (first | (with_reducible exact HB.out) | apply below_alloc | apply pw_below_drewN | apply below_drew1 | exact HB.out))⟩
  · go_enter Tryd.func17, Tryd.ntmps17
    go_wp2_with (first
      | (go_at_call 38; (with_reducible refine Calls.mono (HNU.out _ _ d HD0.out) ?_); rintro r w1 ⟨rfl, hd, ho⟩; obtain ⟨RA, rc, hb, hrr, _⟩ := hd.out; have hm3 := hrr.2.1; have b0 := blk_cell hb 0; have b1 := blk_cell hb 1; simp at b0 b1; clear hd hb hrr; have HBn := Lib.hid (Below.trans (by repeat (first | (with_reducible exact HB.out) | apply below_alloc | apply pw_below_drewN | apply below_drew1 | exact HB.out)) (ho.below HAA)); clear ho HB; have HB := HBn; clear HBn)
      | (fail "no arm"))
    go_ret3
    exact ⟨rfl, HB.out⟩
set_option maxHeartbeats 2000000 in
theorem refcut_ok (ad : Addr) (n c : Nat) (xs : List Int) (w : World) (hr : ReadsInt w .u8 (some ad) n xs) (hc : n ≤ c) (hx : ∀ x ∈ xs, 0 ≤ x ∧ x < 256) (hn : n ≤ 1000000) (k : Nat) (ys : List Int) (hq : rdNum xs 0 65535 = ((k : Int), ys, 0)) (hk : k ≤ ys.length) (hy : ys.length ≤ n) :
    Calls Tryd.prog 17 #[.slice (some ad) n c] w fun e w' => ∃ A2, e = .returned (.tuple #[.slice (some ad) (n - ys.length + k) c, .slice A2 (n - (n - ys.length + k)) (c - (n - ys.length + k)), .int .i64 0]) ∧ ReadsInt w .u8 A2 (n - (n - ys.length + k)) (xs.drop (n - ys.length + k)) ∧ Below w.heap.size w w' := by
  obtain ⟨d, hd0, hdl⟩ := rd_new hr hc hx
  have HD0 := Lib.hid hd0
  have hm2 := hr.2.1
  have hnum := fun (W : World) (a d : Nat) (h : RD 63 W a d xs 0) => rnum_calls_eq W a d xs 0 65535 h hq
  obtain ⟨L, hL⟩ : ∃ L, L = ys.length := ⟨_, rfl⟩
  have hcells := fun (W : World) (a d : Nat) (h : RD 63 W a d ys 0) => h.out
  rw [← hL] at hk hy hcells
  obtain ⟨j, hj⟩ : ∃ j, n - ys.length + k = j := ⟨_, rfl⟩
  rw [hj]
  rw [← hL] at hj
  have hjn : j ≤ n := by omega
  have hjj : (n : Int) - (L : Int) + (k : Int) = (j : Int) := by omega
  have HD1 := Lib.hid (hr.drop_ (c := c) j hjn hc)
  have HNU := Lib.hid hnum
  have HCE := Lib.hid hcells
  have HB := Lib.hid (Below.refl w.heap.size w)
  have HAA : w.heap.size ≤ w.heap.size := Nat.le_refl _
  have hjc : (j : Int) ≤ c := by omega
  have hj0 : (0 : Int) ≤ j := by omega
  clear hr hx hnum hq hd0 hdl hcells hj hL
  by_cases hcj : c = j
  · rw [if_pos hcj] at HD1
    subst hcj
    obtain rfl : n = c := by omega
    simp only [Nat.sub_self] at HD1 ⊢
    go_enter Tryd.func17, Tryd.ntmps17
    go_wp2_with (first
      | (go_at_call 38; (with_reducible refine Calls.mono (HNU.out _ _ d HD0.out) ?_); rintro r w1 ⟨rfl, hd, ho⟩; obtain ⟨RA, rc, hb, _⟩ := HCE.out _ _ _ hd; have b0 := blk_cell hb 0; have b1 := blk_cell hb 1; simp at b0 b1; clear hd hb; have HBn := Lib.hid (Below.trans (by repeat (first | (with_reducible exact HB.out) | apply below_alloc | apply pw_below_drewN | apply below_drew1 | exact HB.out)) (ho.below HAA)); clear ho HB; have HB := HBn; clear HBn)
      | (fail "no arm"))
    go_quiet (fail)
    go_wp2
    go_ret3
    exact ⟨_, rfl, HD1.out, (by repeat (first | (with_reducible exact HB.out) | apply below_alloc | apply pw_below_drewN | apply below_drew1 | exact HB.out))⟩
  · rw [if_neg hcj] at HD1
    go_enter Tryd.func17, Tryd.ntmps17
    go_wp2_with (first
      | (go_at_call 38; (with_reducible refine Calls.mono (HNU.out _ _ d HD0.out) ?_); rintro r w1 ⟨rfl, hd, ho⟩; obtain ⟨RA, rc, hb, _⟩ := HCE.out _ _ _ hd; have b0 := blk_cell hb 0; have b1 := blk_cell hb 1; simp at b0 b1; clear hd hb; have HBn := Lib.hid (Below.trans (by repeat (first | (with_reducible exact HB.out) | apply below_alloc | apply pw_below_drewN | apply below_drew1 | exact HB.out)) (ho.below HAA)); clear ho HB; have HB := HBn; clear HBn)
      | (fail "no arm"))
    go_quiet (fail)
    go_wp2
    go_ret3
    exact ⟨_, rfl, HD1.out, (by repeat (first | (with_reducible exact HB.out) | apply below_alloc | apply pw_below_drewN | apply below_drew1 | exact HB.out))⟩
theorem refcut_any (A : Option Addr) (n c : Nat) (xs : List Int) (w : World) (hr : ReadsInt w .u8 A n xs) (hc : n ≤ c) (hn : n ≤ 1000000) (hx : ∀ x ∈ xs, 0 ≤ x ∧ x < 256) :
    Calls Tryd.prog 17 #[.slice A n c] w fun e w' => ∃ A1 n1 c1 A2 n2 c2, e = .returned (.tuple #[.slice A1 n1 c1, .slice A2 n2 c2, .int .i64 (cutE xs)]) ∧ ReadsInt w' .u8 A1 n1 (cutF xs) ∧ n1 ≤ c1 ∧ ReadsInt w' .u8 A2 n2 (cutL xs) ∧ n2 ≤ c2 ∧ Below w.heap.size w w' := by
  by_cases he : cutE xs = 0
  · obtain ⟨j, m, hq, hm, hj, hjx, hf, hml⟩ := cutE_zero hx he
    have hpos : 0 < n := by rw [← hr.1]; omega
    obtain ⟨ad, rfl, _⟩ := hr.2.2 hpos
    have hL : (xs.drop j).length = n - j := by rw [List.length_drop, hr.1]
    rw [cutF, cutL, if_pos he, if_pos he, he]
    have hk : cutK xs = n - (xs.drop j).length + m := by
      unfold cutK
      rw [hq, hr.1]
      simp
    rw [hk]
    refine (refcut_ok ad n c xs w hr hc hx hn m _ hq hml (by omega)).mono ?_
    rintro e w' ⟨A2, rfl, h2, hb⟩
    exact ⟨_, _, _, _, _, _, rfl, (hr.take_ _ (by omega)).below hb, by omega, h2.below hb, by omega, hb⟩
  · rw [cutF, cutL, if_neg he, if_neg he]
    exact (refcut_err A n c xs w hr hc hx he).mono fun _ _ ⟨h, hb⟩ => ⟨_, _, _, _, _, _, h, ReadsInt.nil _ _, by omega, ReadsInt.nil _ _, by omega, hb⟩
end Go.Proofs.YtfnoegijkdhckaaDoor
/- Opening arguments of plain data, whatever their make: what a reading's cells say, kind by kind. -/
namespace Go.Proofs.YtfnoegijkdhckaaDoorW.Open
open Go.RowKit Go.Proofs.YtfnoegijkdhckaaDoorW.PrintWords Go.ChangeShapes

/-- What is read at type t is of the kind d, and ok. -/
def Opens {α : Type} (P : Program) (t : TypeId) (d : Kd α) (ok : α → Prop) : Prop :=
  P.cellsOf t = d.sz ∧ ∀ (H : Type) (enc : TypeId × Value → H) (w : World) (fuel : Nat) (cs : List Value) (x : DataW H × List MemPlace), DataW.trod enc P w 0 (fun _ => true) true fuel t cs = some x → ∃ y, d.K w y cs ∧ ok y

theorem Opens.int {P : Program} {t : TypeId} {k : IntKind} (ht : P.underlying t = some (.int k)) (hc : P.cellsOf t = 1) : Opens P t (Kd.int k) (fun n => (Lit.int k n).wf = true) :=
  ⟨hc, fun _ _ _ _ _ _ h => by obtain ⟨n, rfl, _, hw⟩ := DataW.trod_int ht h; exact ⟨n, rfl, hw⟩⟩
theorem Opens.bool {P : Program} {t : TypeId} (ht : P.underlying t = some .bool) (hc : P.cellsOf t = 1) : Opens P t Kd.bool (fun _ => True) :=
  ⟨hc, fun _ _ _ _ _ _ h => by obtain ⟨n, rfl, _⟩ := DataW.trod_bool ht h; exact ⟨n, rfl, trivial⟩⟩
theorem Opens.string {P : Program} {t : TypeId} (ht : P.underlying t = some .string) (hc : P.cellsOf t = 1) : Opens P t Kd.string (fun s => s.size ≤ maxLen) :=
  ⟨hc, fun _ _ _ _ _ _ h => by obtain ⟨n, rfl, _, hs⟩ := DataW.trod_string ht h; exact ⟨n, rfl, hs⟩⟩

theorem Opens.slice {α : Type} {P : Program} {t e : TypeId} {d : Kd α} {ok : α → Prop} (ht : P.underlying t = some (.slice e)) (hc : P.cellsOf t = 1) (he : Opens P e d ok) :
    Opens P t (Kd.slice e d) (fun xs => xs.length ≤ maxLen ∧ ∀ x ∈ xs, ok x) := by
  obtain ⟨hsz, hop⟩ := he
  refine ⟨hc, fun H enc w fuel cs x h => ?_⟩
  rcases DataW.trod_slice ht h with ⟨rfl, _⟩ | ⟨a, len, cap, elems, rest, n, _, rfl, _, _, hl, hm, hlen, hel, _, _⟩
  · exact ⟨[], ⟨none, 0, rfl, by simp, rfl, by simp, by simp⟩, by simp, by simp⟩
  · have each : ∀ i, i < len → ∃ y c, c.length = d.sz ∧ d.K w y c ∧ ok y ∧ ∀ j u, c[j]? = some u → w.cell? (a.add (i * d.sz + j)) = some u := by
      intro i hi
      have h1 := hel i hi
      rw [List.getElem?_eq_getElem (by omega)] at h1
      obtain ⟨c, hcs, hy⟩ := Option.bind_eq_some_iff.1 h1
      obtain ⟨_, hcl, hcell⟩ := World.cells?_some hcs
      obtain ⟨y, hK, hok⟩ := hop H enc w n c _ hy
      refine ⟨y, c, by rw [hcl, hsz], hK, hok, fun j u hu => ?_⟩
      have hj : j < c.length := (List.getElem?_eq_some_iff.1 hu).1
      have := hcell j (by omega)
      rw [hu, hsz, add_add] at this
      exact this
    have build : ∀ m, m ≤ len → ∃ xs : List α, xs.length = m ∧ (∀ x ∈ xs, ok x) ∧ ∀ j p, xs[j]? = some p → ∃ c, c.length = d.sz ∧ d.K w p c ∧ ∀ i u, c[i]? = some u → w.cell? (a.add (j * d.sz + i)) = some u := by
      intro m
      induction m with
      | zero => intro _; exact ⟨[], rfl, by simp, fun j p h => by simp at h⟩
      | succ m ih =>
        intro hm'
        obtain ⟨xs, hx, hok, hall⟩ := ih (by omega)
        obtain ⟨y, c, hcl, hK, hoky, hcell⟩ := each m (by omega)
        refine ⟨xs ++ [y], by simp [hx], ?_, ?_⟩
        · intro z hz
          rcases List.mem_append.1 hz with h' | h'
          · exact hok z h'
          · rw [List.mem_singleton.1 h']; exact hoky
        · intro j p hj
          rcases Nat.lt_or_ge j xs.length with h' | h'
          · rw [List.getElem?_append_left h'] at hj; exact hall j p hj
          · have hj' := (List.getElem?_eq_some_iff.1 hj).1
            obtain rfl : j = xs.length := by simp at hj'; omega
            have : y = p := by simpa using hj
            subst this
            rw [hx]
            exact ⟨c, hcl, hK, hcell⟩
    obtain ⟨xs, hx, hok, hall⟩ := build len (Nat.le_refl _)
    subst hx
    simp only [maxLen] at hm
    exact ⟨xs, ⟨some a, cap, rfl, hl, rfl, by omega, fun _ => ⟨a, rfl, hall⟩⟩, by simp only [maxLen]; omega, hok⟩

/-- Fields in line: from offset n on. -/
def OpensF {α : Type} (P : Program) (fs : List Field) (n : Nat) (d : Kd α) (ok : α → Prop) : Prop :=
  ∀ (H : Type) (enc : TypeId × Value → H) (w : World) (fuel : Nat) (cs : List Value), cs.length = n + d.sz → (∀ f ∈ fs, ∃ x, DataW.trod enc P w 0 (fun _ => true) true fuel f.type ((cs.drop f.offset).take (P.cellsOf f.type)) = some x) → ∃ y, d.K w y (cs.drop n) ∧ ok y
theorem OpensF.one {α : Type} {P : Program} {f : Field} {d : Kd α} {ok : α → Prop} (h : Opens P f.type d ok) : OpensF P [f] f.offset d ok := by
  intro H enc w fuel cs hl hall
  obtain ⟨x, hx⟩ := hall f (by simp)
  have := h.2 H enc w fuel _ _ hx
  rw [h.1, List.take_of_length_le (by simp; omega)] at this
  exact this
theorem OpensF.cons {α β : Type} {P : Program} {f : Field} {fs : List Field} {d : Kd α} {d' : Kd β} {ok : α → Prop} {ok' : β → Prop} {n : Nat} (h : Opens P f.type d ok) (hs : OpensF P fs n d' ok') (hn : n = f.offset + d.sz) : OpensF P (f :: fs) f.offset (Kd.pair d d') (fun y => ok y.1 ∧ ok' y.2) := by
  intro H enc w fuel cs hl hall
  obtain ⟨x, hx⟩ := hall f (by simp)
  obtain ⟨y, hK, hok⟩ := h.2 H enc w fuel _ _ hx
  have hl' : cs.length = n + d'.sz := by rw [hl, hn]; show f.offset + (d.sz + d'.sz) = _; omega
  obtain ⟨y', hK', hok'⟩ := hs H enc w fuel cs hl' (fun g hg => hall g (by simp [hg]))
  rw [h.1] at hK
  refine ⟨(y, y'), ⟨_, _, ?_, hK, hK'⟩, hok, hok'⟩
  rw [hn, ← List.drop_drop, List.take_append_drop]
theorem Opens.struct {α : Type} {P : Program} {t : TypeId} {fs : Array Field} {d : Kd α} {ok : α → Prop} (ht : P.underlying t = some (.struct fs)) (hc : P.cellsOf t = d.sz) (h : OpensF P fs.toList 0 d ok) : Opens P t d ok := by
  refine ⟨hc, fun H enc w fuel cs x hx => ?_⟩
  obtain ⟨xs, n, rfl, _, hl, hlen, hf⟩ := DataW.trod_struct ht hx
  have := h H enc w n cs (by rw [hl, hc]; omega) (fun f hf' => by
    obtain ⟨i, hi⟩ := List.getElem?_of_mem hf'
    have hi' : fs[i]? = some f := by simpa using hi
    have h2 := hf i f hi'
    have h3 : i < xs.length := by rw [hlen]; exact (Array.getElem?_eq_some_iff.1 hi').1
    rw [List.getElem?_eq_getElem h3] at h2
    exact ⟨_, h2⟩)
  simpa using this
theorem Opens.iso {α β : Type} {P : Program} {t : TypeId} {d : Kd α} {ok : α → Prop} (f : β → α) (g : α → β) (hfg : ∀ x, f (g x) = x) (h : Opens P t d ok) : Opens P t (Kd.iso d f) (fun y => ok (f y)) :=
  ⟨h.1, fun H enc w fuel cs x hx => by obtain ⟨y, hK, hok⟩ := h.2 H enc w fuel cs x hx; exact ⟨g y, by show d.K w (f (g y)) cs; rw [hfg]; exact hK, by show ok (f (g y)); rw [hfg]; exact hok⟩⟩

/-- An argument is opened: its value by its cells, and what these say. -/
theorem Opens.arg {α : Type} {H : Type} {enc : TypeId × Value → H} {P : Program} {w : World} {t : TypeId} {v : Value} {x : DataW H} {p : List MemPlace} {d : Kd α} {ok : α → Prop} (h : Opens P t d ok) (ht : DataW.Trod enc P w 0 (fun _ => true) true t v x p) : ∃ y, d.K w y v.cells.toList ∧ ok y := by
  obtain ⟨fuel, hf⟩ := ht
  exact h.2 H enc w fuel _ _ hf
end Go.Proofs.YtfnoegijkdhckaaDoorW.Open
/- A small operation as an argument. -/
namespace Go.Proofs.YtfnoegijkdhckaaDoor
open Go.RowKit Go.Proofs.YtfnoegijkdhckaaDoorW.Open Go.Proofs.YtfnoegijkdhckaaDoorW.PrintWords

abbrev TinyT := Int × (Int × (Int × (Int × Int)))
def tinyCs (x : TinyT) : Array Value := #[.int .u8 x.1, .int .u8 x.2.1, .int .u8 x.2.2.1, .int .u8 x.2.2.2.1, .int .u8 x.2.2.2.2]
abbrev tinyKd : Kd TinyT := Kd.pair (Kd.int .u8) (Kd.pair (Kd.int .u8) (Kd.pair (Kd.int .u8) (Kd.pair (Kd.int .u8) (Kd.int .u8))))
abbrev tinyOk (x : TinyT) : Prop := (Lit.int .u8 x.1).wf = true ∧ (Lit.int .u8 x.2.1).wf = true ∧ (Lit.int .u8 x.2.2.1).wf = true ∧ (Lit.int .u8 x.2.2.2.1).wf = true ∧ (Lit.int .u8 x.2.2.2.2).wf = true
def TinyIn (x : TinyT) : Prop := (0 ≤ x.1 ∧ x.1 < 256) ∧ (0 ≤ x.2.1 ∧ x.2.1 < 256) ∧ (0 ≤ x.2.2.1 ∧ x.2.2.1 < 256) ∧ (0 ≤ x.2.2.2.1 ∧ x.2.2.2.1 < 256) ∧ (0 ≤ x.2.2.2.2 ∧ x.2.2.2.2 < 256)
theorem tinyOpens : Opens Tryd.prog 71 tinyKd tinyOk :=
  Opens.struct Tryd.underlying71 (by kernel_rfl)
    (OpensF.cons (Opens.int Tryd.underlying5 (by kernel_rfl)) (OpensF.cons (Opens.int Tryd.underlying5 (by kernel_rfl)) (OpensF.cons (Opens.int Tryd.underlying5 (by kernel_rfl)) (OpensF.cons (Opens.int Tryd.underlying5 (by kernel_rfl)) (OpensF.one (Opens.int Tryd.underlying5 (by kernel_rfl))) rfl) rfl) rfl) rfl)
theorem tinyCs_of {W : World} {x : TinyT} {cs : Array Value} (h : tinyKd.K W x (Value.cells (.agg cs)).toList) : cs = tinyCs x := by
  obtain ⟨c1, _, e, h1, ⟨c2, _, rfl, h2, ⟨c3, _, rfl, h3, ⟨c4, c5, rfl, h4, h5⟩⟩⟩⟩ := h
  have e1 : c1 = [.int .u8 x.1] := h1
  have e2 : c2 = [.int .u8 x.2.1] := h2
  have e3 : c3 = [.int .u8 x.2.2.1] := h3
  have e4 : c4 = [.int .u8 x.2.2.2.1] := h4
  have e5 : c5 = [.int .u8 x.2.2.2.2] := h5
  subst e1 e2 e3 e4 e5
  have : cs.toList = (tinyCs x).toList := e
  exact Array.toList_inj.1 this
theorem tinyIn {x : TinyT} (h : tinyOk x) : TinyIn x := ⟨byte_wf h.1, byte_wf h.2.1, byte_wf h.2.2.1, byte_wf h.2.2.2.1, byte_wf h.2.2.2.2⟩
theorem tinySelf (x : TinyT) : x = x := rfl
end Go.Proofs.YtfnoegijkdhckaaDoor
