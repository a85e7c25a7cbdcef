/-
  The row of the law PmapNew, out of its walk.
-/
import Derived.Test.YtmhfbpdahfepgaaB9
import Derived.Test.YtmhfbpdahfepgaaPPmapNewx2
import Derived.Test.YtmhfbpdahfepgaaWWords
import Derived.ProofKit
import Derived.OpenShut
import Derived.ChangeArms
import Derived.Test.YtmhfbpdahfepgaaRows
import Derived.WalkKit
import Derived.ShutString
import Derived.ChangeOld
import Derived.Below
/- Package pmap's finish and Map.Put, where there is no room. -/
namespace Go.Proofs.Ytmhfbpdahfepgaa.Pm
open Go.RowKit Go.Proofs.YtmhfbpdahfepgaaW.PrintWords
attribute [local go_sem high] eqHd
set_option maxHeartbeats 4000000 in
theorem finish_no (w0 W : World) (B B0 m aa eb : Nat) (a a0 : Ar N2) (t : T2) (p : Option Nat) (HM : MapB w0 W B m aa a)
    (hd : Den B0 W a0 p t) (hs : Small a) (hG : fresh t ≤ 1000000) (hr : a.room < (fresh t : Int)) :
    Calls Try.prog 31 #[.pointer (some ⟨m, 0, none⟩), .pointer (some ⟨eb, 0, none⟩), .pointer (p.map fun b => ⟨b, 0, none⟩)] W (NoEdit W) := by
  have HFR := Lib.hid (fun (V : World) (hb : Below W.heap.size W V) => fresh_calls B0 eb a0 t V p ((Ext.below hb).den _ _ hd) (by omega))
  have HRM := Lib.hid (fun (V : World) (hb : Below W.heap.size W V) => mroom_calls w0 V B m aa a (HM.below hb) hs)
  have hq : decide (a.room < (fresh t : Int)) = true := decide_eq_true hr
  clear HM hd hG hs hr
  generalize a.room = R at *
  generalize (fresh t : Int) = F at *
  go_enter Try.func31, Try.ntmps31
  go_wp2_with (first
    | (go_at_call 40; go_loud ((with_reducible refine Calls.mono (HFR.out _ (by repeat (first | exact Below.refl _ _ | apply below_drew1 | apply below_alloc | apply pw_below_drewN))) ?_); rintro e w1 ⟨rfl, n1, rfl⟩))
    | (go_at_call 20; go_loud (
        (with_reducible refine Calls.mono (HRM.out _ (by repeat (first | exact Below.refl _ _ | apply below_drew1 | apply below_alloc | apply pw_below_drewN))) ?_);
        rintro e w1 ⟨rfl, n2, rfl⟩;
        have HBX0 := Lib.hid (blk_below (blk_new W (Obj.cells #[.int .i64 0, .int .i64 0, .slice none 0 0, .slice none 0 0] 39 (0, 0))) (pw_below_drewN (Below.refl _ _) (n1 + n2)));
        have zb0 := blk_frozen HBX0.out 0; have zb1 := blk_frozen HBX0.out 1; have zb2 := blk_frozen HBX0.out 2; have zb3 := blk_frozen HBX0.out 3;
        have b0 := blk_cell HBX0.out 0; have b1 := blk_cell HBX0.out 1; have b2' := blk_cell HBX0.out 2; have b3 := blk_cell HBX0.out 3;
        simp at b0 b1 b2' b3;
        have HB0 := Lib.hid (show Below W.heap.size W ((W.alloc (Obj.cells #[.int .i64 0, .int .i64 0, .slice none 0 0, .slice none 0 0] 39 (0, 0))).drewN (n1 + n2)) from (by repeat (first | exact Below.refl _ _ | apply below_drew1 | apply below_alloc | apply pw_below_drewN)))))
    | (fail "no arm"))
  generalize ((W.alloc (Obj.cells #[.int .i64 0, .int .i64 0, .slice none 0 0, .slice none 0 0] 39 (0, 0))).drewN (n1 + n2)) = w1 at *
  have HV := Lib.hid (edit_box HBX0.out HB0.out (Nat.le_refl W.heap.size))
  generalize ((((w1.setCell ⟨W.heap.size, 0, none⟩ (.int .i64 0)).setCell ⟨W.heap.size, 1, none⟩ (.int .i64 0)).setCell ⟨W.heap.size, 2, none⟩ (.slice none 0 0)).setCell ⟨W.heap.size, 3, none⟩ (.slice none 0 0)) = V2 at *
  have q0 : V2.cell? ⟨W.heap.size, 0, none⟩ = some (.int .i64 0) := blk_cell HV.out.1 0
  have q1 : V2.cell? ⟨W.heap.size, 1, none⟩ = some (.int .i64 0) := blk_cell HV.out.1 1
  have q2 : V2.cell? ⟨W.heap.size, 2, none⟩ = some (.slice none 0 0) := blk_cell HV.out.1 2
  have q3 : V2.cell? ⟨W.heap.size, 3, none⟩ = some (.slice none 0 0) := blk_cell HV.out.1 3
  refine bodyPost_ret (v := .tuple #[edV H0 (.slice none 0 0) (.slice none 0 0), .bool false]) (by simp [results, Try.results31, edV, H0, go_sem, q0, q1, q2, q3]; try rfl) rfl ?_
  exact ⟨rfl, HV.out.2⟩
set_option maxHeartbeats 4000000 in
theorem mput_no (w0 W : World) (B m aa : Nat) (a : Ar N2) (t : T2) (k v : Int) (HM : MapB w0 W B m aa a) (hl : Lies a t) (av : Avl t) (hh : t.hi ≤ 50000) (hs : Small a) (hG : fresh (tput cmpI t k v).1 ≤ 1000000) (hr : a.room < (fresh (tput cmpI t k v).1 : Int)) :
    Calls Try.prog 16 #[.pointer (some ⟨m, 0, none⟩), hdV t.h, .int .i64 k, .int .i64 v] W (NoEdit W) := by
  have hsz := HM.sz
  have HIT := Lib.hid (fun (V : World) (B0 eb : Nat) (hb : B0 ≤ V.heap.size) => item_calls B0 V eb a t hl hb)
  have HPU := Lib.hid (fun (V0 V : World) (eb : Nat) (p : Option Nat) (hb0 : Below W.heap.size W V0) (hs : St V0 V eb m []) (hd : Den V0.heap.size V a p t) => put_of V0 V m aa eb a t p k v (HM.below hb0).mapAt hs hd av hh)
  have HFI := Lib.hid (fun (V : World) (B0 eb b : Nat) (hb : Below W.heap.size W V) (hd : Den B0 V a (some b) (tput cmpI t k v).1) => finish_no w0 V B B0 m aa eb a a (tput cmpI t k v).1 (some b) (HM.below hb) hd hs hG hr)
  simp only [Option.map_some] at HFI
  clear HM hl av hh hs hG hr
  generalize (tput cmpI t k v) = TT at *
  simp only [hdV, ptrV] at HIT ⊢
  go_enter Try.func16, Try.ntmps16
  go_wp2_with (first
    | (go_at_call 33; go_loud (
        (with_reducible refine Calls.mono (HIT.out _ (W.heap.size + 1 + 1) _ (by simp [World.size_alloc])) ?_);
        rintro e w1 ⟨⟨p, rfl, hc⟩, hb⟩;
        (have hb0 : Below W.heap.size W ((W.alloc (Obj.cells #[.int .i64 t.h.s, .int .i64 t.h.g] 28 (0, 0))).alloc (Obj.cells #[.int .i64 0, .int .i64 0, .slice none 0 0, .slice none 0 0] 39 (0, 0))) := (by repeat (first | exact Below.refl _ _ | apply below_drew1 | apply below_alloc | apply pw_below_drewN)));
        (have hz0 : ((W.alloc (Obj.cells #[.int .i64 t.h.s, .int .i64 t.h.g] 28 (0, 0))).alloc (Obj.cells #[.int .i64 0, .int .i64 0, .slice none 0 0, .slice none 0 0] 39 (0, 0))).heap.size = W.heap.size + 1 + 1 := (by simp [World.size_alloc]));
        (have hee : (((W.alloc (Obj.cells #[.int .i64 t.h.s, .int .i64 t.h.g] 28 (0, 0))).alloc (Obj.cells #[.int .i64 0, .int .i64 0, .slice none 0 0, .slice none 0 0] 39 (0, 0))).alloc (Obj.cells #[.pointer (some ⟨m, 0, none⟩), .slice none 0 0] 74 (0, 0))).heap[W.heap.size + 1 + 1]? = some (Obj.cells #[.pointer (some ⟨m, 0, none⟩), .slice none 0 0] 74 (0, 0)) := alloc_at hz0);
        (have hbx : ((W.alloc (Obj.cells #[.int .i64 t.h.s, .int .i64 t.h.g] 28 (0, 0))).alloc (Obj.cells #[.int .i64 0, .int .i64 0, .slice none 0 0, .slice none 0 0] 39 (0, 0))).heap[W.heap.size + 1]? = some (Obj.cells #[.int .i64 0, .int .i64 0, .slice none 0 0, .slice none 0 0] 39 (0, 0)) := alloc_at (by simp [World.size_alloc]));
        have HB0 := Lib.hid hb0;
        have HZ0 := Lib.hid hz0;
        have HBX0 := Lib.hid hbx;
        have HS1 := Lib.hid (show St ((W.alloc (Obj.cells #[.int .i64 t.h.s, .int .i64 t.h.g] 28 (0, 0))).alloc (Obj.cells #[.int .i64 0, .int .i64 0, .slice none 0 0, .slice none 0 0] 39 (0, 0))) w1 (W.heap.size + 1 + 1) m [] from ⟨(below_alloc (Below.refl _ _) _).trans (hb.mono (by simp [World.size_alloc])), (by rw [hz0]; omega), _, blk_below hee hb, nilH _ _⟩);
        have HD1 := Lib.hid (show Den ((W.alloc (Obj.cells #[.int .i64 t.h.s, .int .i64 t.h.g] 28 (0, 0))).alloc (Obj.cells #[.int .i64 0, .int .i64 0, .slice none 0 0, .slice none 0 0] 39 (0, 0))).heap.size w1 a p t from (hc.den (Nat.le_of_eq hz0)));
        generalize ((W.alloc (Obj.cells #[.int .i64 t.h.s, .int .i64 t.h.g] 28 (0, 0))).alloc (Obj.cells #[.int .i64 0, .int .i64 0, .slice none 0 0, .slice none 0 0] 39 (0, 0))) = V0 at *;
        clear hc hb hb0 hee hbx hz0))
    | (go_at_call 32; go_loud ((with_reducible refine Calls.mono (HPU.out V0 _ _ p HB0.out HS1.out HD1.out) ?_); rintro e w2 ⟨⟨b2, rfl, ho⟩, hx, hs⟩; rw [List.nil_append] at hs; obtain ⟨gv, he2, hg2⟩ := hs.ed; have HS2 := Lib.hid (HB0.out.trans (hs.bel.mono HB0.out.size)); have HD2 := Lib.hid ho.den; have HE2 := Lib.hid he2; have HG2 := Lib.hid hg2; have HBX2 := Lib.hid (blk_below HBX0.out hs.bel); clear hs ho hx he2 hg2))
    | (go_at_call 31; go_loud ((with_reducible refine Calls.mono (HFI.out _ _ _ b2 HS2.out HD2.out) ?_); rintro e w3 ⟨rfl, hb3⟩; simp only [edV, H0]; have HRB := Lib.hid (blk_below HBX2.out hb3); have HB3 := Lib.hid (HS2.out.trans (hb3.mono HS2.out.size)); have b0 := blk_cell HRB.out 0; have b1 := blk_cell HRB.out 1; have b2' := blk_cell HRB.out 2; have b3 := blk_cell HRB.out 3; have zb0 := blk_frozen HRB.out 0; have zb1 := blk_frozen HRB.out 1; have zb2 := blk_frozen HRB.out 2; have zb3 := blk_frozen HRB.out 3; simp at b0 b1 b2' b3; clear hb3))
    | (fail "no arm"))
  have HV := Lib.hid (edit_box HRB.out HB3.out (Nat.le_succ W.heap.size))
  generalize ((((w3.setCell ⟨W.heap.size + 1, 0, none⟩ (.int .i64 0)).setCell ⟨W.heap.size + 1, 1, none⟩ (.int .i64 0)).setCell ⟨W.heap.size + 1, 2, none⟩ (.slice none 0 0)).setCell ⟨W.heap.size + 1, 3, none⟩ (.slice none 0 0)) = V2 at *
  have q0 : V2.cell? ⟨W.heap.size + 1, 0, none⟩ = some (.int .i64 0) := blk_cell HV.out.1 0
  have q1 : V2.cell? ⟨W.heap.size + 1, 1, none⟩ = some (.int .i64 0) := blk_cell HV.out.1 1
  have q2 : V2.cell? ⟨W.heap.size + 1, 2, none⟩ = some (.slice none 0 0) := blk_cell HV.out.1 2
  have q3 : V2.cell? ⟨W.heap.size + 1, 3, none⟩ = some (.slice none 0 0) := blk_cell HV.out.1 3
  refine bodyPost_ret (v := .tuple #[edV H0 (.slice none 0 0) (.slice none 0 0), .bool false]) (by simp [results, Try.results16, edV, H0, go_sem, q0, q1, q2, q3]; try rfl) rfl ?_
  exact ⟨rfl, HV.out.2⟩
end Go.Proofs.Ytmhfbpdahfepgaa.Pm
/- The walk of the law PmapNew: whatever the input, the call returns true, and what was in memory stays. -/
namespace Go.Proofs.Ytmhfbpdahfepgaa
open Go.RowKit Go.Proofs.YtmhfbpdahfepgaaW.PrintWords Pm
attribute [local go_sem high] eqHd
theorem new_bad (n : Int) (hn : n < 0 ∨ 1048576 < n) (v : Value) (hv : v = cmpF ∨ v = .nilFunc) (V : World) : Calls Try.prog 10 #[.int .i64 n, v] V fun e w' => e = .returned (.pointer none) ∧ Below V.heap.size V w' := pnew_no V n v hv hn
set_option maxRecDepth 100000 in
set_option maxHeartbeats 4000000 in
theorem pmapNew_bad (n k v : Int) (w : World) (hn : n < 0 ∨ 1048576 < n) : Calls Try.prog 4 #[.int .i64 n, .int .i64 k, .int .i64 v] w fun e w' => e = .returned (.bool true) ∧ Below w.heap.size w w' := by
  have HN1 := Lib.hid (fun (V : World) => new_bad n hn cmpF (.inl rfl) V)
  have HN2 := Lib.hid (fun (V : World) => new_bad n hn .nilFunc (.inr rfl) V)
  simp only [cmpF] at HN1
  have HB := Lib.hid (Below.refl w.heap.size w)
  by_cases h1 : n < 0
  · have q1 : decide (n < 0) = true := decide_eq_true h1
    clear hn
    go_enter Try.func4, Try.ntmps4
    go_wp2_with (first
      | (go_at_call 9; go_loud ((refine Calls.mono (awake_calls _) ?_); rintro e w1 ⟨rfl, hb⟩; have HBn := Lib.hid (below_step (by repeat (first | (with_reducible exact HB.out) | apply below_alloc | apply pw_below_drewN | apply below_drew1 | exact HB.out)) hb); clear hb HB; have HB := HBn; clear HBn))
      | (go_at_call 10; go_loud ((with_reducible refine Calls.mono (HN1.out _) ?_); rintro e w2 ⟨rfl, hb⟩; have HBn := Lib.hid (below_step (by repeat (first | (with_reducible exact HB.out) | apply below_alloc | apply pw_below_drewN | apply below_drew1 | exact HB.out)) hb); clear hb HB; have HB := HBn; clear HBn))
      | (go_at_call 10; go_loud ((with_reducible refine Calls.mono (HN2.out _) ?_); rintro e w3 ⟨rfl, hb⟩; have HBn := Lib.hid (below_step (by repeat (first | (with_reducible exact HB.out) | apply below_alloc | apply pw_below_drewN | apply below_drew1 | exact HB.out)) hb); clear hb HB; have HB := HBn; clear HBn))
      | (fail "no arm"))
    go_ret
    exact ⟨rfl, (by repeat (first | (with_reducible exact HB.out) | apply below_alloc | apply pw_below_drewN | apply below_drew1 | exact HB.out))⟩
  · have q1 : decide (n < 0) = false := decide_eq_false h1
    have q2 : decide (1048576 < n) = true := decide_eq_true (by omega)
    have h2 : 1048576 < n := by omega
    clear hn
    go_enter Try.func4, Try.ntmps4
    go_wp2_with (first
      | (go_at_call 9; go_loud ((refine Calls.mono (awake_calls _) ?_); rintro e w1 ⟨rfl, hb⟩; have HBn := Lib.hid (below_step (by repeat (first | (with_reducible exact HB.out) | apply below_alloc | apply pw_below_drewN | apply below_drew1 | exact HB.out)) hb); clear hb HB; have HB := HBn; clear HBn))
      | (go_at_call 10; go_loud ((with_reducible refine Calls.mono (HN1.out _) ?_); rintro e w2 ⟨rfl, hb⟩; have HBn := Lib.hid (below_step (by repeat (first | (with_reducible exact HB.out) | apply below_alloc | apply pw_below_drewN | apply below_drew1 | exact HB.out)) hb); clear hb HB; have HB := HBn; clear HBn))
      | (go_at_call 10; go_loud ((with_reducible refine Calls.mono (HN2.out _) ?_); rintro e w3 ⟨rfl, hb⟩; have HBn := Lib.hid (below_step (by repeat (first | (with_reducible exact HB.out) | apply below_alloc | apply pw_below_drewN | apply below_drew1 | exact HB.out)) hb); clear hb HB; have HB := HBn; clear HBn))
      | (fail "no arm"))
    go_ret
    exact ⟨rfl, (by repeat (first | (with_reducible exact HB.out) | apply below_alloc | apply pw_below_drewN | apply below_drew1 | exact HB.out))⟩
set_option maxRecDepth 100000 in
set_option maxHeartbeats 4000000 in
theorem pmapNew_0 (k v : Int) (w : World) : Calls Try.prog 4 #[.int .i64 0, .int .i64 k, .int .i64 v] w fun e w' => e = .returned (.bool true) ∧ Below w.heap.size w w' := by
  have HN1 := Lib.hid (fun (V : World) (hb : Below w.heap.size w V) => pnew_ok w V w.heap.size 0 hb hb.size (by decide))
  have HN2 := Lib.hid (fun (V : World) => pnew_nil V 0 (by decide))
  simp only [cmpF] at HN1
  have HB := Lib.hid (Below.refl w.heap.size w)
  have HPU := Lib.hid (fun (V : World) (m aa : Nat) (hm : MapB w V w.heap.size m aa (arNew 0)) => mput_no w V w.heap.size m aa (arNew 0) .leaf k v hm trivial trivial (by decide) (arNew_ok 0 (by decide)).small (by show 1 ≤ _; decide) (by rw [arNew_room]; show ((0 : Nat) : Int) < ((1 : Nat) : Int); decide))
  have HLV := Lib.hid (fun (V : World) (m aa : Nat) (hm : MapB w V w.heap.size m aa (arNew 0)) => mlive_calls w V w.heap.size m aa (arNew 0) hm (arNew_ok 0 (by decide)).small)
  rw [arNew_room, show ((arNew 0).most : Int) - ((0 : Nat) : Int) = 0 from rfl] at HLV
  rw [hdV_leaf] at HPU
  go_enter Try.func4, Try.ntmps4
  go_wp2_with (first
    | (go_at_call 9; go_loud ((refine Calls.mono (awake_calls _) ?_); rintro e w1 ⟨rfl, hb⟩; have HBn := Lib.hid (below_step (by repeat (first | (with_reducible exact HB.out) | apply below_alloc | apply pw_below_drewN | apply below_drew1 | exact HB.out)) hb); clear hb HB; have HB := HBn; clear HBn))
    | (go_at_call 10; go_loud ((with_reducible refine Calls.mono (HN1.out _ (by repeat (first | (with_reducible exact HB.out) | apply below_alloc | apply pw_below_drewN | apply below_drew1 | exact HB.out))) ?_); rintro e w2 ⟨⟨m, aa, rfl, hm⟩, hb⟩; have HM2 := Lib.hid hm; clear hm; have HBn := Lib.hid (below_step (by repeat (first | (with_reducible exact HB.out) | apply below_alloc | apply pw_below_drewN | apply below_drew1 | exact HB.out)) hb); clear hb HB; have HB := HBn; clear HBn))
    | (go_at_call 10; go_loud ((with_reducible refine Calls.mono (HN2.out _) ?_); rintro e w3 ⟨rfl, hb⟩; have HM3 := Lib.hid (HM2.out.below hb); have HBn := Lib.hid (below_step (by repeat (first | (with_reducible exact HB.out) | apply below_alloc | apply pw_below_drewN | apply below_drew1 | exact HB.out)) hb); clear hb HB; have HB := HBn; clear HBn))
    | (go_at_call 16; go_loud ((with_reducible refine Calls.mono (HPU.out _ m aa HM3.out) ?_); rintro e w4 ⟨rfl, hb⟩; simp only [edV, H0]; have HM4 := Lib.hid (HM3.out.below hb); have HBn := Lib.hid (below_step (by repeat (first | (with_reducible exact HB.out) | apply below_alloc | apply pw_below_drewN | apply below_drew1 | exact HB.out)) hb); clear hb HB; have HB := HBn; clear HBn))
    | (go_at_call 17; go_loud ((with_reducible refine Calls.mono (HLV.out _ m aa (HM4.out.below (by repeat (first | exact Below.refl _ _ | apply below_drew1 | apply below_alloc | apply pw_below_drewN)))) ?_); rintro e w5 ⟨rfl, n5, rfl⟩))
    | (fail "no arm"))
  go_ret
  exact ⟨rfl, (by repeat (first | (with_reducible exact HB.out) | apply below_alloc | apply pw_below_drewN | apply below_drew1 | exact HB.out))⟩
/-- What the first Put makes. -/
def FirstOut (w0 : World) (B m aa n : Nat) (k v : Int) (e : Ending) (w' : World) : Prop :=
  ∃ (a : Ar N2) (h : Hd) (Am Ag : Option Addr) (cm cg : Nat), e = .returned (.tuple #[.agg #[.int .i64 h.s, .int .i64 h.g, .slice Am 1 cm, .slice Ag 0 cg], .bool true]) ∧ MapB w0 w' B m aa a ∧ OwnH w' B (.slice Am 1 cm) [h] ∧ a.get h = some ⟨k, v, H0, H0, 1⟩ ∧ a.room = (n : Int) - 1 ∧ Small a
theorem first_put (w0 W : World) (B m aa n : Nat) (k v : Int) (h1 : 1 ≤ n) (h2 : n ≤ 1048576) (HM : MapB w0 W B m aa (arNew n)) :
    Calls Try.prog 16 #[.pointer (some ⟨m, 0, none⟩), .agg #[.int .i64 0, .int .i64 0], .int .i64 k, .int .i64 v] W (FirstOut w0 B m aa n k v) := by
  have ok := arNew_ok n h2
  have hf : fresh (tput cmpI (.leaf : T2) k v).1 = 1 := rfl
  have hr : (0 : Int) < (arNew n).room := by rw [arNew_room]; omega
  have := mput_calls w0 W B m aa (arNew n) .leaf k v 0 HM trivial trivial (by decide) ok (by rw [hf]; decide) (by rw [hf]; omega)
  rw [hdV_leaf] at this
  refine this.mono ?_
  rintro e w' ⟨mv, gv, rfl, hfs, hF⟩
  have e1 : Pm.store nd0 (arNew n) (tput cmpI (.leaf : T2) k v).1 = (((arNew n).put nd0 ⟨k, v, H0, H0, 1⟩).1, ((arNew n).put nd0 ⟨k, v, H0, H0, 1⟩).2, [((arNew n).put nd0 ⟨k, v, H0, H0, 1⟩).2]) := store_new
  rw [e1] at hfs ⊢
  dsimp only at hfs ⊢
  have g1 := put_get (x := ⟨k, v, H0, H0, 1⟩) ok ((arNew n).put nd0 ⟨k, v, H0, H0, 1⟩).2
  rw [if_pos rfl] at g1
  obtain ⟨Am, cm, rfl, _⟩ := OwnRow.slice_ hfs.hmade
  obtain ⟨Ag, cg, rfl, _⟩ := OwnRow.slice_ hfs.hgone
  exact ⟨_, _, Am, Ag, cm, cg, rfl, hfs.mb, hfs.hmade, g1, by rw [put_room, arNew_room], (put_ok ok hr).small⟩
def shN (h : Hd) : PPmapNew.S28 := ⟨h.s, h.g⟩
theorem own_CN {W : World} {B : Nat} {A : Option Addr} {n c : Nat} {hs : List Hd} (h : OwnH W B (.slice A n c) hs) : n = (hs.map shN).length ∧ n ≤ c ∧ Kd.C PPmapNew.k28 W A (hs.map shN).length (hs.map shN) := by
  obtain ⟨A', c', e, hc, hr⟩ := OwnRow.reads h
  injection e with e1 e2 e3
  subst e1 e2 e3
  rw [List.length_map]
  exact ⟨rfl, hc, reads_map shN hr (fun p c hp => by subst hp; exact PPmapNew.k28_mk W (shN p))⟩
theorem handles_f (h : Hd) : PPmapNew.holtref09_Handles.f 5 [shN h] [shN h] = some true := by
  unfold PPmapNew.holtref09_Handles.f
  rw [if_pos rfl]
  rw [PPmapNew.holtref09_Handles.l0, if_pos (by simp), if_pos (by simp), if_pos (by simp), if_neg (by simp), show wrap64 (0 + 1) = 1 by (rw [IntWalk.wrap64_in _ (by omega)]; rfl), PPmapNew.holtref09_Handles.l0, if_neg (by simp)]
theorem handles_law (W : World) (B B' : Nat) (A A' : Option Addr) (c c' : Nat) (h : Hd) (h1 : OwnH W B (.slice A 1 c) [h]) (h2 : OwnH W B' (.slice A' 1 c') [h]) :
    Calls Try.prog 19 #[.slice A 1 c, .slice A' 1 c'] W fun e w' => e = .returned (.bool true) ∧ ∃ k, w' = W.drewN k := by
  obtain ⟨_, hc, hC⟩ := own_CN h1
  obtain ⟨_, hc', hC'⟩ := own_CN h2
  exact (PPmapNew.holtref09_Handles.calls 5 A c [shN h] A' c' [shN h] true W hC hc hC' hc' (handles_f h)).mono fun _ _ ⟨x1, x2⟩ => ⟨x1, x2.out⟩
set_option maxRecDepth 100000 in
set_option maxHeartbeats 8000000 in
theorem pmapNew_1 (n : Nat) (k v : Int) (w : World) (h1 : 1 ≤ n) (h2 : n ≤ 1048576) : Calls Try.prog 4 #[.int .i64 n, .int .i64 k, .int .i64 v] w fun e w' => e = .returned (.bool true) ∧ Below w.heap.size w w' := by
  have HN1 := Lib.hid (fun (V : World) (hb : Below w.heap.size w V) => pnew_ok w V w.heap.size n hb hb.size h2)
  have HN2 := Lib.hid (fun (V : World) => pnew_nil V n h2)
  simp only [cmpF] at HN1
  have HB := Lib.hid (Below.refl w.heap.size w)
  have HPU := Lib.hid (fun (V : World) (m aa : Nat) (hm : MapB w V w.heap.size m aa (arNew n)) => first_put w V w.heap.size m aa n k v h1 h2 hm)
  have q1 : decide ((n : Int) < 0) = false := decide_eq_false (by omega)
  have q2 : decide ((1048576 : Int) < (n : Int)) = false := decide_eq_false (by omega)
  have q3 : ((n : Int) == 0) = false := by rw [beq_eq_false_iff_ne]; omega
  have q4 : IntKind.i64.wrap ((n : Int) - 1) = (n : Int) - 1 := by rw [IntKind.wrap_i64]; omega
  have q5 : ¬ (n : Int) < 0 := by omega
  have q6 : ¬ (1048576 : Int) < (n : Int) := by omega
  go_enter Try.func4, Try.ntmps4
  go_wp2_with (first
    | (go_at_call 9; go_loud ((refine Calls.mono (awake_calls _) ?_); rintro e w1 ⟨rfl, hb⟩; have HBn := Lib.hid (below_step (by repeat (first | (with_reducible exact HB.out) | apply below_alloc | apply pw_below_drewN | apply below_drew1 | exact HB.out)) hb); clear hb HB; have HB := HBn; clear HBn))
    | (go_at_call 10; go_loud ((with_reducible refine Calls.mono (HN1.out _ (by repeat (first | (with_reducible exact HB.out) | apply below_alloc | apply pw_below_drewN | apply below_drew1 | exact HB.out))) ?_); rintro e w2 ⟨⟨m, aa, rfl, hm⟩, hb⟩; have HM2 := Lib.hid hm; clear hm; have HBn := Lib.hid (below_step (by repeat (first | (with_reducible exact HB.out) | apply below_alloc | apply pw_below_drewN | apply below_drew1 | exact HB.out)) hb); clear hb HB; have HB := HBn; clear HBn))
    | (go_at_call 10; go_loud ((with_reducible refine Calls.mono (HN2.out _) ?_); rintro e w3 ⟨rfl, hb⟩; have HM3 := Lib.hid (HM2.out.below hb); have HBn := Lib.hid (below_step (by repeat (first | (with_reducible exact HB.out) | apply below_alloc | apply pw_below_drewN | apply below_drew1 | exact HB.out)) hb); clear hb HB; have HB := HBn; clear HBn))
    | (go_at_call 16; go_loud ((with_reducible refine Calls.mono (HPU.out _ m aa HM3.out) ?_); rintro e w4 ⟨a, h, Am, Ag, cm, cg, rfl, hm, ho, hg, hro, hs⟩; have HM4 := Lib.hid hm; have HO4 := Lib.hid ho; have HG4 := Lib.hid hg; have HR4 := Lib.hid hro; have HS4 := Lib.hid hs; clear hm ho hg hro hs))
    | (fail "no arm"))
  have HE := Lib.hid (blk_new w4 (.cells #[.int .i64 h.s, .int .i64 h.g, .slice Am 1 cm, .slice Ag 0 cg] 39 (0, 0)))
  have HM5 := Lib.hid (HM4.out.below (show Below w4.heap.size w4 (w4.alloc (.cells #[.int .i64 h.s, .int .i64 h.g, .slice Am 1 cm, .slice Ag 0 cg] 39 (0, 0))) from (by repeat (first | exact Below.refl _ _ | apply below_drew1 | apply below_alloc | apply pw_below_drewN))))
  have HO5 := Lib.hid (OwnRow.below HO4.out (show Below w4.heap.size w4 (w4.alloc (.cells #[.int .i64 h.s, .int .i64 h.g, .slice Am 1 cm, .slice Ag 0 cg] 39 (0, 0))) from (by repeat (first | exact Below.refl _ _ | apply below_drew1 | apply below_alloc | apply pw_below_drewN))))
  generalize (w4.alloc (.cells #[.int .i64 h.s, .int .i64 h.g, .slice Am 1 cm, .slice Ag 0 cg] 39 (0, 0))) = V5 at *
  generalize w4.heap.size = eb at *
  clear HM4 HO4 HM2 HM3
  have HLD := Lib.hid (show Calls Try.prog 18 #[.pointer (some ⟨m, 0, none⟩), .agg #[.int .i64 h.s, .int .i64 h.g]] V5 fun e w' => e = .returned (.tuple #[.agg #[.int .i64 k, .int .i64 v, .int .i64 0, .int .i64 0, .int .i64 0, .int .i64 0, .int .i64 1], .bool true]) ∧ Below V5.heap.size V5 w' by obtain ⟨sv, fv, h'⟩ := HM5.out.mapAt; have := load_calls V5 m aa _ sv fv a h h'; rw [HG4.out] at this; exact this)
  (with_reducible refine Calls.mono HLD.out ?_)
  rintro e6 w6 ⟨rfl, hb6⟩
  have hb7 : Below V5.heap.size V5 (w6.alloc (.cells #[.int .i64 k, .int .i64 v, .int .i64 0, .int .i64 0, .int .i64 0, .int .i64 0, .int .i64 1] 44 (0, 0))) := hb6.alloc hb6.size _
  have HE7 := Lib.hid (blk_below HE.out hb7)
  have HM7 := Lib.hid (HM5.out.below hb7)
  have HO7 := Lib.hid (OwnRow.below HO5.out hb7)
  have HN7 := Lib.hid (blk_new w6 (.cells #[.int .i64 k, .int .i64 v, .int .i64 0, .int .i64 0, .int .i64 0, .int .i64 0, .int .i64 1] 44 (0, 0)))
  clear hb6 hb7
  go_upto_region 12 with (fail "no arm")
  generalize (w6.alloc (.cells #[.int .i64 k, .int .i64 v, .int .i64 0, .int .i64 0, .int .i64 0, .int .i64 0, .int .i64 1] 44 (0, 0))) = V7 at *
  generalize w6.heap.size = nb at *
  have c0 := blk_cell HE7.out 0
  have c1 := blk_cell HE7.out 1
  have c2 := blk_cell HE7.out 2
  have c3 := blk_cell HE7.out 3
  have n0 := blk_cell HN7.out 0
  have n1 := blk_cell HN7.out 1
  have n6 := blk_cell HN7.out 6
  simp at c0 c1 c2 c3 n0 n1 n6
  have hlt1 := blk_lt HE7.out
  have hlt2 := blk_lt HN7.out
  have HB7 := Lib.hid HM7.out.bel
  have HHD := Lib.hid (handles_law (V7.alloc (.cells #[.int .i64 h.s, .int .i64 h.g] 28 (0, 0))) _ _ Am _ cm _ h (OwnRow.below HO7.out (below_alloc (Below.refl _ _) _)) (OwnRow.lit (ps := [h]) V7 0 (inner := [.int .i64 h.s, .int .i64 h.g]) (Reps.snoc (Reps.none _ _) rfl rfl) (Nat.zero_le _) (by simp)))
  have HRO := Lib.hid (fun (q : Nat) => mroom_calls w ((V7.alloc (.cells #[.int .i64 h.s, .int .i64 h.g] 28 (0, 0))).drewN q) w.heap.size m aa a (HM7.out.below (by repeat (first | exact Below.refl _ _ | apply below_drew1 | apply below_alloc | apply pw_below_drewN))) HS4.out)
  rw [HR4.out] at HRO
  simp only [List.length_singleton] at HHD
  go_wp2_with (first
    | (go_at_call 19; go_loud ((with_reducible refine Calls.mono HHD.out ?_); rintro e8 w8 ⟨rfl, q8, rfl⟩))
    | (go_at_call 20; go_loud ((with_reducible refine Calls.mono (HRO.out _) ?_); rintro e9 w9 ⟨rfl, q9, rfl⟩))
    | (fail "no arm"))
  go_ret
  exact ⟨rfl, HB7.out.trans ((show Below V7.heap.size V7 _ from (by repeat (first | exact Below.refl _ _ | apply below_drew1 | apply below_alloc | apply pw_below_drewN))).mono HM7.out.sz)⟩
theorem pmapNew_walk (n k v : Int) (w : World) (_ : (Lit.int .i64 n).wf = true) (_ : (Lit.int .i64 k).wf = true) (_ : (Lit.int .i64 v).wf = true) : Calls Try.prog 4 #[.int .i64 n, .int .i64 k, .int .i64 v] w fun e w' => e = .returned (.bool true) ∧ Below w.heap.size w w' := by
  by_cases hn : n < 0 ∨ 1048576 < n
  · exact pmapNew_bad n k v w hn
  · by_cases h0 : n = 0
    · subst h0; exact pmapNew_0 k v w
    · obtain ⟨m, rfl⟩ : ∃ m : Nat, n = m := ⟨n.toNat, by omega⟩
      exact pmapNew_1 m k v w (by omega) (by omega)
end Go.Proofs.Ytmhfbpdahfepgaa
/- Opening arguments of plain data, whatever their make: what a reading's cells say, kind by kind. -/
namespace Go.Proofs.YtmhfbpdahfepgaaW.Open
open Go.RowKit Go.Proofs.YtmhfbpdahfepgaaW.PrintWords Go.ChangeShapes

/-- What is read at type t is of the kind d, and ok. -/
def Opens {α : Type} (P : Program) (t : TypeId) (d : Kd α) (ok : α → Prop) : Prop :=
  P.cellsOf t = d.sz ∧ ∀ (H : Type) (enc : TypeId × Value → H) (w : World) (fuel : Nat) (cs : List Value) (x : DataW H × List MemPlace), DataW.trod enc P w 0 (fun _ => true) true fuel t cs = some x → ∃ y, d.K w y cs ∧ ok y

theorem Opens.int {P : Program} {t : TypeId} {k : IntKind} (ht : P.underlying t = some (.int k)) (hc : P.cellsOf t = 1) : Opens P t (Kd.int k) (fun n => (Lit.int k n).wf = true) :=
  ⟨hc, fun _ _ _ _ _ _ h => by obtain ⟨n, rfl, _, hw⟩ := DataW.trod_int ht h; exact ⟨n, rfl, hw⟩⟩
theorem Opens.bool {P : Program} {t : TypeId} (ht : P.underlying t = some .bool) (hc : P.cellsOf t = 1) : Opens P t Kd.bool (fun _ => True) :=
  ⟨hc, fun _ _ _ _ _ _ h => by obtain ⟨n, rfl, _⟩ := DataW.trod_bool ht h; exact ⟨n, rfl, trivial⟩⟩
theorem Opens.string {P : Program} {t : TypeId} (ht : P.underlying t = some .string) (hc : P.cellsOf t = 1) : Opens P t Kd.string (fun s => s.size ≤ maxLen) :=
  ⟨hc, fun _ _ _ _ _ _ h => by obtain ⟨n, rfl, _, hs⟩ := DataW.trod_string ht h; exact ⟨n, rfl, hs⟩⟩

theorem Opens.slice {α : Type} {P : Program} {t e : TypeId} {d : Kd α} {ok : α → Prop} (ht : P.underlying t = some (.slice e)) (hc : P.cellsOf t = 1) (he : Opens P e d ok) :
    Opens P t (Kd.slice e d) (fun xs => xs.length ≤ maxLen ∧ ∀ x ∈ xs, ok x) := by
  obtain ⟨hsz, hop⟩ := he
  refine ⟨hc, fun H enc w fuel cs x h => ?_⟩
  rcases DataW.trod_slice ht h with ⟨rfl, _⟩ | ⟨a, len, cap, elems, rest, n, _, rfl, _, _, hl, hm, hlen, hel, _, _⟩
  · exact ⟨[], ⟨none, 0, rfl, by simp, rfl, by simp, by simp⟩, by simp, by simp⟩
  · have each : ∀ i, i < len → ∃ y c, c.length = d.sz ∧ d.K w y c ∧ ok y ∧ ∀ j u, c[j]? = some u → w.cell? (a.add (i * d.sz + j)) = some u := by
      intro i hi
      have h1 := hel i hi
      rw [List.getElem?_eq_getElem (by omega)] at h1
      obtain ⟨c, hcs, hy⟩ := Option.bind_eq_some_iff.1 h1
      obtain ⟨_, hcl, hcell⟩ := World.cells?_some hcs
      obtain ⟨y, hK, hok⟩ := hop H enc w n c _ hy
      refine ⟨y, c, by rw [hcl, hsz], hK, hok, fun j u hu => ?_⟩
      have hj : j < c.length := (List.getElem?_eq_some_iff.1 hu).1
      have := hcell j (by omega)
      rw [hu, hsz, add_add] at this
      exact this
    have build : ∀ m, m ≤ len → ∃ xs : List α, xs.length = m ∧ (∀ x ∈ xs, ok x) ∧ ∀ j p, xs[j]? = some p → ∃ c, c.length = d.sz ∧ d.K w p c ∧ ∀ i u, c[i]? = some u → w.cell? (a.add (j * d.sz + i)) = some u := by
      intro m
      induction m with
      | zero => intro _; exact ⟨[], rfl, by simp, fun j p h => by simp at h⟩
      | succ m ih =>
        intro hm'
        obtain ⟨xs, hx, hok, hall⟩ := ih (by omega)
        obtain ⟨y, c, hcl, hK, hoky, hcell⟩ := each m (by omega)
        refine ⟨xs ++ [y], by simp [hx], ?_, ?_⟩
        · intro z hz
          rcases List.mem_append.1 hz with h' | h'
          · exact hok z h'
          · rw [List.mem_singleton.1 h']; exact hoky
        · intro j p hj
          rcases Nat.lt_or_ge j xs.length with h' | h'
          · rw [List.getElem?_append_left h'] at hj; exact hall j p hj
          · have hj' := (List.getElem?_eq_some_iff.1 hj).1
            obtain rfl : j = xs.length := by simp at hj'; omega
            have : y = p := by simpa using hj
            subst this
            rw [hx]
            exact ⟨c, hcl, hK, hcell⟩
    obtain ⟨xs, hx, hok, hall⟩ := build len (Nat.le_refl _)
    subst hx
    simp only [maxLen] at hm
    exact ⟨xs, ⟨some a, cap, rfl, hl, rfl, by omega, fun _ => ⟨a, rfl, hall⟩⟩, by simp only [maxLen]; omega, hok⟩

/-- Fields in line: from offset n on. -/
def OpensF {α : Type} (P : Program) (fs : List Field) (n : Nat) (d : Kd α) (ok : α → Prop) : Prop :=
  ∀ (H : Type) (enc : TypeId × Value → H) (w : World) (fuel : Nat) (cs : List Value), cs.length = n + d.sz → (∀ f ∈ fs, ∃ x, DataW.trod enc P w 0 (fun _ => true) true fuel f.type ((cs.drop f.offset).take (P.cellsOf f.type)) = some x) → ∃ y, d.K w y (cs.drop n) ∧ ok y
theorem OpensF.one {α : Type} {P : Program} {f : Field} {d : Kd α} {ok : α → Prop} (h : Opens P f.type d ok) : OpensF P [f] f.offset d ok := by
  intro H enc w fuel cs hl hall
  obtain ⟨x, hx⟩ := hall f (by simp)
  have := h.2 H enc w fuel _ _ hx
  rw [h.1, List.take_of_length_le (by simp; omega)] at this
  exact this
theorem OpensF.cons {α β : Type} {P : Program} {f : Field} {fs : List Field} {d : Kd α} {d' : Kd β} {ok : α → Prop} {ok' : β → Prop} {n : Nat} (h : Opens P f.type d ok) (hs : OpensF P fs n d' ok') (hn : n = f.offset + d.sz) : OpensF P (f :: fs) f.offset (Kd.pair d d') (fun y => ok y.1 ∧ ok' y.2) := by
  intro H enc w fuel cs hl hall
  obtain ⟨x, hx⟩ := hall f (by simp)
  obtain ⟨y, hK, hok⟩ := h.2 H enc w fuel _ _ hx
  have hl' : cs.length = n + d'.sz := by rw [hl, hn]; show f.offset + (d.sz + d'.sz) = _; omega
  obtain ⟨y', hK', hok'⟩ := hs H enc w fuel cs hl' (fun g hg => hall g (by simp [hg]))
  rw [h.1] at hK
  refine ⟨(y, y'), ⟨_, _, ?_, hK, hK'⟩, hok, hok'⟩
  rw [hn, ← List.drop_drop, List.take_append_drop]
theorem Opens.struct {α : Type} {P : Program} {t : TypeId} {fs : Array Field} {d : Kd α} {ok : α → Prop} (ht : P.underlying t = some (.struct fs)) (hc : P.cellsOf t = d.sz) (h : OpensF P fs.toList 0 d ok) : Opens P t d ok := by
  refine ⟨hc, fun H enc w fuel cs x hx => ?_⟩
  obtain ⟨xs, n, rfl, _, hl, hlen, hf⟩ := DataW.trod_struct ht hx
  have := h H enc w n cs (by rw [hl, hc]; omega) (fun f hf' => by
    obtain ⟨i, hi⟩ := List.getElem?_of_mem hf'
    have hi' : fs[i]? = some f := by simpa using hi
    have h2 := hf i f hi'
    have h3 : i < xs.length := by rw [hlen]; exact (Array.getElem?_eq_some_iff.1 hi').1
    rw [List.getElem?_eq_getElem h3] at h2
    exact ⟨_, h2⟩)
  simpa using this
theorem Opens.iso {α β : Type} {P : Program} {t : TypeId} {d : Kd α} {ok : α → Prop} (f : β → α) (g : α → β) (hfg : ∀ x, f (g x) = x) (h : Opens P t d ok) : Opens P t (Kd.iso d f) (fun y => ok (f y)) :=
  ⟨h.1, fun H enc w fuel cs x hx => by obtain ⟨y, hK, hok⟩ := h.2 H enc w fuel cs x hx; exact ⟨g y, by show d.K w (f (g y)) cs; rw [hfg]; exact hK, by show ok (f (g y)); rw [hfg]; exact hok⟩⟩

/-- An argument is opened: its value by its cells, and what these say. -/
theorem Opens.arg {α : Type} {H : Type} {enc : TypeId × Value → H} {P : Program} {w : World} {t : TypeId} {v : Value} {x : DataW H} {p : List MemPlace} {d : Kd α} {ok : α → Prop} (h : Opens P t d ok) (ht : DataW.Trod enc P w 0 (fun _ => true) true t v x p) : ∃ y, d.K w y v.cells.toList ∧ ok y := by
  obtain ⟨fuel, hf⟩ := ht
  exact h.2 H enc w fuel _ _ hf
end Go.Proofs.YtmhfbpdahfepgaaW.Open
/- The row of the law PmapNew, out of its walk. -/
namespace Go.Proofs.Ytmhfbpdahfepgaa.pmapNew
open Go.ChangeShapes Go.WideShapes Go.ChangeAt Go.RowKit
open Go.ChangeMaps (open_string shut_string)
open Go.Proofs.YtmhfbpdahfepgaaW.Open Go.Proofs.YtmhfbpdahfepgaaW.PrintWords
theorem own : ownKnob Try.prog.godebug = none := by kernel_rfl
theorem laidOut : laidOutB Try.prog = true := by kernel_rfl
set_option maxRecDepth 100000 in
theorem lifted (os : Os) (started : os.Started) (H : Type) (enc : TypeId × Value → H) :
    ReturnsInHanded {} Try.checked os 4 .any (Rows.pmapNewSpec.pre6 enc Try.prog Try.f4 Rows.pmapNewRow.domain false) (Rows.pmapNewSpec.post enc Try.prog Try.f4 false true false false) := by
  refine returnsInHanded_of_change (C := Try.checked) own started (by kernel_rfl) Try.func4
    (ChangeSpec.witness6 (enc := enc) (C := Try.checked) false ⟨#[], #[.int .i64 0, .int .i64 0, .int .i64 0], []⟩ 8 (by kernel_rfl) (by kernel_rfl) (by kernel_rfl) (by kernel_rfl)) ?_
  intro W base args ds gs before hval0 hW hcnd _
  have hval : ∀ (j : Nat) t v, Try.f4.params[j]? = some t → args[j]? = some v → Value.okWide Try.prog W .any base t v := hval0
  have hW' := hW
  obtain ⟨p, q, hA0, hV, rfl, hfz, hnd⟩ := hW
  have hA : DataW.TrodAll enc Try.prog W 0 (fun _ => true) true Try.f4.params.toList args.toList ds p := hA0
  rw [Try.params4] at hA hval
  obtain ⟨v0, vs0, d0, ds0, p0, q0, hargs, rfl, rfl, h0, r0⟩ := trodAll_cons hA
  obtain ⟨v1, vs1, d1, ds1, p1, q1, rfl, rfl, rfl, h1, r1⟩ := trodAll_cons r0
  obtain ⟨v2, vs2, d2, ds2, p2, q2, rfl, rfl, rfl, h2, r2⟩ := trodAll_cons r1
  obtain ⟨rfl, rfl, rfl⟩ := trodAll_nil r2
  obtain rfl : args = #[v0, v1, v2] := by cases args; simp_all
  obtain ⟨rfl, rfl⟩ := trodVars_none hV
  obtain ⟨a0, rfl, rfl, rfl, w0⟩ := open_int Try.underlying3 (hval 0 3 v0 rfl rfl) h0
  obtain ⟨a1, rfl, rfl, rfl, w1⟩ := open_int Try.underlying3 (hval 1 3 v1 rfl rfl) h1
  obtain ⟨a2, rfl, rfl, rfl, w2⟩ := open_int Try.underlying3 (hval 2 3 v2 rfl rfl) h2
  clear hA0 hval0
  refine (pmapNew_walk a0 a1 a2 W w0 w1 w2).mono fun e W' ⟨he, bel⟩ => ?_
  subst he
  exact ⟨_, rfl, _, _, _, [], _, [], hW', trodAll_mk1 (shut_bool Try.underlying4 _), (trodAll_cons_mk (shut_int Try.underlying3 w0) (trodAll_cons_mk (shut_int Try.underlying3 w1) (trodAll_cons_mk (shut_int Try.underlying3 w2) trodAll_mk0))), rfl, bel.frame _, fun h => by cases h⟩
end Go.Proofs.Ytmhfbpdahfepgaa.pmapNew
namespace Go.Proofs.Ytmhfbpdahfepgaa
theorem pmapNew_holds : Rows.PmapNewSaid :=
  OpenClaim.holds_of_wide 4 Try.f4 rfl rfl rfl rfl rfl rfl rfl ⟨rfl, rfl, rfl, rfl, rfl⟩ rfl rfl rfl rfl rfl (by kernel_rfl) Try.func4 (by kernel_rfl)
    (of_decide_eq_true (by kernel_rfl)) (by unfold Func.isWrapper; first | (rw [if_pos (by decide +kernel)]; kernel_rfl) | (rw [if_neg (by decide +kernel)]; exact ⟨rfl, rfl⟩))
    (fun os started H enc _ => pmapNew.lifted os started H enc)
#print axioms pmapNew_holds
end Go.Proofs.Ytmhfbpdahfepgaa
