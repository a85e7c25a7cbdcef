/-
  The row and the card of the law WireDecodes, out of its walk.
-/
import Derived.Test.YtfnoegijkdhckaaDoorJWireDecodes4
import Derived.Test.YtfnoegijkdhckaaDoorRows
import Derived.Lib.LaidIn
import Derived.Lib.LaidU8T
import Derived.PinnedBridge
import Derived.ProofKit
import Derived.Test.YtfnoegijkdhckaaDoorCards
import Derived.Test.YtfnoegijkdhckaaDoorTie
import Derived.WalkKit
import Derived.OpenShut
import Derived.ShutString
import Derived.ChangeOld
import Derived.Below
import Derived.SizedLaws
import Derived.SevenTiedAt
import Derived.Deep.DeepHandedRow
import Derived.Deep.DeepWitnessRowRef
/- The walk of the law WireDecodes. -/
namespace Go.Proofs.YtfnoegijkdhckaaDoor
open Go.RowKit Go.Proofs.YtfnoegijkdhckaaDoorW.PrintWords

set_option maxHeartbeats 2000000 in
theorem wireDecodes_walk0 (A : Option Addr) (n c : Nat) (xs : List Int) (w : World) (ha : ReadsInt w .u8 A n xs) (hc : n ≤ c) (hx : ∀ x ∈ xs, 0 ≤ x ∧ x < 256) (hT : Tabs w) :
    Calls Tryd.prog 4 #[.slice A n c] w fun e w' => e = .returned (.bool true) ∧ Below w.heap.size w w' := by
  have hm := ha.2.1
  have HT := Lib.hid hT
  have HB := Lib.hid (Below.refl w.heap.size w)
  by_cases h21 : n ≤ 600
  · have d1 := fun (W : World) (h : Below w.heap.size w W) (hT : Tabs W) => decode_any A n c xs W (ha.below h) hc (by omega) hx hT
    have d2 := fun (W : World) (h : Below w.heap.size w W) => refdec_any A n c xs W (ha.below h) hc hx
    have c1 := fun (W : World) (h : Below w.heap.size w W) => cut_any A n c xs W (ha.below h) hc (by omega) hx
    have c2 := fun (W : World) (h : Below w.heap.size w W) => refcut_any A n c xs W (ha.below h) hc (by omega) hx
    have s1 := fun (A : Option Addr) (c : Nat) (B : Option Addr) (d : Nat) (W : World) (h : OpsAt W A (decO xs).length (decO xs)) (k : OpsAt W B (decO xs).length (decO xs)) => sameO_calls A _ c (decO xs) B _ d (decO xs) W h k
    rw [show sameO (decO xs) (decO xs) = true by simp [sameO]] at s1
    generalize decO xs = O at *
    generalize decE xs = E at *
    generalize cutE xs = G at *
    generalize cutF xs = F at *
    generalize cutL xs = L at *
    have HD1 := Lib.hid d1
    have HD2 := Lib.hid d2
    have HC1 := Lib.hid c1
    have HC2 := Lib.hid c2
    have HS1 := Lib.hid s1
    clear ha hx hT d1 d2 c1 c2 s1
    go_enter Tryd.func4, Tryd.ntmps4
    go_wp2_with (first
      | (go_at_call 9; (with_reducible refine Calls.mono (awake_calls _ HT.out) ?_); rintro e w1 ⟨rfl, hb⟩; have HBn := Lib.hid (below_step (by repeat (first | (with_reducible exact HB.out) | apply below_alloc | apply pw_below_drewN | apply below_drew1 | exact HB.out)) hb); clear hb HB; have HB := HBn; clear HBn)
      | (go_at_call 14; (with_reducible refine Calls.mono (HD1.out _ (by repeat (first | (with_reducible exact HB.out) | apply below_alloc | apply pw_below_drewN | apply below_drew1 | exact HB.out)) (HT.out.below (by repeat (first | (with_reducible exact HB.out) | apply below_alloc | apply pw_below_drewN | apply below_drew1 | exact HB.out)))) ?_); rintro e w2 ⟨v2, rfl, ho, hb⟩; obtain ⟨A2, c2, rfl, _, hr2⟩ := OwnO.ops ho; have HR2 := Lib.hid hr2; clear ho hr2; have HBn := Lib.hid (below_step (by repeat (first | (with_reducible exact HB.out) | apply below_alloc | apply pw_below_drewN | apply below_drew1 | exact HB.out)) hb); clear hb HB; have HB := HBn; clear HBn)
      | (go_at_call 15; (with_reducible refine Calls.mono (HD2.out _ (by repeat (first | (with_reducible exact HB.out) | apply below_alloc | apply pw_below_drewN | apply below_drew1 | exact HB.out))) ?_); rintro e w3 ⟨v3, rfl, ho, hb⟩; obtain ⟨A3, c3, rfl, _, hr3⟩ := OwnO.ops ho; have HR3 := Lib.hid hr3; have HR23 := Lib.hid (HR2.out.below hb); clear ho hr3; have HBn := Lib.hid (below_step (by repeat (first | (with_reducible exact HB.out) | apply below_alloc | apply pw_below_drewN | apply below_drew1 | exact HB.out)) hb); clear hb HB; have HB := HBn; clear HBn)
      | (go_at_call 16; (with_reducible refine Calls.mono (HC1.out _ (by repeat (first | (with_reducible exact HB.out) | apply below_alloc | apply pw_below_drewN | apply below_drew1 | exact HB.out))) ?_); rintro e w4 ⟨v4, u4, rfl, ho4, hu4, hb⟩; obtain ⟨A4, c4, rfl, hr4⟩ := own_reads ho4; obtain ⟨B4, d4, rfl, hs4⟩ := own_reads hu4; have HCR4 := Lib.hid (own_cap ho4); have HCS4 := Lib.hid (own_cap hu4); have HR4 := Lib.hid hr4; have HS4 := Lib.hid hs4; have HR24 := Lib.hid (HR23.out.below hb); have HR34 := Lib.hid (HR3.out.below hb); clear ho4 hu4 hr4 hs4; have HBn := Lib.hid (below_step (by repeat (first | (with_reducible exact HB.out) | apply below_alloc | apply pw_below_drewN | apply below_drew1 | exact HB.out)) hb); clear hb HB; have HB := HBn; clear HBn)
      | (go_at_call 17; (with_reducible refine Calls.mono (HC2.out _ (by repeat (first | (with_reducible exact HB.out) | apply below_alloc | apply pw_below_drewN | apply below_drew1 | exact HB.out))) ?_); rintro e w5 ⟨A5, n5, c5, B5, m5, d5, rfl, hr5, hcr5, hs5, hcs5, hb⟩; obtain rfl := hr5.1; obtain rfl := hs5.1; have HCR5 := Lib.hid hcr5; have HCS5 := Lib.hid hcs5; have HR5 := Lib.hid hr5; have HS5 := Lib.hid hs5; have HR25 := Lib.hid (HR24.out.below hb); have HR35 := Lib.hid (HR34.out.below hb); have HR45 := Lib.hid (HR4.out.below hb); have HS45 := Lib.hid (HS4.out.below hb); clear hr5 hs5 hcr5 hcs5; have HBn := Lib.hid (below_step (by repeat (first | (with_reducible exact HB.out) | apply below_alloc | apply pw_below_drewN | apply below_drew1 | exact HB.out)) hb); clear hb HB; have HB := HBn; clear HBn)
      | (go_at_call 18; go_loud ((with_reducible refine Calls.mono (HS1.out _ _ _ _ _ HR25.out HR35.out) ?_); rintro e w6 ⟨rfl, m6, rfl⟩; have P1 := Lib.hid (HR45.out.below (pw_below_drewN (Below.refl _ _) m6)); have P2 := Lib.hid (HR5.out.below (pw_below_drewN (Below.refl _ _) m6))))
      | (go_at_call 13; ((with_reducible refine Calls.mono (same_calls_eq _ P1.out HCR4.out P2.out HCR5.out rfl) ?_); rintro e v7 ⟨rfl, m7, rfl⟩; clear P1 P2))
      | (go_at_call 13; go_loud ((with_reducible refine Calls.mono (same_calls_eq (w5.drewN (m6 + m7)) (HS45.out.below (pw_below_drewN (Below.refl _ _) _)) HCS4.out (HS5.out.below (pw_below_drewN (Below.refl _ _) _)) HCS5.out rfl) ?_); rintro e v8 ⟨rfl, m8, rfl⟩))
      | (fail "no arm"))
    all_goals (go_ret; exact ⟨by simp, (by repeat (first | (with_reducible exact HB.out) | apply below_alloc | apply pw_below_drewN | apply below_drew1 | exact HB.out))⟩)
  · clear ha hx hT
    go_enter Tryd.func4, Tryd.ntmps4
    go_wp2_with (first
      | (go_at_call 9; (with_reducible refine Calls.mono (awake_calls _ HT.out) ?_); rintro e w1 ⟨rfl, hb⟩; have HBn := Lib.hid (below_step (by repeat (first | (with_reducible exact HB.out) | apply below_alloc | apply pw_below_drewN | apply below_drew1 | exact HB.out)) hb); clear hb HB; have HB := HBn; clear HBn)
      | (fail "no arm"))
    all_goals (go_ret; exact ⟨rfl, HB.out⟩)
theorem wireDecodes_walk (B : Option Addr) (d : Nat) (xs : List Int) (W : World) (h1 : (Kd.int .u8).C W B xs.length xs) (hd : xs.length ≤ d) (k1 : xs.length ≤ maxLen ∧ ∀ x ∈ xs, (Lit.int .u8 x).wf = true) (hT : Tabs W) :
    Calls Tryd.prog 4 #[.slice B xs.length d] W fun e w' => e = .returned (.bool true) ∧ Below W.heap.size W w' :=
  wireDecodes_walk0 B _ d xs W (int_of_C h1) hd (fun x h => byte_wf (k1.2 x h)) hT
end Go.Proofs.YtfnoegijkdhckaaDoor
/- The witness world whose listed tables read as laid; the tables of a world that is entered. -/
namespace Go.Proofs.YtfnoegijkdhckaaDoor
open Go.Shelf Go.RowKit Go.Lib

noncomputable def laidWorld (os : Os) : World :=
  let w0 := World.holding Tryd.prog os ⟨#[], #[], []⟩
  let put (h : Array Obj) (g : Nat) (cs : Array Value) : Array Obj := h.modify g fun
    | .cells _ t frozen => .cells cs t frozen
    | o => o
  let h1 := put w0.heap (Tryd.laysValid_ren.g 3) (Lib.firstTab.map fun z => Value.int .u8 z).toArray
  let h2 := put h1 (Tryd.laysValid_ren.g 4) ((List.range 16).flatMap fun i => [Value.int .u8 (Lib.accLo i), Value.int .u8 (Lib.accHi i)]).toArray
  { w0 with heap := h2 }
theorem laid_met (os : Os) (args : Array Value) : laidMet Tryd.prog Rows.wireEncodesRow.laid ((laidWorld os).forCall (fun _ _ => 0) ⟨#[], args, []⟩).memory :=
  (LaidIn.of_run (l := [("unicode/utf8.acceptRanges", Rows.laid_unicode_utf8_acceptRanges), ("unicode/utf8.first", Rows.laid_unicode_utf8_first)]) [Tryd.laysValid_ren.g 3, Tryd.laysValid_ren.g 4] 8 (by kernel_rfl) (by kernel_rfl) (by kernel_rfl) (by kernel_rfl)).met
theorem acc_eq : (Rows.laid_unicode_utf8_acceptRanges : DataW Unit) = acceptData := by kernel_rfl
theorem tabs_of {W : World} (h3 : VarReads Tryd.prog W "unicode/utf8.first" Rows.laid_unicode_utf8_first) (h4 : VarReads Tryd.prog W "unicode/utf8.acceptRanges" Rows.laid_unicode_utf8_acceptRanges) : Tabs W :=
  utf8Tabs_of_readsT (U8Types.of196 Tryd.laysValid) ⟨by kernel_rfl, by kernel_rfl, by kernel_rfl, by kernel_rfl, by kernel_rfl, by kernel_rfl, by kernel_rfl⟩
    (by rw [show firstData = Rows.laid_unicode_utf8_first from Pinned.utf8First_eq.symm]; exact h3) (by rw [← acc_eq]; exact h4)
end Go.Proofs.YtfnoegijkdhckaaDoor
/- The row and the card of the law WireDecodes, out of its walk. -/
namespace Go.Proofs.YtfnoegijkdhckaaDoor.wireDecodes
open Go.ChangeShapes Go.WideShapes Go.ChangeAt Go.RowKit Go.Lib
open Go.ChangeMaps (open_string shut_string)
open Go.Proofs.YtfnoegijkdhckaaDoorW.Open Go.Proofs.YtfnoegijkdhckaaDoorW.PrintWords
theorem own : ownKnob Tryd.prog.godebug = none := by kernel_rfl
theorem laidOut : laidOutB Tryd.prog = true := by kernel_rfl
theorem op0 : Opens Tryd.prog 25 (Kd.slice 5 (Kd.int .u8)) (fun xs => xs.length ≤ maxLen ∧ ∀ x ∈ xs, (Lit.int .u8 x).wf = true) := Opens.slice Tryd.underlying25 (by kernel_rfl) (Opens.int Tryd.underlying5 (by kernel_rfl))
theorem witness_row (os : Os) {H : Type} (enc : TypeId × Value → H) :
    (OpenSpec.ofChange Rows.wireDecodesSpec).preRow enc Tryd.prog Tryd.f4 Rows.wireDecodesRow.domain false Rows.wireDecodesRow.laid ((laidWorld os).forCall (fun _ _ => 0) ⟨#[], #[.slice none 0 0], []⟩).memory #[.slice none 0 0] := by
  have hw : (DataW.whole enc Tryd.prog ((laidWorld os).forCall (fun _ _ => 0) ⟨#[], #[.slice none 0 0], []⟩).memory Tryd.f4.params.toList (OpenSpec.ofChange Rows.wireDecodesSpec).vars false (#[.slice none 0 0] : Array Value).toList 8).map (fun x => (x.1, x.2.1)) =
      some ([.nil], []) := by kernel_rfl
  obtain ⟨⟨x1, x2, x3⟩, hx, hx1⟩ := Option.map_eq_some_iff.1 hw
  simp only [Prod.mk.injEq] at hx1
  obtain ⟨rfl, rfl⟩ := hx1
  exact OpenSpec.preRow_of_cond 8 hx (by kernel_rfl) (fun k hk => by cases hk) (by kernel_rfl) (laid_met os _)
set_option maxRecDepth 100000 in
set_option maxHeartbeats 2000000 in
theorem lifted (os : Os) (started : os.Started) (H : Type) (enc : TypeId × Value → H) (F : Stop.Interp) :
    ReturnsInHanded {} Tryd.checked os 4 .any ((OpenSpec.ofChange Rows.wireDecodesSpec).preRow enc Tryd.prog Tryd.f4 Rows.wireDecodesRow.domain false Rows.wireDecodesRow.laid) (((OpenSpec.ofChange Rows.wireDecodesSpec).at F).post enc Tryd.prog Tryd.f4 false true false false) := by
  refine returnsInHanded_of_row (C := Tryd.checked) (s := OpenSpec.ofChange Rows.wireDecodesSpec) own started (by kernel_rfl) Tryd.func4
    (witness_row_atRef (enc := enc) (C := Tryd.checked) false (laidWorld os) #[.slice none 0 0] rfl (by kernel_rfl) (by kernel_rfl) (by kernel_rfl) (witness_row os enc)) ?_
  intro W base args ds gs before hval0 hW _ _ _ hL _ _
  have hval : ∀ (j : Nat) t v, Tryd.f4.params[j]? = some t → args[j]? = some v → Value.okWide Tryd.prog W .any base t v := hval0
  have hW' := hW
  obtain ⟨p, q, hA0, hV, rfl, hfz, hnd⟩ := hW
  have hA : DataW.TrodAll enc Tryd.prog W 0 (fun _ => true) true Tryd.f4.params.toList args.toList ds p := hA0
  rw [Tryd.params4] at hA hval
  obtain ⟨v0, vs0, d0, ds0, p0, q0, hargs, rfl, rfl, h0, r0⟩ := trodAll_cons hA
  obtain ⟨rfl, rfl, rfl⟩ := trodAll_nil r0
  obtain rfl : args = #[v0] := by cases args; simp_all
  obtain ⟨rfl, rfl⟩ := trodVars_none hV
  have k0 := h0
  have lt0 : ∀ x ∈ p0, x.block < W.heap.size := by obtain ⟨m, hm⟩ := k0; exact DataW.trod_lt m _ _ _ hm
  obtain ⟨a0, len0, cap0, rfl⟩ := okWide_slice Tryd.underlying25 (hval 0 25 v0 rfl rfl)
  obtain ⟨l0, hK0, ok0⟩ := Opens.arg op0 h0
  obtain ⟨A0, c0, e0, hc0, hr0⟩ := hK0
  simp only [Value.cells, List.cons.injEq, Value.slice.injEq, and_true] at e0
  obtain ⟨rfl, rfl, rfl⟩ := e0
  clear hA0 hval0
  have htab : Tabs W := tabs_of (Lib.laidMet.reads hL (.tail _ (.head _))) (Lib.laidMet.reads hL (.head _))
  refine (wireDecodes_walk a0 cap0 l0 W hr0 hc0 ok0 htab).mono fun e W' ⟨he, bel⟩ => ?_
  subst he
  exact ⟨_, rfl, _, _, _, [], _, [], hW', trodAll_mk1 (shut_bool Tryd.underlying4 _), (trodAll_cons_mk (Below.trod laidOut (by kernel_rfl) (of_decide_eq_true (by kernel_rfl)) k0 bel lt0) trodAll_mk0), rfl, bel.frame _, fun h => by cases h⟩
theorem row_holds : Rows.WireDecodesSaid :=
  OpenClaim.holds_of_cond 4 Tryd.f4 rfl rfl rfl rfl rfl rfl rfl ⟨rfl, rfl, rfl, rfl, rfl⟩ rfl rfl rfl rfl rfl (by kernel_rfl) Tryd.func4 (by kernel_rfl)
    (of_decide_eq_true (by kernel_rfl)) (by unfold Func.isWrapper; first | (rw [if_pos (by decide +kernel)]; kernel_rfl) | (rw [if_neg (by decide +kernel)]; exact ⟨rfl, rfl⟩))
    (fun os started H enc _ F0 => by rw [OpenClaim.pre_eq_preRow]; exact lifted os started H enc F0)
end Go.Proofs.YtfnoegijkdhckaaDoor.wireDecodes
namespace Go.Proofs.YtfnoegijkdhckaaDoor
open Go
theorem wireDecodes_holds : Rows.WireDecodesCardSaid :=
  Claim7.holds_tied_plain_at .later [] [.data, .pinned] true (true, "ee8ca45ab003daabe33b4090dfd4d1995736ae94f68a9bda058eacab5fc92003") false
    wireDecodes.row_holds (fun _ h => by cases h) (by kernel_rfl) (fun _ h => by cases h) wireDecodes_row_tie rfl ⟨rfl, rfl⟩ (by kernel_rfl) rfl
    (fun f fn hf hfn => by
      obtain rfl : f = 4 := Option.some.inj ((show Tryd.prog.funcNamed "holt/holtlaw06.WireDecodes" = some 4 by kernel_rfl).symm.trans hf) |>.symm
      obtain rfl : fn = Tryd.f4 := (Option.some.inj (Tryd.func4.symm.trans hfn)).symm
      exact ⟨by kernel_rfl, fun j t ht => by
        have hm : t ∈ Tryd.f4.params.toList := List.mem_of_getElem? (by rw [Array.getElem?_toList]; exact ht)
        rw [Tryd.params4] at hm
        have hall : (Tryd.f4.params.toList.all fun t => !Tryd.prog.wantsStandIn t) = true := by kernel_rfl
        rw [Tryd.params4] at hall
        have := List.all_eq_true.1 hall t hm
        have h2 : Tryd.prog.wantsStandIn t = false := by simpa using this
        exact h2⟩)
    (by kernel_rfl)
#print axioms wireDecodes_holds
end Go.Proofs.YtfnoegijkdhckaaDoor
