/-
  Package wire's Decode, where the bytes are no batch; What Decode and Cut make of any bytes; what is decoded, encoded again, is the same bytes; Opening arguments of plain data, whatever their make: what a reading's cells say, kind by kind; A small operation as an argument; Lists of small operations: holtref05.Of, holtref05.All; The walk of the law WireUnlike; Sums see a burst: bytes in which digits are turned within 32 side by side have another sum. Plain lemmas on numbers; Digits that are turned one by one: plain lemmas on bytes
-/
import Derived.Test.YtfnoegijkdhckaaDoorJWireTurned3
import Derived.Deep.RegionWith
import Derived.Test.YtfnoegijkdhckaaDoorWWords
import Derived.ProofKit
import Derived.OpenShut
import Derived.ChangeArms
import Derived.Test.YtfnoegijkdhckaaDoorPWireUnlikex3
/- Package wire's Decode, where the bytes are no batch. -/
namespace Go.Proofs.YtfnoegijkdhckaaDoor
open Go.RowKit Go.Proofs.YtfnoegijkdhckaaDoorW.PrintWords

theorem dec_catch (a b : Nat) (x y : Value) (S T : TypeId) (u : TypeId) (pv : Value) (older : List PanicEntry) (w : World) (hp : w.heap[a]? = some (.cells #[x] S (0, 0))) (hq : w.heap[b]? = some (.cells #[y] T (0, 0))) (hne : a ≠ b) :
    CallsD Tryd.prog 32 #[.pointer (some ⟨a, 0, none⟩), .pointer (some ⟨b, 0, none⟩)] (.panicking ({ v := .iface u pv, recovered := false } :: older)) w fun e u' w' =>
      e = .returned (.tuple #[]) ∧ u' = .panicking ({ v := .iface u pv, recovered := true } :: older) ∧ w' = (w.setCell ⟨a, 0, none⟩ (.slice none 0 0)).setCell ⟨b, 0, none⟩ (.int .i64 3) := by
  have c1 : w.cell? ⟨a, 0, none⟩ = some x := blk_cell hp 0
  have z1 := blk_frozen hp 0
  have hq2 := blk_far hq (p := ⟨a, 0, none⟩) (show b ≠ a from fun h => hne h.symm) (.slice none 0 0)
  have c2 : (w.setCell ⟨a, 0, none⟩ (.slice none 0 0)).cell? ⟨b, 0, none⟩ = some y := blk_cell hq2 0
  have z2 := blk_frozen hq2 0
  refine callsD_of_wpS Tryd.func32 rfl fun c₀ cs hu => ?_
  apply wpS_seq
  apply wpS_region
  simp [wpOpsS, go_sem, recoverD, hu, Tryd.ntmps32, Exit.thenS]
  refine wpS_cond (t := true) (by simp [Act.eval, Array.replicate]) ?_
  simp only [if_true]
  apply wpS_region
  simp [wpOpsS, go_sem, c1, z1, c2, z2, bodyPostS, results, Tryd.results32]

/-- Behind a panic: what Decode answers. -/
theorem dec_tail (w V : World) (x y : Value) (S T : TypeId) (g2 : V.heap[w.heap.size]? = some (.cells #[x] S (0, 0))) (g3 : V.heap[w.heap.size + 1]? = some (.cells #[y] T (0, 0))) (hb : Below w.heap.size w V) (tmps : Array Value) (t2 : tmps[2]? = some (.pointer (some ⟨w.heap.size, 0, none⟩))) (t3 : tmps[3]? = some (.pointer (some ⟨w.heap.size + 1, 0, none⟩))) :
    Leaves Tryd.prog Tryd.f14 tmps (fun e w' => e = .returned (.tuple #[.slice none 0 0, .int .i64 3]) ∧ Below w.heap.size w w') [{ target := .fn (.func 32) #[.pointer (some ⟨w.heap.size, 0, none⟩), .pointer (some ⟨w.heap.size + 1, 0, none⟩)], args := #[] }] (.panicking [{ v := .iface 26 (.int .i64 3), recovered := false }]) V := by
  refine leaves_cons (f := 32) (args := #[.pointer (some ⟨w.heap.size, 0, none⟩), .pointer (some ⟨w.heap.size + 1, 0, none⟩)]) (by simp) (by simp [go_sem]) ?_
  refine (dec_catch w.heap.size (w.heap.size + 1) x y S T _ _ [] V g2 g3 (by omega)).mono ?_
  rintro e u' w'' ⟨rfl, rfl, rfl⟩
  have hm2 := blk_far (blk_put g2 0 (.slice none 0 0) (cs' := #[.slice none 0 0]) rfl) (p := ⟨w.heap.size + 1, 0, none⟩) (show w.heap.size ≠ w.heap.size + 1 by omega) (.int .i64 3)
  have hm3 := blk_put (blk_far g3 (p := ⟨w.heap.size, 0, none⟩) (show w.heap.size + 1 ≠ w.heap.size by omega) (.slice none 0 0)) 0 (.int .i64 3) (cs' := #[.int .i64 3]) rfl
  have hB := (hb.setCell (p := ⟨w.heap.size, 0, none⟩) (Nat.le_refl _) (.slice none 0 0)).setCell (p := ⟨w.heap.size + 1, 0, none⟩) (by simp) (.int .i64 3)
  have HB9 := Lib.hid hB
  clear hB g2 g3 hb
  generalize (V.setCell ⟨w.heap.size, 0, none⟩ (.slice none 0 0)).setCell ⟨w.heap.size + 1, 0, none⟩ (.int .i64 3) = U at *
  have k2 : U.cell? ⟨w.heap.size, 0, none⟩ = some (.slice none 0 0) := blk_cell hm2 0
  have k3 : U.cell? ⟨w.heap.size + 1, 0, none⟩ = some (.int .i64 3) := blk_cell hm3 0
  clear hm2 hm3
  simp [Leaves, settle, results, Tryd.results14, go_sem, t2, t3, k2, k3]
  exact HB9.out

set_option maxRecDepth 100000 in
set_option maxHeartbeats 1000000 in
/-- No batch is cut off. -/
theorem decode_cutless (A : Option Addr) (n c : Nat) (xs : List Int) (w : World) (hr : ReadsInt w .u8 A n xs) (hn : n ≤ 1000000) (hx : ∀ x ∈ xs, 0 ≤ x ∧ x < 256) (he : cutE xs ≠ 0) :
    Calls Tryd.prog 14 #[.slice A n c] w (fun e w' => e = .returned (.tuple #[.slice none 0 0, .int .i64 3]) ∧ Below w.heap.size w w') := by
  have hmf : ∀ (fn : Fn) (first cap : Array Value) (w : World), (Instr.makeFunc fn first cap).run Tryd.prog w = .ok (.func fn first cap) w := fun _ _ _ _ => rfl
  have HCUT := Lib.hid (fun (W : World) (hb : Below w.heap.size w W) => wcut_err A n c xs W (hr.below hb) hn hx he)
  have HB := Lib.hid (Below.refl w.heap.size w)
  have q1 : (cutE xs != 0) = true := by rw [bne_iff_ne]; exact he
  clear hr hx he
  generalize cutE xs = E at *
  go_enter_defers Tryd.func14, Tryd.ntmps14
  go_wp2_with (first
    | (go_at_call 16; go_loud ((refine Calls.mono (HCUT.out _ (by repeat (first | (with_reducible exact HB.out) | apply below_alloc | apply pw_below_drewN | apply below_drew1 | exact HB.out))) ?_); rintro e w1 ⟨rfl, hb⟩; have G2 := Lib.hid (show w1.heap[w.heap.size]? = some (.cells #[.slice none 0 0] 22 (0, 0)) from blk_below (blk_alloc (blk_new _ _) _) hb); have G3 := Lib.hid (show w1.heap[w.heap.size + 1]? = some (.cells #[.int .i64 0] 26 (0, 0)) from blk_below (by have := blk_new (w.alloc (.cells #[.slice none 0 0] 22)) (.cells #[.int .i64 0] 26); rw [World.size_alloc] at this; exact this) hb); have e0 : w1.cell? ⟨w.heap.size + 1, 0, none⟩ = some (.int .i64 0) := blk_cell G3.out 0; have z0 := blk_frozen G3.out 0; have HBn := Lib.hid (below_step (by repeat (first | (with_reducible exact HB.out) | apply below_alloc | apply pw_below_drewN | apply below_drew1 | exact HB.out)) hb); clear hb HB; have HB := HBn; clear HBn))
    | (go_at_call 33; (with_reducible refine Calls.mono (wrongT_calls _) ?_); rintro e w5 ⟨rfl, rfl⟩)
    | (fail "no arm"))
  refine dec_tail w _ _ _ _ _ (blk_far G2.out (p := ⟨w.heap.size + 1, 0, none⟩) (show w.heap.size ≠ w.heap.size + 1 by omega) (.int .i64 E)) (blk_put G3.out 0 (.int .i64 E) (cs' := #[.int .i64 E]) rfl) (HB.out.setCell (p := ⟨w.heap.size + 1, 0, none⟩) (by simp) (.int .i64 E)) _ ?_ ?_ <;> rfl

set_option maxRecDepth 100000 in
set_option maxHeartbeats 1000000 in
/-- Something is behind the batch. -/
theorem decode_more (ad : Addr) (n c : Nat) (xs : List Int) (w : World) (hr : ReadsInt w .u8 (some ad) n xs) (hc : n ≤ c) (hn : n ≤ 1000000) (hx : ∀ x ∈ xs, 0 ≤ x ∧ x < 256) (k : Nat) (ys : List Int) (hq : rdNum xs 0 65535 = ((k : Int), ys, 0)) (hk : k < ys.length) (hy : ys.length ≤ n) :
    Calls Tryd.prog 14 #[.slice (some ad) n c] w (fun e w' => e = .returned (.tuple #[.slice none 0 0, .int .i64 3]) ∧ Below w.heap.size w w') := by
  have hmf : ∀ (fn : Fn) (first cap : Array Value) (w : World), (Instr.makeFunc fn first cap).run Tryd.prog w = .ok (.func fn first cap) w := fun _ _ _ _ => rfl
  have hcut := fun (W : World) (hb : Below w.heap.size w W) => wcut_ok ad n c xs W (hr.below hb) hc hn hx k ys hq (by omega) hy
  have hl2 : decide (0 < (xs.drop (n - ys.length + k)).length) = true := by rw [List.length_drop, hr.1]; exact decide_eq_true (by omega)
  generalize xs.take (n - ys.length + k) = X1 at hcut
  generalize xs.drop (n - ys.length + k) = X2 at hcut hl2
  have HCUT := Lib.hid hcut
  have HB := Lib.hid (Below.refl w.heap.size w)
  clear hr hx hq hcut hk hy
  go_enter_defers Tryd.func14, Tryd.ntmps14
  go_wp2_with (first
    | (go_at_call 16; go_loud ((refine Calls.mono (HCUT.out _ (by repeat (first | (with_reducible exact HB.out) | apply below_alloc | apply pw_below_drewN | apply below_drew1 | exact HB.out))) ?_); rintro e w1 ⟨v1, v2, rfl, ho1, ho2, hb⟩; obtain ⟨A1, c1, rfl, _⟩ := own_reads ho1; obtain ⟨A2, c2, rfl, hr2⟩ := own_reads ho2; have hm2 := hr2.2.1; have G2 := Lib.hid (show w1.heap[w.heap.size]? = some (.cells #[.slice none 0 0] 22 (0, 0)) from blk_below (blk_alloc (blk_new _ _) _) hb); have G3 := Lib.hid (show w1.heap[w.heap.size + 1]? = some (.cells #[.int .i64 0] 26 (0, 0)) from blk_below (by have := blk_new (w.alloc (.cells #[.slice none 0 0] 22)) (.cells #[.int .i64 0] 26); rw [World.size_alloc] at this; exact this) hb); have e0 : w1.cell? ⟨w.heap.size + 1, 0, none⟩ = some (.int .i64 0) := blk_cell G3.out 0; have z0 := blk_frozen G3.out 0; clear ho1 ho2 hr2; have HBn := Lib.hid (below_step (by repeat (first | (with_reducible exact HB.out) | apply below_alloc | apply pw_below_drewN | apply below_drew1 | exact HB.out)) hb); clear hb HB; have HB := HBn; clear HBn))
    | (go_at_call 33; (with_reducible refine Calls.mono (wrongT_calls _) ?_); rintro e w5 ⟨rfl, rfl⟩)
    | (fail "no arm"))
  refine dec_tail w _ _ _ _ _ (blk_far G2.out (p := ⟨w.heap.size + 1, 0, none⟩) (show w.heap.size ≠ w.heap.size + 1 by omega) (.int .i64 0)) (blk_put G3.out 0 (.int .i64 0) (cs' := #[.int .i64 0]) rfl) (HB.out.setCell (p := ⟨w.heap.size + 1, 0, none⟩) (by simp) (.int .i64 0)) _ ?_ ?_ <;> rfl

set_option maxRecDepth 100000 in
set_option maxHeartbeats 1000000 in
/-- The batch is too short. -/
theorem decode_few (ad : Addr) (n c : Nat) (xs : List Int) (w : World) (hr : ReadsInt w .u8 (some ad) n xs) (hc : n ≤ c) (hn : n ≤ 1000000) (hx : ∀ x ∈ xs, 0 ≤ x ∧ x < 256) (k : Nat) (ys : List Int) (hq : rdNum xs 0 65535 = ((k : Int), ys, 0)) (hk : ys.length = k) (hkn : k ≤ n) (h4 : k < 4) :
    Calls Tryd.prog 14 #[.slice (some ad) n c] w (fun e w' => e = .returned (.tuple #[.slice none 0 0, .int .i64 3]) ∧ Below w.heap.size w w') := by
  have hmf : ∀ (fn : Fn) (first cap : Array Value) (w : World), (Instr.makeFunc fn first cap).run Tryd.prog w = .ok (.func fn first cap) w := fun _ _ _ _ => rfl
  have hcut := fun (W : World) (hb : Below w.heap.size w W) => wcut_ok ad n c xs W (hr.below hb) hc hn hx k ys hq (by omega) (by omega)
  rw [show n - ys.length + k = n by omega, List.take_of_length_le (by rw [hr.1]; exact Nat.le_refl _), List.drop_eq_nil_of_le (by rw [hr.1]; exact Nat.le_refl _)] at hcut
  have HCUT := Lib.hid hcut
  have HX := Lib.hid hx
  have HL := Lib.hid hr.1
  have HB := Lib.hid (Below.refl w.heap.size w)
  have HQ := Lib.hid hq
  clear hcut hr hq hx hk
  go_enter_defers Tryd.func14, Tryd.ntmps14
  go_wp2_with (first
    | (go_at_call 16; go_loud ((refine Calls.mono (HCUT.out _ (by repeat (first | (with_reducible exact HB.out) | apply below_alloc | apply pw_below_drewN | apply below_drew1 | exact HB.out))) ?_); rintro e w1 ⟨v1, v2, rfl, ho1, ho2, hb⟩; obtain ⟨A1, c1, rfl, hr1⟩ := own_reads ho1; obtain ⟨A2, c2, rfl, _⟩ := own_reads ho2; have hc1 := own_cap ho1; rw [HL.out] at hc1 ho1; have HO1 := Lib.hid (OwnB.le ho1 (show w.heap.size + 2 ≤ _ by simp)); rw [HL.out] at hr1 ⊢; have G2 := Lib.hid (show w1.heap[w.heap.size]? = some (.cells #[.slice none 0 0] 22 (0, 0)) from blk_below (blk_alloc (blk_new _ _) _) hb); have G3 := Lib.hid (show w1.heap[w.heap.size + 1]? = some (.cells #[.int .i64 0] 26 (0, 0)) from blk_below (by have := blk_new (w.alloc (.cells #[.slice none 0 0] 22)) (.cells #[.int .i64 0] 26); rw [World.size_alloc] at this; exact this) hb); have e0 : w1.cell? ⟨w.heap.size + 1, 0, none⟩ = some (.int .i64 0) := blk_cell G3.out 0; have z0 := blk_frozen G3.out 0; have HR1 := Lib.hid hr1; clear ho1 ho2 hr1; have HBn := Lib.hid (below_step (by repeat (first | (with_reducible exact HB.out) | apply below_alloc | apply pw_below_drewN | apply below_drew1 | exact HB.out)) hb); clear hb HB; have HB := HBn; clear HBn))
    | (fail "no arm"))
  refine (wrongF_calls _).mono ?_
  rintro e w2 ⟨rfl, rfl⟩
  have HB2 := Lib.hid (HB.out.setCell (p := ⟨w.heap.size + 1, 0, none⟩) (by simp) (.int .i64 0))
  have G22 := Lib.hid (blk_far G2.out (p := ⟨w.heap.size + 1, 0, none⟩) (show w.heap.size ≠ w.heap.size + 1 by omega) (.int .i64 0))
  have G33 := Lib.hid (blk_put G3.out 0 (.int .i64 0) (cs' := #[.int .i64 0]) rfl)
  have HO2 := Lib.hid (HO1.out.set (j := 0) (u := .int .i64 0) (show w.heap.size + 1 < w.heap.size + 2 by omega))
  clear HB G2 G3 HO1 HR1 e0 z0
  generalize w1.setCell ⟨w.heap.size + 1, 0, none⟩ (.int .i64 0) = W at *
  have HW0 := HB2
  clear HB2
  obtain ⟨A', c', he, hr'⟩ := own_reads HO2.out
  injection he with e1 e2 e3
  subst e1 e3
  rw [HL.out] at hr'
  have HN := Lib.hid (new_calls W A1 n c1 xs hr' (by omega) HX.out)
  have HNU := Lib.hid (fun (V : World) (a d : Nat) (h : RD 79 V a d xs 0) => num_calls_eq V a d xs 0 65535 h HQ.out)
  have HB := Lib.hid (Below.refl W.heap.size W)
  have q4 : decide ((k : Int) < 4) = true := decide_eq_true (by omega)
  clear hr' e2 HCUT HO2
  go_wp2_with (first
    | (go_at_call 34; (refine HN.out.mono ?_); rintro e w3 ⟨a, d, rfl, hd, hb, ha, _, _⟩; have HD := Lib.hid hd; have HA := ha; clear hd ha; have HBn := Lib.hid (below_step (by repeat (first | (with_reducible exact HB.out) | apply below_alloc | apply pw_below_drewN | apply below_drew1 | exact HB.out)) hb); clear hb HB; have HB := HBn; clear HBn)
    | (go_at_call 35; (refine (HNU.out _ a d HD.out).mono ?_); rintro e w4 ⟨rfl, hd, ho⟩; clear hd; have HBn := Lib.hid (Below.trans (by repeat (first | (with_reducible exact HB.out) | apply below_alloc | apply pw_below_drewN | apply below_drew1 | exact HB.out)) (ho.below HA)); clear ho HB; have HB := HBn; clear HBn)
    | (go_at_call 33; (with_reducible refine Calls.mono (wrongT_calls _) ?_); rintro e w5 ⟨rfl, rfl⟩)
    | (fail "no arm"))
  refine dec_tail w _ _ _ _ _ (blk_below G22.out HB.out) (blk_below G33.out HB.out) (below_wide HW0.out HB.out HW0.out.size) _ ?_ ?_ <;> rfl

def AtPanic (t2 t3 : Value) (ds : List Deferred) (F : World → Prop) (Q : Exit → Act → World → Prop) : Exit → Act → World → Prop
  | .panic c, a, w => (a.tmps[2]? = some t2 ∧ a.tmps[3]? = some t3 ∧ a.defers = ds) ∧ c = [{ v := .iface 26 (.int .i64 3), recovered := false }] ∧ F w
  | e, a, w => Q e a w
theorem AtPanic.put {t2 t3 : Value} {ds : List Deferred} {F : World → Prop} {Q : Exit → Act → World → Prop} {c : List PanicEntry} {a : Act} {d : Nat} {v : Value} {w : World} (h2 : d ≠ 2) (h3 : d ≠ 3) (h : AtPanic t2 t3 ds F Q (.panic c) (a.put (some d) v) w) : AtPanic t2 t3 ds F Q (.panic c) a w := by
  obtain ⟨⟨k2, k3, k4⟩, k5⟩ := h
  simp only [Act.put] at k2 k3 k4
  rw [Array.getElem?_setIfInBounds_ne h2] at k2
  rw [Array.getElem?_setIfInBounds_ne h3] at k3
  exact ⟨⟨k2, k3, k4⟩, k5⟩
theorem wp_region_atPanic {P : Program} {id : Nat} {ops : Array Oper} {b : Bool} {Q : Exit → Act → World → Prop} {a : Act} {w : World} (t2 t3 : Value) (ds : List Deferred) (F : World → Prop)
    (hQ : ∀ tmps w, tmps[2]? = some t2 → tmps[3]? = some t3 → F w → Q (.panic [{ v := .iface 26 (.int .i64 3), recovered := false }]) ⟨tmps, ds⟩ w) (h : (Code.region id ops b).wp P (AtPanic t2 t3 ds F Q) a w) : (Code.region id ops b).wp P Q a w :=
  Code.wp_mono (fun e a w h => by
    cases e with
    | panic c =>
      obtain ⟨⟨k2, k3, k4⟩, rfl, k6⟩ := h
      obtain ⟨tmps, ds'⟩ := a
      subst k4
      exact hQ _ _ k2 k3 k6
    | _ => exact h) h

set_option maxRecDepth 100000 in
set_option maxHeartbeats 1000000 in
/-- The sum is another one. -/
theorem decode_sum (ad : Addr) (n c : Nat) (xs : List Int) (w : World) (hr : ReadsInt w .u8 (some ad) n xs) (hc : n ≤ c) (hn : n ≤ 1000000) (hx : ∀ x ∈ xs, 0 ≤ x ∧ x < 256) (j k : Nat) (ys : List Int) (hnj : n = j + (k + 4)) (hq : rdNum xs 0 65535 = (((k + 4 : Nat) : Int), ys, 0)) (hk : ys.length = k + 4) (hy : xs.drop j = ys)
    (hsum : ((strOfNums (fourL (sumN (ys.take k)))).toList == (strOfNums (ys.drop k)).toList) = false) :
    Calls Tryd.prog 14 #[.slice (some ad) n c] w (fun e w' => e = .returned (.tuple #[.slice none 0 0, .int .i64 3]) ∧ Below w.heap.size w w') := by
  have hmf : ∀ (fn : Fn) (first cap : Array Value) (w : World), (Instr.makeFunc fn first cap).run Tryd.prog w = .ok (.func fn first cap) w := fun _ _ _ _ => rfl
  have hcut := fun (W : World) (hb : Below w.heap.size w W) => wcut_ok ad n c xs W (hr.below hb) hc hn hx (k + 4) ys hq (by omega) (by omega)
  rw [show n - ys.length + (k + 4) = n by omega, List.take_of_length_le (by rw [hr.1]; exact Nat.le_refl _), List.drop_eq_nil_of_le (by rw [hr.1]; exact Nat.le_refl _)] at hcut
  have HCUT := Lib.hid hcut
  have HX := Lib.hid hx
  have HL := Lib.hid hr.1
  have HB := Lib.hid (Below.refl w.heap.size w)
  have HNJ := Lib.hid hnj
  have HQ := Lib.hid hq
  have HK := Lib.hid hk
  have HY := Lib.hid hy
  have HSUM := Lib.hid hsum
  clear hcut hr hnj hq hk hy hsum hx
  go_enter_defers Tryd.func14, Tryd.ntmps14
  go_wp2_with (first
    | (go_at_call 16; go_loud ((refine Calls.mono (HCUT.out _ (by repeat (first | (with_reducible exact HB.out) | apply below_alloc | apply pw_below_drewN | apply below_drew1 | exact HB.out))) ?_); rintro e w1 ⟨v1, v2, rfl, ho1, ho2, hb⟩; obtain ⟨A1, c1, rfl, hr1⟩ := own_reads ho1; obtain ⟨A2, c2, rfl, _⟩ := own_reads ho2; have hc1 := own_cap ho1; rw [HL.out] at hc1 ho1; have HO1 := Lib.hid (OwnB.le ho1 (show w.heap.size + 2 ≤ _ by simp)); rw [HL.out] at hr1 ⊢; have G2 := Lib.hid (show w1.heap[w.heap.size]? = some (.cells #[.slice none 0 0] 22 (0, 0)) from blk_below (blk_alloc (blk_new _ _) _) hb); have G3 := Lib.hid (show w1.heap[w.heap.size + 1]? = some (.cells #[.int .i64 0] 26 (0, 0)) from blk_below (by have := blk_new (w.alloc (.cells #[.slice none 0 0] 22)) (.cells #[.int .i64 0] 26); rw [World.size_alloc] at this; exact this) hb); have e0 : w1.cell? ⟨w.heap.size + 1, 0, none⟩ = some (.int .i64 0) := blk_cell G3.out 0; have z0 := blk_frozen G3.out 0; have HR1 := Lib.hid hr1; clear ho1 ho2 hr1; have HBn := Lib.hid (below_step (by repeat (first | (with_reducible exact HB.out) | apply below_alloc | apply pw_below_drewN | apply below_drew1 | exact HB.out)) hb); clear hb HB; have HB := HBn; clear HBn))
    | (fail "no arm"))
  refine (wrongF_calls _).mono ?_
  rintro e w2 ⟨rfl, rfl⟩
  have HB2 := Lib.hid (HB.out.setCell (p := ⟨w.heap.size + 1, 0, none⟩) (by simp) (.int .i64 0))
  have G22 := Lib.hid (blk_far G2.out (p := ⟨w.heap.size + 1, 0, none⟩) (show w.heap.size ≠ w.heap.size + 1 by omega) (.int .i64 0))
  have G33 := Lib.hid (blk_put G3.out 0 (.int .i64 0) (cs' := #[.int .i64 0]) rfl)
  have HO2 := Lib.hid (HO1.out.set (j := 0) (u := .int .i64 0) (show w.heap.size + 1 < w.heap.size + 2 by omega))
  clear HB G2 G3 HO1 HR1 e0 z0
  generalize w1.setCell ⟨w.heap.size + 1, 0, none⟩ (.int .i64 0) = W at *
  have HW0 := HB2
  clear HB2
  obtain ⟨A', c', he, hr'⟩ := own_reads HO2.out
  injection he with e1 e2 e3
  subst e1 e3
  rw [HL.out] at hr'
  obtain rfl := HNJ.out
  obtain ⟨ad1, rfl, _⟩ := hr'.2.2 (by omega)
  have hys := hr'.drop_ (c := c1) j (by omega) hc1
  rw [if_neg (show ¬ c1 = j by omega), HY.out, show j + (k + 4) - j = k + 4 by omega] at hys
  have hbody := hys.take_ k (by omega)
  have hsm := hys.drop_ (c := c1 - j) k (by omega) (by omega)
  rw [if_neg (show ¬ c1 - j = k by omega), show k + 4 - k = 4 by omega] at hsm
  have hyr : ∀ x ∈ ys, 0 ≤ x ∧ x < 256 := fun x h => HX.out x (by rw [← HY.out] at h; exact List.mem_of_mem_drop h)
  have hbr : ∀ x ∈ ys.take k, 0 ≤ x ∧ x < 256 := fun x h => hyr x (List.mem_of_mem_take h)
  have HN := Lib.hid (new_calls W (some ad1) (j + (k + 4)) c1 xs hr' (by omega) HX.out)
  have HNU := Lib.hid (fun (V : World) (a d : Nat) (h : RD 79 V a d xs 0) => num_calls_eq V a d xs 0 65535 h HQ.out)
  have his := fun (V : World) (hb : Below W.heap.size W V) => is_calls (some (ad1.add j)) k (c1 - j) (ys.take k) (some ((ad1.add j).add k)) 4 (c1 - j - k) (ys.drop k) V (hbody.below hb) hbr (hsm.below hb)
  rw [HSUM.out] at his
  have HIS := Lib.hid his
  have HB := Lib.hid (Below.refl W.heap.size W)
  have hj0 : (0 : Int) ≤ (j : Int) := by omega
  have hj1 : (j : Int) ≤ c1 := by omega
  have hk0 : (0 : Int) ≤ (k : Int) := by omega
  have hk1 : (k : Int) ≤ ((c1 - j : Nat) : Int) := by omega
  have hk2 : (k : Int) ≤ (k : Int) + 4 := by omega
  have hk3 : (k : Int) ≤ ((k + 4 : Nat) : Int) := by omega
  have hcj : ¬ c1 = j := by omega
  have hck : ¬ c1 - j = k := by omega
  clear hr' hys hbody hsm hyr hbr his e2 HCUT HO2
  go_wp2_with (first
    | (go_at_call 34; (refine HN.out.mono ?_); rintro e w3 ⟨a, d, rfl, hd, hb, ha, _, _⟩; have HD := Lib.hid hd; have HA := ha; clear hd ha; have HBn := Lib.hid (below_step (by repeat (first | (with_reducible exact HB.out) | apply below_alloc | apply pw_below_drewN | apply below_drew1 | exact HB.out)) hb); clear hb HB; have HB := HBn; clear HBn)
    | (go_at_call 35; (refine (HNU.out _ a d HD.out).mono ?_); rintro e w4 ⟨rfl, hd, ho⟩; clear hd; have HBn := Lib.hid (Below.trans (by repeat (first | (with_reducible exact HB.out) | apply below_alloc | apply pw_below_drewN | apply below_drew1 | exact HB.out)) (ho.below HA)); clear ho HB; have HB := HBn; clear HBn)
    | (go_at_call 33; (refine (wrongF_calls _).mono ?_); rintro e w5 ⟨rfl, rfl⟩)
    | (fail "no arm"))
  have HF := Lib.hid (fun (V : World) (hb : Below W.heap.size W V) (tmps : Array Value) t2 t3 => dec_tail w V _ _ _ _ (blk_below G22.out hb) (blk_below G33.out hb) (below_wide HW0.out hb HW0.out.size) tmps t2 t3)
  refine wp_region_atPanic (.pointer (some ⟨w.heap.size, 0, none⟩)) (.pointer (some ⟨w.heap.size + 1, 0, none⟩)) [{ target := .fn (.func 32) #[.pointer (some ⟨w.heap.size, 0, none⟩), .pointer (some ⟨w.heap.size + 1, 0, none⟩)], args := #[] }] (fun V => Below W.heap.size W V) (fun tmps V h2 h3 hb => HF.out V hb tmps h2 h3) ?_
  refine wp_region_any (by kernel_rfl) ?_
  change wpAny _ _ _ _ _ _ _ (World.drew _)
  refine wpAny_take (i := 0) (v := ?_) rfl (by kernel_rfl) (by kernel_rfl) (by kernel_rfl) (fun c a w h => AtPanic.put (by decide) (by decide) h) (Or.inl ⟨by rfl, ?_⟩) ?_
  rotate_left
  · intro w; go_simp; (try with_reducible rfl)
  refine wpAny_take (i := 1) (v := ?_) rfl (by kernel_rfl) (by kernel_rfl) (by kernel_rfl) (fun c a w h => AtPanic.put (by decide) (by decide) h) (Or.inl ⟨by rfl, ?_⟩) ?_
  rotate_left
  · intro w; go_simp; (try with_reducible rfl)
  refine wpAny_take (i := 2) (v := ?_) rfl (by kernel_rfl) (by kernel_rfl) (by kernel_rfl) (fun c a w h => AtPanic.put (by decide) (by decide) h) (Or.inl ⟨by rfl, ?_⟩) ?_
  rotate_left
  · intro w; go_simp; (try with_reducible rfl)
  refine wpAny_take (i := 3) (v := ?_) rfl (by kernel_rfl) (by kernel_rfl) (by kernel_rfl) (fun c a w h => AtPanic.put (by decide) (by decide) h) (Or.inl ⟨by rfl, ?_⟩) ?_
  rotate_left
  · intro w; go_simp; (try with_reducible rfl)
  refine wpAny_take (i := 4) (v := ?_) rfl (by kernel_rfl) (by kernel_rfl) (by kernel_rfl) (fun c a w h => AtPanic.put (by decide) (by decide) h) (Or.inl ⟨by rfl, ?_⟩) ?_
  rotate_left
  · intro w; go_simp; (try with_reducible rfl)
  refine wpAny_take (i := 5) (v := ?_) rfl (by kernel_rfl) (by kernel_rfl) (by kernel_rfl) (fun c a w h => AtPanic.put (by decide) (by decide) h) (Or.inl ⟨by rfl, ?_⟩) ?_
  rotate_left
  · intro w; go_simp; (try with_reducible rfl)
  refine wpAny_ready (rs := [6]) (by kernel_rfl) (by simp) ?_
  refine AllReady.cons rfl (fun K hK => ?_) AllReady.nil
  go_simp
  refine Calls.mono (HIS.out _ (by repeat (first | (with_reducible exact HB.out) | apply below_alloc | apply pw_below_drewN | apply below_drew1 | exact HB.out))) ?_
  rintro e w6 ⟨rfl, hb⟩
  have HBn := Lib.hid (below_step (by repeat (first | (with_reducible exact HB.out) | apply below_alloc | apply pw_below_drewN | apply below_drew1 | exact HB.out)) hb); clear hb HB; have HB := HBn; clear HBn
  refine hK _ _ ?_
  clear hK K
  refine wpAny_take (i := 7) (v := ?_) rfl (by kernel_rfl) (by kernel_rfl) (by kernel_rfl) (fun c a w h => AtPanic.put (by decide) (by decide) h) (Or.inl ⟨by rfl, ?_⟩) ?_
  rotate_left
  · intro w; go_simp; (try with_reducible rfl)
  refine wpAny_ready (rs := [8]) (by kernel_rfl) (by simp) ?_
  refine AllReady.cons rfl (fun K hK => ?_) AllReady.nil
  go_simp
  refine Calls.mono (wrongT_calls _) ?_
  rintro e w7 ⟨rfl, rfl⟩
  exact ⟨⟨rfl, rfl, rfl⟩, rfl, HB.out⟩

set_option maxRecDepth 100000 in
set_option maxHeartbeats 1000000 in
/-- Inside there is no batch. -/
theorem decode_in (ad : Addr) (n c : Nat) (xs : List Int) (w : World) (hr : ReadsInt w .u8 (some ad) n xs) (hc : n ≤ c) (hn : n ≤ 1000000) (hx : ∀ x ∈ xs, 0 ≤ x ∧ x < 256) (hT : Tabs w) (j k : Nat) (ys : List Int) (hnj : n = j + (k + 4)) (hq : rdNum xs 0 65535 = (((k + 4 : Nat) : Int), ys, 0)) (hk : ys.length = k + 4) (hy : xs.drop j = ys)
    (hsum : fourL (sumN (ys.take k)) = ys.drop k) (hin : insR (ys.take k) = none) :
    Calls Tryd.prog 14 #[.slice (some ad) n c] w (fun e w' => e = .returned (.tuple #[.slice none 0 0, .int .i64 3]) ∧ Below w.heap.size w w') := by
  have hmf : ∀ (fn : Fn) (first cap : Array Value) (w : World), (Instr.makeFunc fn first cap).run Tryd.prog w = .ok (.func fn first cap) w := fun _ _ _ _ => rfl
  have hcut := fun (W : World) (hb : Below w.heap.size w W) => wcut_ok ad n c xs W (hr.below hb) hc hn hx (k + 4) ys hq (by omega) (by omega)
  rw [show n - ys.length + (k + 4) = n by omega, List.take_of_length_le (by rw [hr.1]; exact Nat.le_refl _), List.drop_eq_nil_of_le (by rw [hr.1]; exact Nat.le_refl _)] at hcut
  have HCUT := Lib.hid hcut
  have HX := Lib.hid hx
  have HL := Lib.hid hr.1
  have HB := Lib.hid (Below.refl w.heap.size w)
  have HNJ := Lib.hid hnj
  have HQ := Lib.hid hq
  have HK := Lib.hid hk
  have HY := Lib.hid hy
  have HSUM := Lib.hid hsum
  have HIN := Lib.hid hin
  have HT := Lib.hid hT
  clear hcut hr hnj hq hk hy hsum hx hin hT
  go_enter_defers Tryd.func14, Tryd.ntmps14
  go_wp2_with (first
    | (go_at_call 16; go_loud ((refine Calls.mono (HCUT.out _ (by repeat (first | (with_reducible exact HB.out) | apply below_alloc | apply pw_below_drewN | apply below_drew1 | exact HB.out))) ?_); rintro e w1 ⟨v1, v2, rfl, ho1, ho2, hb⟩; obtain ⟨A1, c1, rfl, hr1⟩ := own_reads ho1; obtain ⟨A2, c2, rfl, _⟩ := own_reads ho2; have hc1 := own_cap ho1; rw [HL.out] at hc1 ho1; have HO1 := Lib.hid (OwnB.le ho1 (show w.heap.size + 2 ≤ _ by simp)); rw [HL.out] at hr1 ⊢; have G2 := Lib.hid (show w1.heap[w.heap.size]? = some (.cells #[.slice none 0 0] 22 (0, 0)) from blk_below (blk_alloc (blk_new _ _) _) hb); have G3 := Lib.hid (show w1.heap[w.heap.size + 1]? = some (.cells #[.int .i64 0] 26 (0, 0)) from blk_below (by have := blk_new (w.alloc (.cells #[.slice none 0 0] 22)) (.cells #[.int .i64 0] 26); rw [World.size_alloc] at this; exact this) hb); have e0 : w1.cell? ⟨w.heap.size + 1, 0, none⟩ = some (.int .i64 0) := blk_cell G3.out 0; have z0 := blk_frozen G3.out 0; have HR1 := Lib.hid hr1; clear ho1 ho2 hr1; have HBn := Lib.hid (below_step (by repeat (first | (with_reducible exact HB.out) | apply below_alloc | apply pw_below_drewN | apply below_drew1 | exact HB.out)) hb); clear hb HB; have HB := HBn; clear HBn))
    | (fail "no arm"))
  refine (wrongF_calls _).mono ?_
  rintro e w2 ⟨rfl, rfl⟩
  have HB2 := Lib.hid (HB.out.setCell (p := ⟨w.heap.size + 1, 0, none⟩) (by simp) (.int .i64 0))
  have G22 := Lib.hid (blk_far G2.out (p := ⟨w.heap.size + 1, 0, none⟩) (show w.heap.size ≠ w.heap.size + 1 by omega) (.int .i64 0))
  have G33 := Lib.hid (blk_put G3.out 0 (.int .i64 0) (cs' := #[.int .i64 0]) rfl)
  have HO2 := Lib.hid (HO1.out.set (j := 0) (u := .int .i64 0) (show w.heap.size + 1 < w.heap.size + 2 by omega))
  clear HB G2 G3 HO1 HR1 e0 z0
  generalize w1.setCell ⟨w.heap.size + 1, 0, none⟩ (.int .i64 0) = W at *
  have HW0 := HB2
  clear HB2
  obtain ⟨A', c', he, hr'⟩ := own_reads HO2.out
  injection he with e1 e2 e3
  subst e1 e3
  rw [HL.out] at hr'
  obtain rfl := HNJ.out
  obtain ⟨ad1, rfl, _⟩ := hr'.2.2 (by omega)
  have hys := hr'.drop_ (c := c1) j (by omega) hc1
  rw [if_neg (show ¬ c1 = j by omega), HY.out, show j + (k + 4) - j = k + 4 by omega] at hys
  have hbody := hys.take_ k (by omega)
  have hsm := hys.drop_ (c := c1 - j) k (by omega) (by omega)
  rw [if_neg (show ¬ c1 - j = k by omega), show k + 4 - k = 4 by omega] at hsm
  have hyr : ∀ x ∈ ys, 0 ≤ x ∧ x < 256 := fun x h => HX.out x (by rw [← HY.out] at h; exact List.mem_of_mem_drop h)
  have hbr : ∀ x ∈ ys.take k, 0 ≤ x ∧ x < 256 := fun x h => hyr x (List.mem_of_mem_take h)
  have HN := Lib.hid (new_calls W (some ad1) (j + (k + 4)) c1 xs hr' (by omega) HX.out)
  have HNU := Lib.hid (fun (V : World) (a d : Nat) (h : RD 79 V a d xs 0) => num_calls_eq V a d xs 0 65535 h HQ.out)
  have his := fun (V : World) (hb : Below W.heap.size W V) => is_calls (some (ad1.add j)) k (c1 - j) (ys.take k) (some ((ad1.add j).add k)) 4 (c1 - j - k) (ys.drop k) V (hbody.below hb) hbr (hsm.below hb)
  rw [HSUM.out, beq_self_eq_true] at his
  have HIS := Lib.hid his
  have HINS := Lib.hid (fun (V : World) (hb : Below W.heap.size W V) => inside_dies (some (ad1.add j)) k (c1 - j) (ys.take k) V (hbody.below hb) (by omega) hbr (HT.out.below (below_wide HW0.out hb HW0.out.size)) HIN.out)
  have HB := Lib.hid (Below.refl W.heap.size W)
  have hj0 : (0 : Int) ≤ (j : Int) := by omega
  have hj1 : (j : Int) ≤ c1 := by omega
  have hk0 : (0 : Int) ≤ (k : Int) := by omega
  have hk1 : (k : Int) ≤ ((c1 - j : Nat) : Int) := by omega
  have hk2 : (k : Int) ≤ (k : Int) + 4 := by omega
  have hk3 : (k : Int) ≤ ((k + 4 : Nat) : Int) := by omega
  have hcj : ¬ c1 = j := by omega
  have hck : ¬ c1 - j = k := by omega
  clear hr' hys hbody hsm hyr hbr his e2 HCUT HO2
  go_wp2_with (first
    | (go_at_call 34; (refine HN.out.mono ?_); rintro e w3 ⟨a, d, rfl, hd, hb, ha, _, _⟩; have HD := Lib.hid hd; have HA := ha; clear hd ha; have HBn := Lib.hid (below_step (by repeat (first | (with_reducible exact HB.out) | apply below_alloc | apply pw_below_drewN | apply below_drew1 | exact HB.out)) hb); clear hb HB; have HB := HBn; clear HBn)
    | (go_at_call 35; (refine (HNU.out _ a d HD.out).mono ?_); rintro e w4 ⟨rfl, hd, ho⟩; clear hd; have HBn := Lib.hid (Below.trans (by repeat (first | (with_reducible exact HB.out) | apply below_alloc | apply pw_below_drewN | apply below_drew1 | exact HB.out)) (ho.below HA)); clear ho HB; have HB := HBn; clear HBn)
    | (go_at_call 33; (refine (wrongF_calls _).mono ?_); rintro e w5 ⟨rfl, rfl⟩)
    | (fail "no arm"))
  go_region_held3 (fun _ => True) (exact trivial) (first
    | (go_at_call 36; (refine Calls.mono (HIS.out _ (by repeat (first | (with_reducible exact HB.out) | apply below_alloc | apply pw_below_drewN | apply below_drew1 | exact HB.out))) ?_); rintro e w6 ⟨rfl, hb⟩; have HBn := Lib.hid (below_step (by repeat (first | (with_reducible exact HB.out) | apply below_alloc | apply pw_below_drewN | apply below_drew1 | exact HB.out)) hb); clear hb HB; have HB := HBn; clear HBn)
    | (go_at_call 33; (refine (wrongF_calls _).mono ?_); rintro e w7 ⟨rfl, rfl⟩)
    | (fail "no arm"))
  go_wp2_with (first
    | (go_at_call 37; go_loud ((refine Calls.mono (HINS.out _ (by repeat (first | (with_reducible exact HB.out) | apply below_alloc | apply pw_below_drewN | apply below_drew1 | exact HB.out))) ?_); rintro e w8 ⟨rfl, hb⟩; have HBn := Lib.hid (below_step (by repeat (first | (with_reducible exact HB.out) | apply below_alloc | apply pw_below_drewN | apply below_drew1 | exact HB.out)) hb); clear hb HB; have HB := HBn; clear HBn))
    | (fail "no arm"))
  refine dec_tail w _ _ _ _ _ (blk_below G22.out HB.out) (blk_below G33.out HB.out) (below_wide HW0.out HB.out HW0.out.size) _ ?_ ?_ <;> rfl
end Go.Proofs.YtfnoegijkdhckaaDoor
/- What Decode and Cut make of any bytes; what is decoded, encoded again, is the same bytes. -/
namespace Go.Proofs.YtfnoegijkdhckaaDoor
open Go.RowKit Go.Proofs.YtfnoegijkdhckaaDoorW.PrintWords

def decR (xs : List Int) : Option (List OpR) :=
  if cutE xs = 0 ∧ (rdNum xs 0 65535).1 = ((rdNum xs 0 65535).2.1.length : Int) ∧ 4 ≤ (rdNum xs 0 65535).2.1.length ∧ fourL (sumN ((rdNum xs 0 65535).2.1.take ((rdNum xs 0 65535).2.1.length - 4))) = (rdNum xs 0 65535).2.1.drop ((rdNum xs 0 65535).2.1.length - 4)
  then insR ((rdNum xs 0 65535).2.1.take ((rdNum xs 0 65535).2.1.length - 4)) else none
def decO (xs : List Int) : List OpR := (decR xs).getD []
def decE (xs : List Int) : Int := if (decR xs).isSome then 0 else 3
theorem decO_some {xs : List Int} {os : List OpR} (h : decR xs = some os) : decO xs = os := by rw [decO, h]; rfl
theorem decE_some {xs : List Int} {os : List OpR} (h : decR xs = some os) : decE xs = 0 := by rw [decE, h]; rfl
theorem decO_none {xs : List Int} (h : decR xs = none) : decO xs = [] := by rw [decO, h]; rfl
theorem decE_none {xs : List Int} (h : decR xs = none) : decE xs = 3 := by rw [decE, h]; rfl

theorem cutE_zero {xs : List Int} (hx : ∀ x ∈ xs, 0 ≤ x ∧ x < 256) (h : cutE xs = 0) : ∃ j m : Nat, rdNum xs 0 65535 = ((m : Int), xs.drop j, 0) ∧ m ≤ 65535 ∧ 1 ≤ j ∧ j ≤ xs.length ∧ form m = xs.take j ∧ m ≤ (xs.drop j).length := by
  rcases rdNum_cases xs 65535 hx with ⟨e, k, he⟩ | ⟨j, v, k, h1, _, h3, h4, h5, _, h7⟩
  · unfold cutE at h
    rw [k] at h
    rcases he with rfl | rfl <;> simp at h
  · obtain ⟨m, rfl⟩ := Int.eq_ofNat_of_zero_le h5
    refine ⟨j, m, k, by omega, h1, h3, h4, ?_⟩
    unfold cutE at h
    rw [k] at h
    simp only [ne_eq, not_true_eq_false, if_false] at h
    by_cases hl : ((xs.drop j).length : Int) < (m : Int)
    · rw [if_pos hl] at h; cases h
    · omega
theorem range_drop {xs : List Int} (hx : ∀ x ∈ xs, 0 ≤ x ∧ x < 256) (j : Nat) : ∀ x ∈ xs.drop j, 0 ≤ x ∧ x < 256 := fun x h => hx x (List.mem_of_mem_drop h)
theorem range_take {xs : List Int} (hx : ∀ x ∈ xs, 0 ≤ x ∧ x < 256) (j : Nat) : ∀ x ∈ xs.take j, 0 ≤ x ∧ x < 256 := fun x h => hx x (List.mem_of_mem_take h)
theorem str_ne {us vs : List Int} (hu : ∀ x ∈ us, 0 ≤ x ∧ x < 256) (hv : ∀ x ∈ vs, 0 ≤ x ∧ x < 256) (h : us ≠ vs) : ((strOfNums us).toList == (strOfNums vs).toList) = false := by
  rw [Bool.eq_false_iff]
  intro k
  have k2 := beq_iff_eq.1 k
  rw [ByteArray.toList_eq, ByteArray.toList_eq] at k2
  have k3 : strOfNums us = strOfNums vs := ByteArray.ext (Array.toList_inj.1 k2)
  apply h
  rw [← bytesOf_strOf us hu, ← bytesOf_strOf vs hv, k3]

set_option maxHeartbeats 1000000 in
theorem decode_any (A : Option Addr) (n c : Nat) (xs : List Int) (w : World) (hr : ReadsInt w .u8 A n xs) (hc : n ≤ c) (hn : n ≤ 1000000) (hx : ∀ x ∈ xs, 0 ≤ x ∧ x < 256) (hT : Tabs w) :
    Calls Tryd.prog 14 #[.slice A n c] w fun e w' => ∃ v, e = .returned (.tuple #[v, .int .i64 (decE xs)]) ∧ OwnO w' w.heap.size v (decO xs) ∧ Below w.heap.size w w' := by
  have none_ : decR xs = none → Calls Tryd.prog 14 #[.slice A n c] w (fun e w' => e = .returned (.tuple #[.slice none 0 0, .int .i64 3]) ∧ Below w.heap.size w w') → Calls Tryd.prog 14 #[.slice A n c] w fun e w' => ∃ v, e = .returned (.tuple #[v, .int .i64 (decE xs)]) ∧ OwnO w' w.heap.size v (decO xs) ∧ Below w.heap.size w w' := by
    intro h k
    rw [decE_none h, decO_none h]
    exact k.mono fun _ _ ⟨he, hb⟩ => ⟨_, he, OwnRow.none_ _ _ _ _ _, hb⟩
  by_cases he : cutE xs = 0
  · obtain ⟨j, m, hq, hm, hj, hjx, hf, hml⟩ := cutE_zero hx he
    have hpos : 0 < n := by rw [← hr.1]; omega
    obtain ⟨ad, rfl, _⟩ := hr.2.2 hpos
    have hL : (xs.drop j).length = n - j := by rw [List.length_drop, hr.1]
    have hjn : j ≤ n := by rw [← hr.1]; exact hjx
    by_cases h1 : m = (xs.drop j).length
    · by_cases h4 : 4 ≤ (xs.drop j).length
      · obtain ⟨k, hk⟩ : ∃ k, (xs.drop j).length = k + 4 := ⟨(xs.drop j).length - 4, by omega⟩
        have hmk : m = k + 4 := by omega
        subst hmk
        have hnj : n = j + (k + 4) := by omega
        by_cases hs : fourL (sumN ((xs.drop j).take k)) = (xs.drop j).drop k
        · have hd : decR xs = insR ((xs.drop j).take k) := by
            unfold decR
            rw [hq]
            simp only
            rw [hk, show k + 4 - 4 = k by omega, if_pos ⟨he, rfl, by omega, hs⟩]
          cases hi : insR ((xs.drop j).take k) with
          | none => exact none_ (by rw [hd, hi]) (decode_in ad n c xs w hr hc hn hx hT j k _ hnj hq hk rfl hs hi)
          | some os =>
            have hd2 : decR xs = some os := by rw [hd, hi]
            rw [decE_some hd2, decO_some hd2]
            exact decode_ok ad n c xs os w hr hc hn hx hT j k _ hnj hq hk rfl hs hi
        · have hd : decR xs = none := by
            unfold decR
            rw [hq]
            simp only
            rw [hk, show k + 4 - 4 = k by omega, if_neg (fun h => hs h.2.2.2)]
          exact none_ hd (decode_sum ad n c xs w hr hc hn hx j k _ hnj hq hk rfl (str_ne (fourL_range _) (range_drop (range_drop hx j) k) hs))
      · have hd : decR xs = none := by
          unfold decR
          rw [hq]
          simp only
          rw [if_neg (fun h => h4 h.2.2.1)]
        exact none_ hd (decode_few ad n c xs w hr hc hn hx m _ hq h1.symm (by omega) (by omega))
    · have hd : decR xs = none := by
        unfold decR
        rw [hq]
        simp only
        rw [if_neg (fun h => h1 (by omega))]
      exact none_ hd (decode_more ad n c xs w hr hc hn hx m _ hq (by omega) (by omega))
  · have hd : decR xs = none := by
      unfold decR
      rw [if_neg (fun h => he h.1)]
    exact none_ hd (decode_cutless A n c xs w hr hn hx he)

/-- What Cut cuts off, and what is left. -/
def cutF (xs : List Int) : List Int := if cutE xs = 0 then xs.take (cutK xs) else []
def cutL (xs : List Int) : List Int := if cutE xs = 0 then xs.drop (cutK xs) else []
theorem cut_any (A : Option Addr) (n c : Nat) (xs : List Int) (w : World) (hr : ReadsInt w .u8 A n xs) (hc : n ≤ c) (hn : n ≤ 1000000) (hx : ∀ x ∈ xs, 0 ≤ x ∧ x < 256) :
    Calls Tryd.prog 16 #[.slice A n c] w fun e w' => ∃ v1 v2, e = .returned (.tuple #[v1, v2, .int .i64 (cutE xs)]) ∧ OwnB w' w.heap.size v1 (cutF xs) ∧ OwnB w' w.heap.size v2 (cutL xs) ∧ Below w.heap.size w w' := by
  by_cases he : cutE xs = 0
  · obtain ⟨j, m, hq, hm, hj, hjx, hf, hml⟩ := cutE_zero hx he
    have hpos : 0 < n := by rw [← hr.1]; omega
    obtain ⟨ad, rfl, _⟩ := hr.2.2 hpos
    have hL : (xs.drop j).length = n - j := by rw [List.length_drop, hr.1]
    rw [cutF, cutL, if_pos he, if_pos he, he]
    have hk : cutK xs = n - (xs.drop j).length + m := by
      unfold cutK
      rw [hq, hr.1]
      simp
    rw [hk]
    exact wcut_ok ad n c xs w hr hc hn hx m _ hq hml (by omega)
  · rw [cutF, cutL, if_neg he, if_neg he]
    exact (wcut_err A n c xs w hr hn hx he).mono fun _ _ ⟨h, hb⟩ => ⟨_, _, h, own_nil _ _ _ _, own_nil _ _ _ _, hb⟩

theorem runO_put (j : Nat) : ∀ (ys : List Int) (os : List OpR), (∀ x ∈ ys, 0 ≤ x ∧ x < 256) → runO j ys 0 = some os → os.all opRight = true ∧ forms os = ys := by
  induction j with
  | zero =>
    intro ys os _ h
    rw [runO] at h
    split at h
    · rename_i hy
      injection h with h
      subst h hy
      exact ⟨rfl, rfl⟩
    · cases h
  | succ j ih =>
    intro ys os hx h
    obtain ⟨r, rfl, hR, h2⟩ := runO_succ h
    obtain ⟨k, hk, h3, h4⟩ := take_put ys hx hR
    rw [h4] at h2
    obtain ⟨i1, i2⟩ := ih _ _ (range_drop hx k) h2
    refine ⟨by rw [List.all_cons, hR, i1]; rfl, ?_⟩
    rw [show forms (tkOp ys 0 :: r) = opForm (tkOp ys 0) ++ forms r by simp [forms], h3, i2, List.take_append_drop]
theorem insR_put {xs : List Int} {os : List OpR} (hx : ∀ x ∈ xs, 0 ≤ x ∧ x < 256) (h : insR xs = some os) : encOk os = true ∧ encA os = xs := by
  obtain ⟨ys, zs, m, h1, h2, hm, hrun⟩ := insR_some hx h
  rcases rdNum_cases xs 1 hx with ⟨e, k, he⟩ | ⟨k, n, k1, _, _, _, f1, _⟩
  · rw [k] at h1; injection h1 with a b; cases a
  · rw [k1] at h1
    injection h1 with a b
    injection b with b _
    subst a b
    have hy := range_drop hx k
    rcases rdNum_cases (xs.drop k) 64 hy with ⟨e, q, he⟩ | ⟨k2, n2, q1, _, _, _, f2, _⟩
    · rw [q] at h2; injection h2 with a b; injection b with b c; rcases he with rfl | rfl <;> cases c
    · rw [q1] at h2
      injection h2 with a b
      injection b with b _
      subst a b
      obtain ⟨p1, p2⟩ := runO_put m _ _ (range_drop hy k2) hrun
      have hl := runO_len m _ _ hrun
      refine ⟨?_, ?_⟩
      · unfold encOk; rw [p1, decide_eq_true (show os.length ≤ 64 by omega)]; rfl
      · rw [encA, p2, hl, f2, show ([1] : List Int) = xs.take k from f1 ▸ rfl, List.append_assoc, List.take_append_drop, List.take_append_drop]
/-- What is decoded, encoded again, is the same bytes. -/
theorem decR_enc {xs : List Int} {os : List OpR} (hx : ∀ x ∈ xs, 0 ≤ x ∧ x < 256) (h : decR xs = some os) : encOk os = true ∧ encB os = xs := by
  unfold decR at h
  split at h
  · rename_i hc
    obtain ⟨he, h1, h4, hs⟩ := hc
    obtain ⟨j, m, hq, hm, hj, hjx, hf, hml⟩ := cutE_zero hx he
    rw [hq] at h1 h4 hs h
    simp only at h1 h4 hs h
    generalize hk : (xs.drop j).length - 4 = k at hs h
    obtain ⟨p1, p2⟩ := insR_put (range_take (range_drop hx j) k) h
    refine ⟨p1, ?_⟩
    have e1 : encS os = xs.drop j := by rw [encS, p2, hs, List.take_append_drop]
    rw [encB, e1, ← h1, hf, List.take_append_drop]
  · cases h
/-- What is encoded is decoded. -/
theorem decR_encB {os : List OpR} (hok : encOk os = true) : decR (encB os) = some os := by
  have hl := encB_len os hok
  have hs := encS_len os
  have hA := encA_len os
  have hk64 : os.length ≤ 64 := by
    unfold encOk at hok
    simp only [Bool.and_eq_true, decide_eq_true_eq] at hok
    exact hok.1
  have hq := rdNum_form (encS os).length (by omega) (by omega) (encS os) 65535
  rw [if_neg (by omega), show form ((encS os).length : Int) ++ encS os = encB os from rfl] at hq
  have hc : cutE (encB os) = 0 := by
    unfold cutE
    rw [hq]
    simp
  unfold decR
  rw [hq]
  simp only
  have ht : (encS os).take ((encS os).length - 4) = encA os := by
    rw [hs, show (encA os).length + 4 - 4 = (encA os).length by omega, encS, List.take_left]
  have hd : (encS os).drop ((encS os).length - 4) = fourL (sumN (encA os)) := by
    rw [hs, show (encA os).length + 4 - 4 = (encA os).length by omega, encS, List.drop_left]
  rw [ht, hd, if_pos ⟨hc, by trivial, by omega, by trivial⟩]
  exact insR_encA os hok
end Go.Proofs.YtfnoegijkdhckaaDoor
/- Opening arguments of plain data, whatever their make: what a reading's cells say, kind by kind. -/
namespace Go.Proofs.YtfnoegijkdhckaaDoorW.Open
open Go.RowKit Go.Proofs.YtfnoegijkdhckaaDoorW.PrintWords Go.ChangeShapes

/-- What is read at type t is of the kind d, and ok. -/
def Opens {α : Type} (P : Program) (t : TypeId) (d : Kd α) (ok : α → Prop) : Prop :=
  P.cellsOf t = d.sz ∧ ∀ (H : Type) (enc : TypeId × Value → H) (w : World) (fuel : Nat) (cs : List Value) (x : DataW H × List MemPlace), DataW.trod enc P w 0 (fun _ => true) true fuel t cs = some x → ∃ y, d.K w y cs ∧ ok y

theorem Opens.int {P : Program} {t : TypeId} {k : IntKind} (ht : P.underlying t = some (.int k)) (hc : P.cellsOf t = 1) : Opens P t (Kd.int k) (fun n => (Lit.int k n).wf = true) :=
  ⟨hc, fun _ _ _ _ _ _ h => by obtain ⟨n, rfl, _, hw⟩ := DataW.trod_int ht h; exact ⟨n, rfl, hw⟩⟩
theorem Opens.bool {P : Program} {t : TypeId} (ht : P.underlying t = some .bool) (hc : P.cellsOf t = 1) : Opens P t Kd.bool (fun _ => True) :=
  ⟨hc, fun _ _ _ _ _ _ h => by obtain ⟨n, rfl, _⟩ := DataW.trod_bool ht h; exact ⟨n, rfl, trivial⟩⟩
theorem Opens.string {P : Program} {t : TypeId} (ht : P.underlying t = some .string) (hc : P.cellsOf t = 1) : Opens P t Kd.string (fun s => s.size ≤ maxLen) :=
  ⟨hc, fun _ _ _ _ _ _ h => by obtain ⟨n, rfl, _, hs⟩ := DataW.trod_string ht h; exact ⟨n, rfl, hs⟩⟩

theorem Opens.slice {α : Type} {P : Program} {t e : TypeId} {d : Kd α} {ok : α → Prop} (ht : P.underlying t = some (.slice e)) (hc : P.cellsOf t = 1) (he : Opens P e d ok) :
    Opens P t (Kd.slice e d) (fun xs => xs.length ≤ maxLen ∧ ∀ x ∈ xs, ok x) := by
  obtain ⟨hsz, hop⟩ := he
  refine ⟨hc, fun H enc w fuel cs x h => ?_⟩
  rcases DataW.trod_slice ht h with ⟨rfl, _⟩ | ⟨a, len, cap, elems, rest, n, _, rfl, _, _, hl, hm, hlen, hel, _, _⟩
  · exact ⟨[], ⟨none, 0, rfl, by simp, rfl, by simp, by simp⟩, by simp, by simp⟩
  · have each : ∀ i, i < len → ∃ y c, c.length = d.sz ∧ d.K w y c ∧ ok y ∧ ∀ j u, c[j]? = some u → w.cell? (a.add (i * d.sz + j)) = some u := by
      intro i hi
      have h1 := hel i hi
      rw [List.getElem?_eq_getElem (by omega)] at h1
      obtain ⟨c, hcs, hy⟩ := Option.bind_eq_some_iff.1 h1
      obtain ⟨_, hcl, hcell⟩ := World.cells?_some hcs
      obtain ⟨y, hK, hok⟩ := hop H enc w n c _ hy
      refine ⟨y, c, by rw [hcl, hsz], hK, hok, fun j u hu => ?_⟩
      have hj : j < c.length := (List.getElem?_eq_some_iff.1 hu).1
      have := hcell j (by omega)
      rw [hu, hsz, add_add] at this
      exact this
    have build : ∀ m, m ≤ len → ∃ xs : List α, xs.length = m ∧ (∀ x ∈ xs, ok x) ∧ ∀ j p, xs[j]? = some p → ∃ c, c.length = d.sz ∧ d.K w p c ∧ ∀ i u, c[i]? = some u → w.cell? (a.add (j * d.sz + i)) = some u := by
      intro m
      induction m with
      | zero => intro _; exact ⟨[], rfl, by simp, fun j p h => by simp at h⟩
      | succ m ih =>
        intro hm'
        obtain ⟨xs, hx, hok, hall⟩ := ih (by omega)
        obtain ⟨y, c, hcl, hK, hoky, hcell⟩ := each m (by omega)
        refine ⟨xs ++ [y], by simp [hx], ?_, ?_⟩
        · intro z hz
          rcases List.mem_append.1 hz with h' | h'
          · exact hok z h'
          · rw [List.mem_singleton.1 h']; exact hoky
        · intro j p hj
          rcases Nat.lt_or_ge j xs.length with h' | h'
          · rw [List.getElem?_append_left h'] at hj; exact hall j p hj
          · have hj' := (List.getElem?_eq_some_iff.1 hj).1
            obtain rfl : j = xs.length := by simp at hj'; omega
            have : y = p := by simpa using hj
            subst this
            rw [hx]
            exact ⟨c, hcl, hK, hcell⟩
    obtain ⟨xs, hx, hok, hall⟩ := build len (Nat.le_refl _)
    subst hx
    simp only [maxLen] at hm
    exact ⟨xs, ⟨some a, cap, rfl, hl, rfl, by omega, fun _ => ⟨a, rfl, hall⟩⟩, by simp only [maxLen]; omega, hok⟩

/-- Fields in line: from offset n on. -/
def OpensF {α : Type} (P : Program) (fs : List Field) (n : Nat) (d : Kd α) (ok : α → Prop) : Prop :=
  ∀ (H : Type) (enc : TypeId × Value → H) (w : World) (fuel : Nat) (cs : List Value), cs.length = n + d.sz → (∀ f ∈ fs, ∃ x, DataW.trod enc P w 0 (fun _ => true) true fuel f.type ((cs.drop f.offset).take (P.cellsOf f.type)) = some x) → ∃ y, d.K w y (cs.drop n) ∧ ok y
theorem OpensF.one {α : Type} {P : Program} {f : Field} {d : Kd α} {ok : α → Prop} (h : Opens P f.type d ok) : OpensF P [f] f.offset d ok := by
  intro H enc w fuel cs hl hall
  obtain ⟨x, hx⟩ := hall f (by simp)
  have := h.2 H enc w fuel _ _ hx
  rw [h.1, List.take_of_length_le (by simp; omega)] at this
  exact this
theorem OpensF.cons {α β : Type} {P : Program} {f : Field} {fs : List Field} {d : Kd α} {d' : Kd β} {ok : α → Prop} {ok' : β → Prop} {n : Nat} (h : Opens P f.type d ok) (hs : OpensF P fs n d' ok') (hn : n = f.offset + d.sz) : OpensF P (f :: fs) f.offset (Kd.pair d d') (fun y => ok y.1 ∧ ok' y.2) := by
  intro H enc w fuel cs hl hall
  obtain ⟨x, hx⟩ := hall f (by simp)
  obtain ⟨y, hK, hok⟩ := h.2 H enc w fuel _ _ hx
  have hl' : cs.length = n + d'.sz := by rw [hl, hn]; show f.offset + (d.sz + d'.sz) = _; omega
  obtain ⟨y', hK', hok'⟩ := hs H enc w fuel cs hl' (fun g hg => hall g (by simp [hg]))
  rw [h.1] at hK
  refine ⟨(y, y'), ⟨_, _, ?_, hK, hK'⟩, hok, hok'⟩
  rw [hn, ← List.drop_drop, List.take_append_drop]
theorem Opens.struct {α : Type} {P : Program} {t : TypeId} {fs : Array Field} {d : Kd α} {ok : α → Prop} (ht : P.underlying t = some (.struct fs)) (hc : P.cellsOf t = d.sz) (h : OpensF P fs.toList 0 d ok) : Opens P t d ok := by
  refine ⟨hc, fun H enc w fuel cs x hx => ?_⟩
  obtain ⟨xs, n, rfl, _, hl, hlen, hf⟩ := DataW.trod_struct ht hx
  have := h H enc w n cs (by rw [hl, hc]; omega) (fun f hf' => by
    obtain ⟨i, hi⟩ := List.getElem?_of_mem hf'
    have hi' : fs[i]? = some f := by simpa using hi
    have h2 := hf i f hi'
    have h3 : i < xs.length := by rw [hlen]; exact (Array.getElem?_eq_some_iff.1 hi').1
    rw [List.getElem?_eq_getElem h3] at h2
    exact ⟨_, h2⟩)
  simpa using this
theorem Opens.iso {α β : Type} {P : Program} {t : TypeId} {d : Kd α} {ok : α → Prop} (f : β → α) (g : α → β) (hfg : ∀ x, f (g x) = x) (h : Opens P t d ok) : Opens P t (Kd.iso d f) (fun y => ok (f y)) :=
  ⟨h.1, fun H enc w fuel cs x hx => by obtain ⟨y, hK, hok⟩ := h.2 H enc w fuel cs x hx; exact ⟨g y, by show d.K w (f (g y)) cs; rw [hfg]; exact hK, by show ok (f (g y)); rw [hfg]; exact hok⟩⟩

/-- An argument is opened: its value by its cells, and what these say. -/
theorem Opens.arg {α : Type} {H : Type} {enc : TypeId × Value → H} {P : Program} {w : World} {t : TypeId} {v : Value} {x : DataW H} {p : List MemPlace} {d : Kd α} {ok : α → Prop} (h : Opens P t d ok) (ht : DataW.Trod enc P w 0 (fun _ => true) true t v x p) : ∃ y, d.K w y v.cells.toList ∧ ok y := by
  obtain ⟨fuel, hf⟩ := ht
  exact h.2 H enc w fuel _ _ hf
end Go.Proofs.YtfnoegijkdhckaaDoorW.Open
/- A small operation as an argument. -/
namespace Go.Proofs.YtfnoegijkdhckaaDoor
open Go.RowKit Go.Proofs.YtfnoegijkdhckaaDoorW.Open Go.Proofs.YtfnoegijkdhckaaDoorW.PrintWords

abbrev TinyT := Int × (Int × (Int × (Int × Int)))
def tinyCs (x : TinyT) : Array Value := #[.int .u8 x.1, .int .u8 x.2.1, .int .u8 x.2.2.1, .int .u8 x.2.2.2.1, .int .u8 x.2.2.2.2]
abbrev tinyKd : Kd TinyT := Kd.pair (Kd.int .u8) (Kd.pair (Kd.int .u8) (Kd.pair (Kd.int .u8) (Kd.pair (Kd.int .u8) (Kd.int .u8))))
abbrev tinyOk (x : TinyT) : Prop := (Lit.int .u8 x.1).wf = true ∧ (Lit.int .u8 x.2.1).wf = true ∧ (Lit.int .u8 x.2.2.1).wf = true ∧ (Lit.int .u8 x.2.2.2.1).wf = true ∧ (Lit.int .u8 x.2.2.2.2).wf = true
def TinyIn (x : TinyT) : Prop := (0 ≤ x.1 ∧ x.1 < 256) ∧ (0 ≤ x.2.1 ∧ x.2.1 < 256) ∧ (0 ≤ x.2.2.1 ∧ x.2.2.1 < 256) ∧ (0 ≤ x.2.2.2.1 ∧ x.2.2.2.1 < 256) ∧ (0 ≤ x.2.2.2.2 ∧ x.2.2.2.2 < 256)
theorem tinyOpens : Opens Tryd.prog 71 tinyKd tinyOk :=
  Opens.struct Tryd.underlying71 (by kernel_rfl)
    (OpensF.cons (Opens.int Tryd.underlying5 (by kernel_rfl)) (OpensF.cons (Opens.int Tryd.underlying5 (by kernel_rfl)) (OpensF.cons (Opens.int Tryd.underlying5 (by kernel_rfl)) (OpensF.cons (Opens.int Tryd.underlying5 (by kernel_rfl)) (OpensF.one (Opens.int Tryd.underlying5 (by kernel_rfl))) rfl) rfl) rfl) rfl)
theorem tinyCs_of {W : World} {x : TinyT} {cs : Array Value} (h : tinyKd.K W x (Value.cells (.agg cs)).toList) : cs = tinyCs x := by
  obtain ⟨c1, _, e, h1, ⟨c2, _, rfl, h2, ⟨c3, _, rfl, h3, ⟨c4, c5, rfl, h4, h5⟩⟩⟩⟩ := h
  have e1 : c1 = [.int .u8 x.1] := h1
  have e2 : c2 = [.int .u8 x.2.1] := h2
  have e3 : c3 = [.int .u8 x.2.2.1] := h3
  have e4 : c4 = [.int .u8 x.2.2.2.1] := h4
  have e5 : c5 = [.int .u8 x.2.2.2.2] := h5
  subst e1 e2 e3 e4 e5
  have : cs.toList = (tinyCs x).toList := e
  exact Array.toList_inj.1 this
theorem tinyIn {x : TinyT} (h : tinyOk x) : TinyIn x := ⟨byte_wf h.1, byte_wf h.2.1, byte_wf h.2.2.1, byte_wf h.2.2.2.1, byte_wf h.2.2.2.2⟩
theorem tinySelf (x : TinyT) : x = x := rfl
end Go.Proofs.YtfnoegijkdhckaaDoor
/- Lists of small operations: holtref05.Of, holtref05.All. -/
namespace Go.Proofs.YtfnoegijkdhckaaDoor
open Go.RowKit Go.Proofs.YtfnoegijkdhckaaDoorW.Open Go.Proofs.YtfnoegijkdhckaaDoorW.PrintWords

def shortN (n : Int) : ByteArray := (⟨#[97, 98, 99, 100, 101, 102, 103, 104]⟩ : ByteArray).extract (n % 8).toNat (n % 8 + 1).toNat
def ofOp (n r node to' name : Int) : OpR := ⟨1 + n % 40, r % 4, 256 + node % 8, if 2 ≤ to' % 10 then 254 + to' % 10 else to' % 10, shortN name⟩
theorem of_f (n r node to' name : Int) (h0 : 0 ≤ n ∧ n < 256) (h1 : 0 ≤ r ∧ r < 256) (h2 : 0 ≤ node ∧ node < 256) (h3 : 0 ≤ to' ∧ to' < 256) (h4 : 0 ≤ name ∧ name < 256) :
    PWireUnlike.holtref05_Of.f n r node to' name = some ((ofOp n r node to' name).n, (ofOp n r node to' name).r, (ofOp n r node to' name).node, (ofOp n r node to' name).par, (ofOp n r node to' name).name) := by
  have e0 : wrap64 (Int.tmod n 40) = n % 40 := by rw [Int.tmod_eq_emod_of_nonneg h0.1]; unfold wrap64; omega
  have e1 : wrap64 (Int.tmod r 4) = r % 4 := by rw [Int.tmod_eq_emod_of_nonneg h1.1]; unfold wrap64; omega
  have e2 : wrap64 (Int.tmod node 8) = node % 8 := by rw [Int.tmod_eq_emod_of_nonneg h2.1]; unfold wrap64; omega
  have e3 : wrap64 (Int.tmod to' 10) = to' % 10 := by rw [Int.tmod_eq_emod_of_nonneg h3.1]; unfold wrap64; omega
  have e4 : wrap64 (Int.tmod name 8) = name % 8 := by rw [Int.tmod_eq_emod_of_nonneg h4.1]; unfold wrap64; omega
  have w0 : wrap64 (1 + n % 40) = 1 + n % 40 := by unfold wrap64; omega
  have w2 : wrap64 (256 + node % 8) = 256 + node % 8 := by unfold wrap64; omega
  have w3 : wrap64 (254 + to' % 10) = 254 + to' % 10 := by unfold wrap64; omega
  have w4 : wrap64 (name % 8 + 1) = name % 8 + 1 := by unfold wrap64; omega
  have hs : PWireUnlike.holtref03_Short.f name = some (shortN name) := by
    unfold PWireUnlike.holtref03_Short.f shortN
    rw [e4, w4, if_pos (by omega), if_pos (by omega), if_pos (by omega)]
  unfold PWireUnlike.holtref05_Of.f PWireUnlike.holtref04_Small.f
  rw [hs, e0, e1, e2, e3, w0, w2, w3]
  unfold ofOp
  by_cases h : 2 ≤ to' % 10
  · rw [if_pos h]; simp [h]
  · rw [if_neg (show ¬ to' % 10 ≥ 2 from h)]; simp [h]
theorem nameB_short (n : Int) : nameB (shortN n).data.toList = true := by
  have h : n % 8 = 0 ∨ n % 8 = 1 ∨ n % 8 = 2 ∨ n % 8 = 3 ∨ n % 8 = 4 ∨ n % 8 = 5 ∨ n % 8 = 6 ∨ n % 8 = 7 := by omega
  unfold shortN
  rcases h with h | h | h | h | h | h | h | h <;> rw [h] <;> decide +kernel
theorem of_right (n r node to' name : Int) : opRight (ofOp n r node to' name) = true := by
  unfold opRight ofOp
  simp only [nameB_short, Bool.and_true, Bool.and_eq_true]
  refine ⟨?_, ?_, ?_⟩
  · unfold stampR; simp only [Bool.and_eq_true, decide_eq_true_eq]; omega
  · unfold nodeR; simp only [Bool.and_eq_true, decide_eq_true_eq]; omega
  · unfold toR nodeR
    simp only [Bool.or_eq_true, Bool.and_eq_true, decide_eq_true_eq, beq_iff_eq]
    split <;> omega
theorem refof_calls (n r node to' name : Int) (w : World) (h0 : 0 ≤ n ∧ n < 256) (h1 : 0 ≤ r ∧ r < 256) (h2 : 0 ≤ node ∧ node < 256) (h3 : 0 ≤ to' ∧ to' < 256) (h4 : 0 ≤ name ∧ name < 256) :
    Calls Tryd.prog 43 #[.agg #[.int .u8 n, .int .u8 r, .int .u8 node, .int .u8 to', .int .u8 name]] w fun e w' => e = .returned (opV (ofOp n r node to' name)) ∧ Below w.heap.size w w' :=
  PWireUnlike.holtref05_Of.calls n r node to' name _ _ _ _ _ w (of_f n r node to' name h0 h1 h2 h3 h4)

def ofT (x : TinyT) : OpR := ofOp x.1 x.2.1 x.2.2.1 x.2.2.2.1 x.2.2.2.2
def TinyAt (b o : Nat) (x : TinyT) (w : World) : Prop :=
  w.cell? ⟨b, o, none⟩ = some (.int .u8 x.1) ∧ w.cell? ⟨b, o + 1, none⟩ = some (.int .u8 x.2.1) ∧ w.cell? ⟨b, o + 2, none⟩ = some (.int .u8 x.2.2.1) ∧ w.cell? ⟨b, o + 3, none⟩ = some (.int .u8 x.2.2.2.1) ∧ w.cell? ⟨b, o + 4, none⟩ = some (.int .u8 x.2.2.2.2)
theorem TinyAt.below {b o : Nat} {p : TinyT} {w w1 : World} (k : TinyAt b o p w) (hb : Below w.heap.size w w1) : TinyAt b o p w1 :=
  ⟨pw_cell_below hb k.1, pw_cell_below hb k.2.1, pw_cell_below hb k.2.2.1, pw_cell_below hb k.2.2.2.1, pw_cell_below hb k.2.2.2.2⟩
/-- A list of small operations lies behind A. -/
def TinysAt (w : World) (A : Option Addr) (n : Nat) (ts : List TinyT) : Prop :=
  ts.length = n ∧ n ≤ 9223372036854775807 ∧ (0 < n → ∃ b o, A = some ⟨b, o, none⟩ ∧ ∀ (i : Nat) (hi : i < ts.length), TinyAt b (o + i * 5) ts[i] w)
theorem TinysAt.below {w w1 : World} {A : Option Addr} {n : Nat} {os : List TinyT} (h : TinysAt w A n os) (hb : Below w.heap.size w w1) : TinysAt w1 A n os :=
  ⟨h.1, h.2.1, fun hn => by
    obtain ⟨b, o, e, hc⟩ := h.2.2 hn
    exact ⟨b, o, e, fun i hi => (hc i hi).below hb⟩⟩
theorem tinys_of_row {w : World} {A : Option Addr} {n : Nat} {ts : List TinyT} (h : ReadsRow (tinyKd.K w) 5 w A n ts) : TinysAt w A n ts := by
  refine ⟨h.1, h.2.1, fun hn => ?_⟩
  obtain ⟨ad, rfl, hc⟩ := h.2.2 hn
  have hl : 0 < ts.length := by rw [h.1]; exact hn
  obtain ⟨c0, l0, k0, h0⟩ := hc 0 ts[0] (List.getElem?_eq_getElem hl)
  have e0 : c0 = (tinyCs ts[0]).toList := congrArg Array.toList (tinyCs_of (cs := c0.toArray) k0)
  have hz := h0 0 (.int .u8 ts[0].1) (by rw [e0]; rfl)
  have hs := spotO (show w.cell? ad = _ from hz)
  refine ⟨ad.block, ad.off, by rw [← hs], fun i hi => ?_⟩
  obtain ⟨c, _, k, hcell⟩ := hc i ts[i] (List.getElem?_eq_getElem hi)
  have e : c = (tinyCs ts[i]).toList := congrArg Array.toList (tinyCs_of (cs := c.toArray) k)
  have key : ∀ j u, (tinyCs ts[i]).toList[j]? = some u → w.cell? ⟨ad.block, ad.off + i * 5 + j, none⟩ = some u := by
    intro j u hu
    have := hcell j u (by rw [e]; exact hu)
    rw [hs, addO] at this
    rw [Nat.add_assoc]
    exact this
  exact ⟨key 0 _ rfl, key 1 _ rfl, key 2 _ rfl, key 3 _ rfl, key 4 _ rfl⟩

set_option maxHeartbeats 2000000 in
theorem all_calls (A : Option Addr) (n c : Nat) (ts : List TinyT) (w : World) (hr : TinysAt w A n ts) (hi : ∀ x ∈ ts, TinyIn x) (hn : n ≤ 1000) :
    Calls Tryd.prog 19 #[.slice A n c] w fun e w' => ∃ v, e = .returned v ∧ OwnO w' w.heap.size v (ts.map ofT) ∧ Below w.heap.size w w' := by
  have HR := Lib.hid hr
  have HI := Lib.hid hi
  have HL := Lib.hid hr.1
  have HB := Lib.hid (Below.refl w.heap.size w)
  clear hr hi
  go_enter Tryd.func19, Tryd.ntmps19
  go_wp2
  go_loopw [3, 4] (fun vo vi W => ∃ i : Nat, vi = .int .i64 i ∧ i ≤ n ∧ Hid (OwnO W w.heap.size vo ((ts.take i).map ofT)) ∧ Hid (Below w.heap.size w W)) (fun _ vi _ => (n - (RowKit.intOf vi).toNat))
  case atStart => exact ⟨0, rfl, by omega, Lib.hid (OwnRow.none_ _ _ _ _ _), HB⟩
  case round =>
    clear HB
    obtain ⟨i, rfl, hi, HO, HB⟩ := hrel
    by_cases hlt : i < n
    · have hlt2 : i < ts.length := by rw [HL.out]; exact hlt
      obtain ⟨b, o, rfl, hcell⟩ := HR.out.2.2 (show 0 < n by omega)
      obtain ⟨c0, c1, c2, c3, c4⟩ := (hcell i hlt2).below HB.out
      have hin := HI.out ts[i] (List.getElem_mem hlt2)
      have hof := fun W => refof_calls ts[i].1 ts[i].2.1 ts[i].2.2.1 ts[i].2.2.2.1 ts[i].2.2.2.2 W hin.1 hin.2.1 hin.2.2.1 hin.2.2.2.1 hin.2.2.2.2
      have hsn : (ts.take (i + 1)).map ofT = (ts.take i).map ofT ++ [ofT ts[i]] := by rw [List.take_succ_eq_append_getElem hlt2, List.map_append]; rfl
      have hql : ((ts.take i).map ofT).length ≤ 1000 := by rw [List.length_map, List.length_take]; omega
      rw [show ofOp ts[i].1 ts[i].2.1 ts[i].2.2.1 ts[i].2.2.2.1 ts[i].2.2.2.2 = ofT ts[i] from rfl] at hof
      generalize ofT ts[i] = q at *
      generalize ts[i] = p at *
      generalize (ts.take i).map ofT = Q at *
      simp only [opV] at hof
      have HOF := Lib.hid hof
      have HSN := Lib.hid hsn
      have hi1 : (0 : Int) ≤ (i : Int) := by omega
      have hi2 : (i : Int) < (n : Int) := by omega
      clear hof hsn hin hcell
      go_wp2_with (first
        | (go_at_call 43; go_loud ((refine (HOF.out _).mono ?_); rintro e w2 ⟨rfl, hb⟩; have HO2 := Lib.hid (show OwnO w2 w.heap.size _ Q from OwnRow.below HO.out hb); clear c0 c1 c2 c3 c4; have HBn := Lib.hid (below_step (by repeat (first | (with_reducible exact HB.out) | apply below_alloc | apply pw_below_drewN | apply below_drew1 | exact HB.out)) hb); clear hb HB; have HB := HBn; clear HBn))
        | (at_builtin; go_loud ((refine OwnRow.append (R := fun p cs => cs = opCells p) (w0 := w) (W := w2) w.heap.size rfl (.tmp 11) (.tmp 17) 22 48 _ 5 48 rfl Tryd.underlying22 opInfo rfl (by decide) (by decide) _ Q q [.int .i64 q.n, .int .i64 q.r, .int .i64 q.node, .int .i64 q.par, .string q.name] (by rfl) (by simp [Act.eval, World.size_alloc]) rfl rfl (by simp [Value.oneCell']) HO2.out HB.out HB.out.size ?hl ?_; (case hl => omega); intro v3 w3 ho hb hg hat; have HO3 := Lib.hid ho; have HBn := Lib.hid hb; clear HB ho hb hg hat; have HB := HBn; clear HBn)))
        | (fail "no arm"))
      go_roundw
      case rel => exact ⟨i + 1, by go_num, by omega, Lib.hid (by rw [HSN.out]; exact HO3.out), HB⟩
      case measure => simp [RowKit.intOf] <;> omega
    · obtain rfl : i = n := by omega
      have hO := HO.out
      rw [List.take_of_length_le (by rw [HL.out]; exact Nat.le_refl _)] at hO
      have HO2 := Lib.hid hO
      clear hO HO
      go_wp2
      go_ret
      exact ⟨_, rfl, HO2.out, HB.out⟩
theorem ofs_right (ts : List TinyT) : (ts.map ofT).all opRight = true := by
  rw [List.all_eq_true]
  intro o ho
  obtain ⟨x, _, rfl⟩ := List.mem_map.1 ho
  exact of_right _ _ _ _ _
theorem ofs_ok (ts : List TinyT) (h : ts.length ≤ 64) : encOk (ts.map ofT) = true := by
  unfold encOk
  rw [ofs_right, List.length_map, decide_eq_true h]; rfl
theorem ofs_small {ts : List TinyT} : ∀ o ∈ ts.map ofT, o.name.size ≤ 9223372036854775807 := by
  intro o ho
  have := (right_bounds (List.all_eq_true.1 (ofs_right ts) o ho)).2.2.2.2
  omega
end Go.Proofs.YtfnoegijkdhckaaDoor
/- The walk of the law WireUnlike. -/
namespace Go.Proofs.YtfnoegijkdhckaaDoor
open Go.RowKit Go.Proofs.YtfnoegijkdhckaaDoorW.PrintWords

theorem encB_inj {us vs : List OpR} (hu : encOk us = true) (hv : encOk vs = true) (h : encB us = encB vs) : us = vs := by
  have h1 := decR_encB hu
  rw [h, decR_encB hv] at h1
  exact (Option.some.inj h1).symm
theorem encB_same {us vs : List OpR} (hu : encOk us = true) (hv : encOk vs = true) : ((strOfNums (encB us)).toList == (strOfNums (encB vs)).toList) = sameO us vs := by
  by_cases h : us = vs
  · subst h
    rw [beq_self_eq_true]
    simp [sameO]
  · rw [str_ne (encB_range us) (encB_range vs) (fun k => h (encB_inj hu hv k))]
    simp [sameO, h]
set_option maxHeartbeats 2000000 in
theorem wireUnlike_walk0 (A : Option Addr) (n c : Nat) (ts : List TinyT) (B : Option Addr) (m d : Nat) (us : List TinyT) (w : World) (ha : TinysAt w A n ts) (hb : TinysAt w B m us) (hia : ∀ x ∈ ts, TinyIn x) (hib : ∀ x ∈ us, TinyIn x) (hT : Tabs w) :
    Calls Tryd.prog 8 #[.slice A n c, .slice B m d] w fun e w' => e = .returned (.bool true) ∧ Below w.heap.size w w' := by
  have hm := ha.2.1
  have hm2 := hb.2.1
  have HT := Lib.hid hT
  have HB := Lib.hid (Below.refl w.heap.size w)
  by_cases h20 : n ≤ 20
  · by_cases h21 : m ≤ 20
    · have h1 := fun (W : World) (h : Below w.heap.size w W) => all_calls A n c ts W (ha.below h) hia (by omega)
      have h2 := fun (W : World) (h : Below w.heap.size w W) => all_calls B m d us W (hb.below h) hib (by omega)
      have k1 := ofs_ok ts (by rw [ha.1]; omega)
      have k2 := ofs_ok us (by rw [hb.1]; omega)
      have e1 := fun (A : Option Addr) (c : Nat) (W : World) (h : OpsAt W A (ts.map ofT).length (ts.map ofT)) (hT : Tabs W) => encode_calls A _ c (ts.map ofT) W h ofs_small hT k1
      have e2 := fun (A : Option Addr) (c : Nat) (W : World) (h : OpsAt W A (us.map ofT).length (us.map ofT)) (hT : Tabs W) => encode_calls A _ c (us.map ofT) W h ofs_small hT k2
      have hq := encB_same k1 k2
      have hs := fun (A : Option Addr) (c : Nat) (B : Option Addr) (d : Nat) (W : World) (h : OpsAt W A (ts.map ofT).length (ts.map ofT)) (k : OpsAt W B (us.map ofT).length (us.map ofT)) => sameO_calls A _ c (ts.map ofT) B _ d (us.map ofT) W h k
      have hsb := fun (A : Option Addr) (c : Nat) (B : Option Addr) (d : Nat) (W : World) (h : ReadsInt W .u8 A (encB (ts.map ofT)).length (encB (ts.map ofT))) (hc : (encB (ts.map ofT)).length ≤ c) (k : ReadsInt W .u8 B (encB (us.map ofT)).length (encB (us.map ofT))) (hd : (encB (us.map ofT)).length ≤ d) => same_calls2 W h hc k hd
      rw [hq] at hsb
      clear k1 k2 hq
      generalize encB (ts.map ofT) = E1 at *
      generalize encB (us.map ofT) = E2 at *
      generalize sameO (ts.map ofT) (us.map ofT) = R at *
      generalize ts.map ofT = X at *
      generalize us.map ofT = Y at *
      have H1 := Lib.hid h1
      have H2 := Lib.hid h2
      have HE1 := Lib.hid e1
      have HE2 := Lib.hid e2
      have HS := Lib.hid hs
      have HSB := Lib.hid hsb
      clear ha hb hia hib hT h1 h2 e1 e2 hs hsb
      go_enter Tryd.func8, Tryd.ntmps8
      go_wp2_with (first
        | (go_at_call 9; (with_reducible refine Calls.mono (awake_calls _ HT.out) ?_); rintro e w1 ⟨rfl, hb⟩; have HBn := Lib.hid (below_step (by repeat (first | (with_reducible exact HB.out) | apply below_alloc | apply pw_below_drewN | apply below_drew1 | exact HB.out)) hb); clear hb HB; have HB := HBn; clear HBn)
        | (go_at_call 19; (with_reducible refine Calls.mono (H1.out _ HB.out) ?_); rintro e w2 ⟨v2, rfl, ho, hb⟩; obtain ⟨A2, c2, rfl, _, hr2⟩ := OwnO.ops ho; have HR2 := Lib.hid hr2; clear ho hr2; have HBn := Lib.hid (below_step (by repeat (first | (with_reducible exact HB.out) | apply below_alloc | apply pw_below_drewN | apply below_drew1 | exact HB.out)) hb); clear hb HB; have HB := HBn; clear HBn)
        | (go_at_call 19; (with_reducible refine Calls.mono (H2.out _ HB.out) ?_); rintro e w3 ⟨v3, rfl, ho, hb⟩; obtain ⟨A3, c3, rfl, _, hr3⟩ := OwnO.ops ho; have HR3 := Lib.hid hr3; have HR23 := Lib.hid (HR2.out.below hb); clear ho hr3; have HBn := Lib.hid (below_step (by repeat (first | (with_reducible exact HB.out) | apply below_alloc | apply pw_below_drewN | apply below_drew1 | exact HB.out)) hb); clear hb HB; have HB := HBn; clear HBn)
        | (go_at_call 11; ((with_reducible refine Calls.mono (HE1.out _ _ _ HR23.out (HT.out.below (by repeat (first | (with_reducible exact HB.out) | apply below_alloc | apply pw_below_drewN | apply below_drew1 | exact HB.out)))) ?_); rintro e w4 ⟨v4, rfl, ho, hb⟩; obtain ⟨A4, c4, rfl, hr4⟩ := own_reads ho; have HC4 := Lib.hid (own_cap ho); have HR4 := Lib.hid hr4; have HR24 := Lib.hid (HR23.out.below hb); have HR34 := Lib.hid (HR3.out.below hb); clear ho hr4; have HBn := Lib.hid (below_step (by repeat (first | (with_reducible exact HB.out) | apply below_alloc | apply pw_below_drewN | apply below_drew1 | exact HB.out)) hb); clear hb HB; have HB := HBn; clear HBn))
        | (go_at_call 11; ((with_reducible refine Calls.mono (HE2.out _ _ _ HR34.out (HT.out.below (by repeat (first | (with_reducible exact HB.out) | apply below_alloc | apply pw_below_drewN | apply below_drew1 | exact HB.out)))) ?_); rintro e w5 ⟨v5, rfl, ho, hb⟩; obtain ⟨A5, c5, rfl, hr5⟩ := own_reads ho; have HC5 := Lib.hid (own_cap ho); have HR5 := Lib.hid hr5; have HR25 := Lib.hid (HR24.out.below hb); have HR35 := Lib.hid (HR34.out.below hb); have HR45 := Lib.hid (HR4.out.below hb); clear ho hr5; have HBn := Lib.hid (below_step (by repeat (first | (with_reducible exact HB.out) | apply below_alloc | apply pw_below_drewN | apply below_drew1 | exact HB.out)) hb); clear hb HB; have HB := HBn; clear HBn))
        | (go_at_call 13; go_loud ((with_reducible refine Calls.mono (HSB.out _ _ _ _ _ HR45.out HC4.out HR5.out HC5.out) ?_); rintro e w6 ⟨rfl, m6, rfl⟩; have HR26 := Lib.hid (HR25.out.below (pw_below_drewN (Below.refl _ _) m6)); have HR36 := Lib.hid (HR35.out.below (pw_below_drewN (Below.refl _ _) m6))))
        | (go_at_call 18; go_loud ((with_reducible refine Calls.mono (HS.out _ _ _ _ _ HR26.out HR36.out) ?_); rintro e w7 ⟨rfl, m7, rfl⟩))
        | (fail "no arm"))
      all_goals (go_ret; exact ⟨by simp, (by repeat (first | (with_reducible exact HB.out) | apply below_alloc | apply pw_below_drewN | apply below_drew1 | exact HB.out))⟩)
    · clear ha hb hia hib hT
      go_enter Tryd.func8, Tryd.ntmps8
      go_wp2_with (first
        | (go_at_call 9; (with_reducible refine Calls.mono (awake_calls _ HT.out) ?_); rintro e w1 ⟨rfl, hb⟩; have HBn := Lib.hid (below_step (by repeat (first | (with_reducible exact HB.out) | apply below_alloc | apply pw_below_drewN | apply below_drew1 | exact HB.out)) hb); clear hb HB; have HB := HBn; clear HBn)
        | (fail "no arm"))
      all_goals (go_ret; exact ⟨rfl, HB.out⟩)
  · clear ha hb hia hib hT
    go_enter Tryd.func8, Tryd.ntmps8
    go_wp2_with (first
      | (go_at_call 9; (with_reducible refine Calls.mono (awake_calls _ HT.out) ?_); rintro e w1 ⟨rfl, hb⟩; have HBn := Lib.hid (below_step (by repeat (first | (with_reducible exact HB.out) | apply below_alloc | apply pw_below_drewN | apply below_drew1 | exact HB.out)) hb); clear hb HB; have HB := HBn; clear HBn)
      | (fail "no arm"))
    all_goals (go_ret; exact ⟨rfl, HB.out⟩)
theorem wireUnlike_walk (A : Option Addr) (c : Nat) (ts : List TinyT) (B : Option Addr) (d : Nat) (us : List TinyT) (W : World) (h0 : ReadsRow (tinyKd.K W) 5 W A ts.length ts) (_ : ts.length ≤ c) (k0 : ts.length ≤ maxLen ∧ ∀ x ∈ ts, tinyOk x) (h1 : ReadsRow (tinyKd.K W) 5 W B us.length us) (_ : us.length ≤ d) (k1 : us.length ≤ maxLen ∧ ∀ x ∈ us, tinyOk x) (hT : Tabs W) :
    Calls Tryd.prog 8 #[.slice A ts.length c, .slice B us.length d] W fun e w' => e = .returned (.bool true) ∧ Below W.heap.size W w' :=
  wireUnlike_walk0 A _ c ts B _ d us W (tinys_of_row h0) (tinys_of_row h1) (fun x h => tinyIn (k0.2 x h)) (fun x h => tinyIn (k1.2 x h)) hT
end Go.Proofs.YtfnoegijkdhckaaDoor
/- Sums see a burst: bytes in which digits are turned within 32 side by side have another sum. Plain lemmas on numbers. -/
namespace Go.Proofs.YtfnoegijkdhckaaDoor
open Go.RowKit Go.Proofs.YtfnoegijkdhckaaDoorW.PrintWords

theorem add_xor (k a b : Nat) (h : b < 2 ^ k) : 2 ^ k * a + b = 2 ^ k * a ^^^ b := by
  apply Nat.eq_of_testBit_eq
  intro i
  rw [Nat.testBit_xor, Nat.testBit_two_pow_mul_add _ h, Nat.testBit_two_pow_mul]
  by_cases hi : i < k
  · rw [if_pos hi]
    have : decide (i ≥ k) = false := decide_eq_false (by omega)
    simp [this]
  · rw [if_neg hi]
    have h1 : decide (i ≥ k) = true := decide_eq_true (by omega)
    have h0 : b.testBit i = false := Nat.testBit_lt_two_pow (Nat.lt_of_lt_of_le h (Nat.pow_le_pow_right (by decide) (by omega)))
    simp [h1, h0]
theorem stN_pow (k : Nat) : ∀ x, stN k (2 ^ k * x) = x := by
  induction k with
  | zero => intro x; rw [stN]; simp
  | succ k ih =>
    intro x
    rw [stN, st_even _ (by rw [Nat.pow_succ, Nat.mul_right_comm]; omega)]
    rw [show 2 ^ (k + 1) * x / 2 = 2 ^ k * x by rw [Nat.pow_succ, Nat.mul_right_comm]; omega]
    exact ih x
theorem st_pos {x : Nat} (h0 : x ≠ 0) (h : x < 4294967296) : st x ≠ 0 := by
  unfold st
  rcases Nat.mod_two_eq_zero_or_one x with h1 | h1
  · rw [if_neg (by omega), Nat.xor_zero]; omega
  · rw [if_pos h1]
    intro hz
    have hb := congrArg (fun z => Nat.testBit z 31) hz
    simp only [Nat.testBit_xor, Nat.zero_testBit] at hb
    rw [Nat.testBit_lt_two_pow (show x / 2 < 2 ^ 31 by omega), show Nat.testBit 3988292384 31 = true by decide] at hb
    cases hb
theorem stN_pos (k : Nat) : ∀ {x : Nat}, x ≠ 0 → x < 4294967296 → stN k x ≠ 0 := by
  induction k with
  | zero => intro x h _; exact h
  | succ k ih => intro x h0 h; exact ih (st_pos h0 h) (st_lt h)
/-- Bytes as one number, the first ones lowest. -/
def le : List Int → Nat
  | [] => 0
  | c :: r => c.toNat + 256 * le r
theorem crc_cons (x : Nat) (c : Int) (r : List Int) : crc x (c :: r) = crc (stN 8 (x ^^^ c.toNat)) r := rfl
theorem crc_append (x : Nat) (a b : List Int) : crc x (a ++ b) = crc (crc x a) b := by rw [crc, List.foldl_append]; rfl
theorem crc_le (bs : List Int) : ∀ x, (∀ c ∈ bs, 0 ≤ c ∧ c < 256) → crc x bs = stN (8 * bs.length) (x ^^^ le bs) := by
  induction bs with
  | nil => intro x _; rw [le, Nat.xor_zero]; rfl
  | cons c r ih =>
    intro x h
    have hc := h c (by simp)
    rw [crc_cons, ih _ (fun d hd => h d (by simp [hd])), List.length_cons, show 8 * (r.length + 1) = 8 + 8 * r.length by omega, stN_add, le]
    congr 1
    have e : c.toNat + 256 * le r = 2 ^ 8 * le r ^^^ c.toNat := by rw [← add_xor 8 _ _ (by omega), Nat.add_comm]
    rw [e, Nat.xor_comm (2 ^ 8 * le r), ← Nat.xor_assoc, stN_xor 8 (x ^^^ c.toNat) (2 ^ 8 * le r), stN_pow]
theorem le_append (a b : List Int) : le (a ++ b) = le a + 256 ^ a.length * le b := by
  induction a with
  | nil => simp [le]
  | cons c a ih =>
    rw [List.cons_append, le, ih, le, List.length_cons, Nat.pow_succ, Nat.mul_add]
    rw [show 256 ^ a.length * 256 * le b = 256 * (256 ^ a.length * le b) by rw [Nat.mul_comm (256 ^ a.length), Nat.mul_assoc]]
    omega
theorem le_four (v : Int) (h0 : 0 ≤ v) (h1 : v < 4294967296) : le (fourL v) = v.toNat := by
  simp only [fourL, le]
  omega
theorem crc_sum (bs : List Int) (h : ∀ c ∈ bs, 0 ≤ c ∧ c < 256) : crc topN (bs ++ fourL (sumN bs)) = stN 32 topN := by
  have hr := sumN_range bs h
  have hl := crc_lt top_lt bs h
  rw [crc_append, crc_le _ _ (fourL_range _), le_four _ hr.1 hr.2]
  rw [show 8 * (fourL (sumN bs)).length = 32 from rfl]
  congr 1
  have e : (sumN bs).toNat = topN ^^^ crc topN bs := by
    have hb := bits_not (crc topN bs) hl
    rw [show IntKind.u32.max = ((topN : Nat) : Int) by decide, bits_xor_u32 topN _ top_lt hl] at hb
    rw [sumN, ← hb, Int.toNat_natCast]
  rw [e, Nat.xor_comm topN, ← Nat.xor_assoc, Nat.xor_self, Nat.zero_xor]
/-- A burst is seen. -/
theorem burst {s s' : List Int} (h : ∀ c ∈ s, 0 ≤ c ∧ c < 256) (h' : ∀ c ∈ s', 0 ≤ c ∧ c < 256) (hl : s'.length = s.length) {k m : Nat} (hk : k ≤ 8 * s.length) (hm : m ≠ 0) (hm2 : m < 4294967296) (hx : le s' = le s ^^^ 2 ^ k * m) : crc topN s' ≠ crc topN s := by
  rw [crc_le _ _ h, crc_le _ _ h', hl, hx, ← Nat.xor_assoc, stN_xor (8 * s.length) (topN ^^^ le s)]
  obtain ⟨j, hj⟩ : ∃ j, 8 * s.length = k + j := ⟨8 * s.length - k, by omega⟩
  have hd : stN (8 * s.length) (2 ^ k * m) ≠ 0 := by
    rw [hj, stN_add, stN_pow]
    exact stN_pos j hm hm2
  intro he
  apply hd
  generalize stN (8 * s.length) (2 ^ k * m) = d at *
  generalize stN (8 * s.length) (topN ^^^ le s) = a at *
  have := congrArg (fun z => a ^^^ z) he
  simp only [← Nat.xor_assoc, Nat.xor_self, Nat.zero_xor] at this
  exact this
/-- Where digits are turned within 32 side by side behind the length it is no batch. -/
theorem turned_none {os : List OpR} (hok : encOk os = true) {s' : List Int} (h' : ∀ c ∈ s', 0 ≤ c ∧ c < 256) (hl : s'.length = (encS os).length) {k m : Nat} (hk : k ≤ 8 * (encS os).length) (hm : m ≠ 0) (hm2 : m < 4294967296) (hx : le s' = le (encS os) ^^^ 2 ^ k * m) : decR (form (encS os).length ++ s') = none := by
  have hEr : ∀ c ∈ encS os, 0 ≤ c ∧ c < 256 := fun c hc => encB_range os c (by rw [encB]; exact List.mem_append_right _ hc)
  have hne := burst hEr h' hl hk hm hm2 hx
  have hc0 : crc topN (encS os) = stN 32 topN := crc_sum _ (encA_range os)
  have hs := encS_len os
  have hA := encA_len os
  have hk64 : os.length ≤ 64 := by
    unfold encOk at hok
    simp only [Bool.and_eq_true, decide_eq_true_eq] at hok
    exact hok.1
  have hq := rdNum_form (encS os).length (by omega) (by omega) s' 65535
  rw [if_neg (by omega)] at hq
  unfold decR
  rw [hq]
  simp only
  rw [if_neg]
  rintro ⟨_, _, h4, hsum⟩
  apply hne
  rw [hc0, ← List.take_append_drop (s'.length - 4) s', ← hsum]
  exact crc_sum _ (range_take h' _)
/-- Cut off anywhere it is no batch. -/
theorem cut_none {os : List OpR} (hok : encOk os = true) (k : Nat) (hk : k < (encB os).length) : decR ((encB os).take k) = none := by
  have hl := encB_len os hok
  have hs := encS_len os
  have hA := encA_len os
  have hb : (encB os).length = (form (encS os).length).length + (encS os).length := by rw [encB, List.length_append]
  have hk64 : os.length ≤ 64 := by
    unfold encOk at hok
    simp only [Bool.and_eq_true, decide_eq_true_eq] at hok
    exact hok.1
  have hc : cutE ((encB os).take k) ≠ 0 := by
    rw [encB]
    by_cases h : k < (form (encS os).length).length
    · rw [List.take_append_of_le_length (by omega)]
      have hq := rdNum_cut (encS os).length (by omega) (by omega) k h 65535
      unfold cutE
      rw [hq]
      simp
    · rw [List.take_append, List.take_of_length_le (by omega)]
      have hq := rdNum_form (encS os).length (by omega) (by omega) ((encS os).take (k - (form (encS os).length).length)) 65535
      rw [if_neg (by omega)] at hq
      unfold cutE
      rw [hq]
      simp only [ne_eq, not_true_eq_false, if_false, List.length_take]
      rw [if_pos (by omega)]
      decide
  unfold decR
  rw [if_neg (fun h => hc h.1)]
/-- With bytes behind it, it is no batch. -/
theorem more_none {os : List OpR} (hok : encOk os = true) (zs : List Int) (hz : 0 < zs.length) : decR (encB os ++ zs) = none := by
  have hl := encB_len os hok
  have hb : (encB os).length = (form (encS os).length).length + (encS os).length := by rw [encB, List.length_append]
  have hq := rdNum_form (encS os).length (by omega) (by omega) (encS os ++ zs) 65535
  rw [if_neg (by omega), ← List.append_assoc, show form ((encS os).length : Int) ++ encS os = encB os from rfl] at hq
  unfold decR
  rw [hq]
  simp only
  rw [if_neg]
  rintro ⟨_, h, _⟩
  rw [List.length_append] at h
  omega
end Go.Proofs.YtfnoegijkdhckaaDoor
/- Digits that are turned one by one: plain lemmas on bytes. -/
namespace Go.Proofs.YtfnoegijkdhckaaDoor
open Go.RowKit Go.Proofs.YtfnoegijkdhckaaDoorW.PrintWords

theorem pow_xor (k a b : Nat) : 2 ^ k * (a ^^^ b) = 2 ^ k * a ^^^ 2 ^ k * b := by
  apply Nat.eq_of_testBit_eq
  intro i
  rw [Nat.testBit_xor, Nat.testBit_two_pow_mul, Nat.testBit_two_pow_mul, Nat.testBit_two_pow_mul, Nat.testBit_xor]
  cases decide (i ≥ k) <;> simp
theorem le_cons (c : Int) (r : List Int) (h : 0 ≤ c ∧ c < 256) : le (c :: r) = 2 ^ 8 * le r ^^^ c.toNat := by
  rw [← add_xor 8 _ _ (by omega), le]; omega
theorem le_set (y : Nat) (v : Int) (hv : 0 ≤ v ∧ v < 256) : ∀ (s : List Int) (j : Nat) (hj : j < s.length), (∀ c ∈ s, 0 ≤ c ∧ c < 256) → v.toNat = s[j].toNat ^^^ y → le (s.set j v) = le s ^^^ 2 ^ (8 * j) * y := by
  intro s
  induction s with
  | nil => intro j hj; simp at hj
  | cons c r ih =>
    intro j hj h hvy
    have hc := h c (by simp)
    cases j with
    | zero =>
      simp only [List.getElem_cons_zero] at hvy
      rw [List.set_cons_zero, le_cons _ _ hv, le_cons _ _ hc, hvy, Nat.mul_zero, Nat.pow_zero, Nat.one_mul, Nat.xor_assoc]
    | succ j =>
      simp only [List.getElem_cons_succ] at hvy
      rw [List.set_cons_succ, le_cons _ _ hc, le_cons _ _ hc, ih j (by simpa using hj) (fun d hd => h d (by simp [hd])) hvy, pow_xor, show 8 * (j + 1) = 8 + 8 * j by omega, Nat.pow_add, Nat.mul_assoc (2 ^ 8), Nat.xor_assoc, Nat.xor_comm (2 ^ 8 * (2 ^ (8 * j) * y)), ← Nat.xor_assoc]
/-- One more digit is turned. -/
theorem flip_step {s si : List Int} {k i by' : Nat} (h : ∀ c ∈ si, 0 ≤ c ∧ c < 256) (hx : le si = le s ^^^ 2 ^ k * (by' % 2 ^ i)) (hb : by' / 2 ^ i % 2 = 1) (hj : (k + i) / 8 < si.length) (v : Int) (hv : 0 ≤ v ∧ v < 256) (hvx : v.toNat = si[(k + i) / 8].toNat ^^^ 2 ^ ((k + i) % 8)) :
    le (si.set ((k + i) / 8) v) = le s ^^^ 2 ^ k * (by' % 2 ^ (i + 1)) := by
  rw [le_set _ v hv si _ hj h hvx, hx, ← Nat.pow_add, show 8 * ((k + i) / 8) + (k + i) % 8 = k + i by omega]
  have hm : by' % 2 ^ (i + 1) = 2 ^ i * 1 + by' % 2 ^ i := by
    rw [Nat.pow_succ, Nat.mod_mul, hb]; omega
  rw [hm, add_xor i 1 _ (Nat.mod_lt _ (Nat.two_pow_pos i)), pow_xor, Nat.mul_one, ← Nat.pow_add, Nat.xor_assoc, Nat.xor_comm (2 ^ (k + i))]
theorem flip_not {i by' : Nat} (hb : by' / 2 ^ i % 2 = 0) : by' % 2 ^ (i + 1) = by' % 2 ^ i := by
  rw [Nat.pow_succ, Nat.mod_mul, hb]; omega
theorem flip_on {i by' : Nat} (hb : by' / 2 ^ i % 2 = 1) : by' % 2 ^ (i + 1) ≠ 0 := by
  rw [Nat.pow_succ, Nat.mod_mul, hb]
  have := Nat.two_pow_pos i
  omega
theorem encB_head {os : List OpR} (hok : encOk os = true) : ((form (encS os).length).length = 1 ∧ (encB os).getD 0 0 < 128) ∨ ((form (encS os).length).length = 2 ∧ 128 ≤ (encB os).getD 0 0) := by
  have hl := encB_len os hok
  have hb : (encB os).length = (form (encS os).length).length + (encS os).length := by rw [encB, List.length_append]
  have hf := formed_form (encS os).length (by omega) (by omega)
  obtain ⟨g1, g2, g3, g4⟩ := formed_get _ hf.1
  have hget : (encB os).getD 0 0 = (form (encS os).length).getD 0 0 := by
    rw [encB, List.getD_eq_getElem?_getD, List.getElem?_append_left (by omega), ← List.getD_eq_getElem?_getD]
  rw [hget]
  by_cases h1 : (form (encS os).length).length = 1
  · refine .inl ⟨h1, ?_⟩
    rw [h1] at g2
    exact g2
  · refine .inr ⟨?_, g1 0 (by omega)⟩
    have h2 : (form (encS os).length).length ≤ 2 := by
      rw [form, if_neg (by omega), formGo]
      split
      · rw [List.length_cons, formGo, if_neg (by omega)]; simp
      · simp
    omega
end Go.Proofs.YtfnoegijkdhckaaDoor
