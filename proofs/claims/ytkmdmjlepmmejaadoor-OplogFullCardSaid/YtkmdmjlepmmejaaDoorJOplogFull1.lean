/-
  The row and the card of the law OplogFull, out of its walk.
-/
import Derived.Test.YtkmdmjlepmmejaaDoorB9
import Derived.Test.YtkmdmjlepmmejaaDoorRows
import Derived.Test.YtkmdmjlepmmejaaDoorCards
import Derived.Test.YtkmdmjlepmmejaaDoorTie
import Derived.WalkKit
import Derived.ProofKit
import Derived.OpenShut
import Derived.ShutString
import Derived.ChangeOld
import Derived.Below
import Derived.SizedLaws
import Derived.SevenTiedAt
import Derived.Deep.DeepHandedRow
import Derived.Deep.DeepWitnessRowRef
/- The walk of the law OplogFull. -/
namespace Go.Proofs.YtkmdmjlepmmejaaDoor.Ol
open Go.RowKit Go.Sort Go.Proofs.YtkmdmjlepmmejaaDoorW.PrintWords Tr

/-- What is known of the two batches, and of how much room there is. -/
structure FullK (X Y L1 L2 : List OpR) (N N2 d : Int) : Prop where
  x : X.length ≤ 24
  y : Y.length ≤ 8
  sx : ∀ o ∈ X, o.name.size ≤ 9223372036854775807
  sy : ∀ o ∈ Y, o.name.size ≤ 9223372036854775807
  rx : X.all opRight = true
  ry : Y.all opRight = true
  e1 : L1 = joinO [] X
  e2 : L2 = joinO L1 Y
  n1 : N = L1.length
  n2 : N2 = (newOf L1 Y).length
theorem FullK.le1 {X Y L1 L2 : List OpR} {N N2 d : Int} (h : FullK X Y L1 L2 N N2 d) : L1.length ≤ 24 ∧ (newOf L1 Y).length ≤ 8 := by
  have h1 := join0_length X
  have h2 := newOf_length L1 Y
  have := h.e1
  subst this
  have := h.x
  have := h.y
  omega
theorem FullK.ok1 {X Y L1 L2 : List OpR} {N N2 d : Int} (h : FullK X Y L1 L2 N N2 d) {m : Int} (hm : N ≤ m) : LogOk m L1 := by
  have e := h.e1
  subst e
  exact ⟨joinO_asc asc_nil _, join0_right h.rx, by rw [← h.n1]; exact hm⟩
theorem FullK.ok2 {X Y L1 L2 : List OpR} {N N2 d : Int} (h : FullK X Y L1 L2 N N2 d) {m : Int} (hm : N + N2 ≤ m) : LogOk m L2 := by
  have e := h.e2
  have o := h.ok1 (Int.le_refl N)
  subst e
  refine ⟨joinO_asc o.asc _, fun q hq => (mem_joinO.1 hq).elim (o.right q) (List.all_eq_true.1 h.ry q), ?_⟩
  rw [joinO_length]
  have h1 := h.n1
  have h2 := h.n2
  push_cast
  omega
theorem FullK.put1 {X Y L1 L2 : List OpR} {N N2 d : Int} (h : FullK X Y L1 L2 N N2 d) {m : Int} (hm : N ≤ m) : ∃ c, putR m [] X = ⟨N, c, 0, L1⟩ := by
  have hl : (joinO [] X).length = (newOf [] X).length := by rw [joinO_length]; simp
  have e := h.e1
  subst e
  have hn := h.n1
  rw [hl] at hn
  refine ⟨chgsO [] (joinO [] X), (put_ok h.rx (by simp; omega)).trans ?_⟩
  rw [← hn]
theorem FullK.put2 {X Y L1 L2 : List OpR} {N N2 d : Int} (h : FullK X Y L1 L2 N N2 d) {m : Int} (hm : N + N2 ≤ m) : ∃ c, putR m L1 Y = ⟨N2, c, 0, L2⟩ := by
  have h1 := h.n1
  have h2 := h.n2
  refine ⟨chgsO L1 (joinO L1 Y), (put_ok h.ry (by omega)).trans ?_⟩
  rw [← h2, ← h.e2]
theorem FullK.full {X Y L1 L2 : List OpR} {N N2 d : Int} (h : FullK X Y L1 L2 N N2 d) {m : Int} (hm : m < N + N2) : putR m L1 Y = ⟨0, [], 6, L1⟩ := by
  have h1 := h.n1
  have h2 := h.n2
  exact put_full h.ry (by omega)
theorem FullK.again1 {X Y L1 L2 : List OpR} {N N2 d : Int} (h : FullK X Y L1 L2 N N2 d) {m : Int} (hm : N ≤ m) : putR m L1 X = ⟨0, [], 0, L1⟩ :=
  put_again (h.ok1 hm) h.rx fun o ho => by rw [h.e1]; exact mem_join0.2 ho
theorem FullK.again2 {X Y L1 L2 : List OpR} {N N2 d : Int} (h : FullK X Y L1 L2 N N2 d) {m : Int} (hm : N + N2 ≤ m) : putR m L2 X = ⟨0, [], 0, L2⟩ :=
  put_again (h.ok2 hm) h.rx fun o ho => by rw [h.e2]; exact mem_joinO.2 (.inl (by rw [h.e1]; exact mem_join0.2 ho))
theorem same_self {us : List OpR} : sameO us us = true := by simp [sameO]
theorem fresh_row {w W : World} {v : Value} {l : List OpR} {F : Nat → Prop} (h : OwnO w W.heap.size v l) (hF : ∀ b, F b → b < W.heap.size) : ∀ b, v.ownBlock = some b → ¬ F b := fun b e hb => by
  obtain ⟨inner, hrow, _⟩ := h
  have := own_base hrow b e
  have := hF b hb
  omega
theorem row_off {W : World} {B : Nat} {v : Value} {l : List OpR} {F F' : Nat → Prop} (h : OwnO W B v l) (hn : ∀ b, v.ownBlock = some b → ¬ F b) (hF : ∀ b, F' b → F b ∨ W.heap.size ≤ b) : ∀ b, v.ownBlock = some b → ¬ F' b := fun b e hb => by
  obtain ⟨inner, hrow, _⟩ := h
  have := own_lt hrow b e
  rcases hF b hb with h1 | h1
  · exact hn b e h1
  · omega
theorem ops_of_own {W : World} {B : Nat} {A : Option Addr} {c a : Nat} {l : List OpR} (e : l.length = a) (h : OwnO W B (.slice A a c) l) : OpsAt W A a l := by
  obtain ⟨A', c', he, _, hr⟩ := OwnO.ops h
  cases he
  exact hr
set_option maxRecDepth 100000 in
set_option maxHeartbeats 4000000 in
theorem full_walk (A : Option Addr) (n c : Nat) (B : Option Addr) (m dd : Nat) (less : Int) (w : World) (X Y L1 L2 : List OpR) (a b : Nat) (d : Int) (hn : n ≤ 24) (hm : m ≤ 8) (hless : 0 ≤ less ∧ less < 256) (hd : Int.tmod less 3 = d) (hd2 : 0 ≤ d ∧ d ≤ 2) (ha : a ≤ 24) (hb : b ≤ 8) (ea : L1.length = a) (hT : Tabs w) (hk : FullK X Y L1 L2 a b d)
    (h1 : ∀ W : World, Below w.heap.size w W → Calls Tryd.prog 9 #[.slice A n c] W fun e w' => ∃ v, e = .returned v ∧ OwnO w' W.heap.size v X ∧ Below W.heap.size W w')
    (h2 : ∀ W : World, Below w.heap.size w W → Calls Tryd.prog 9 #[.slice B m dd] W fun e w' => ∃ v, e = .returned v ∧ OwnO w' W.heap.size v Y ∧ Below W.heap.size W w') :
    Calls Tryd.prog 5 #[.slice A n c, .slice B m dd, .int .u8 less] w fun e w' => e = .returned (.bool true) ∧ Below w.heap.size w w' := by
  obtain ⟨c1, k1⟩ := hk.put1 (m := 1000) (by omega)
  obtain ⟨c2, k2⟩ := hk.put2 (m := 1000) (by omega)
  have hx := hk.x
  have hy := hk.y
  have p1 := put_c (w := w) k1 (log0 (by decide)) hk.sx hT (by simp; omega) (by decide)
  have p2 := put_c (w := w) k2 (hk.ok1 (by omega)) hk.sy hT (by omega) (by decide)
  have hl2 : L2.length ≤ 32 := by
    rw [hk.e2, joinO_length]
    have := hk.le1
    omega
  have al1 : ∀ (W : World) (F : Nat → Prop) (p : Nat) (mo : Int), LogAt W F p mo L1 → Calls Tryd.prog 15 #[.pointer (some ⟨p, 0, none⟩)] W fun e w' => ∃ A c, e = .returned (.slice A a c) ∧ OwnO w' W.heap.size (.slice A a c) L1 ∧ Below W.heap.size W w' := fun W F p mo H =>
    (log_all W F p mo L1 H (by omega)).mono fun e w' ⟨v', he, ho, hb⟩ => by
      obtain ⟨A', c', rfl, _, _⟩ := OwnO.ops ho
      rw [ea] at he ho
      exact ⟨A', c', he, ho, hb⟩
  have hs := fun (A : Option Addr) (c : Nat) (B : Option Addr) (d : Nat) (W : World) (h : OpsAt W A a L1) (k : OpsAt W B a L1) => sameO_calls A _ c L1 B _ d L1 W h k
  rw [same_self] at hs
  have q3 : (a : Int) ≤ a + b - d → ∃ c, PutC w (a + b - d) [] X a c 0 L1 := fun h => by
    obtain ⟨c, k⟩ := hk.put1 h
    exact ⟨_, put_c k (log0 (by omega)) hk.sx hT (by simp; omega) (by omega)⟩
  have q4 : (a : Int) ≤ a + b - d → (a : Int) + b - d < a + b → PutC w (a + b - d) L1 Y 0 0 6 L1 ∧ PutC w (a + b - d) L1 X 0 0 0 L1 := fun h h' =>
    ⟨put_c (cs := []) (hk.full h') (hk.ok1 h) hk.sy hT (by omega) (by omega), put_c (cs := []) (hk.again1 h) (hk.ok1 h) hk.sx hT (by omega) (by omega)⟩
  have q5 : (a : Int) + b ≤ a + b - d → (∃ c, PutC w (a + b - d) L1 Y b c 0 L2) ∧ PutC w (a + b - d) L2 X 0 0 0 L2 := fun h => by
    obtain ⟨c, k⟩ := hk.put2 h
    exact ⟨⟨_, put_c k (hk.ok1 (by omega)) hk.sy hT (by omega) (by omega)⟩, put_c (cs := []) (hk.again2 h) (hk.ok2 h) hk.sx hT (by omega) (by omega)⟩
  generalize c1.length = nc1 at p1
  generalize c2.length = nc2 at p2
  have HAL1 := Lib.hid al1
  have HS := Lib.hid hs
  have HEA := Lib.hid ea
  have HP1 := Lib.hid p1
  have HP2 := Lib.hid p2
  have H1 := Lib.hid h1
  have H2 := Lib.hid h2
  have Q3 := Lib.hid q3
  have Q4 := Lib.hid q4
  have Q5 := Lib.hid q5
  have HT := Lib.hid hT
  have HB := Lib.hid (Below.refl w.heap.size w)
  clear hk k1 k2 hx hy p1 p2 hl2 al1 hs q3 q4 q5 h1 h2 hT ea
  by_cases r1 : (a : Int) + b - d < a
  · go_enter Tryd.func5, Tryd.ntmps5
    go_wp2_with (first
    | (go_at_call 6; (with_reducible refine Calls.mono (awake_calls _ HT.out) ?_); rintro e w1 ⟨rfl, hb⟩; have HBn := Lib.hid (below_step (by repeat (first | (with_reducible exact HB.out) | apply below_alloc | apply pw_below_drewN | apply below_drew1 | exact HB.out)) hb); clear hb HB; have HB := HBn; clear HBn) | (go_at_call 7; (with_reducible refine Calls.mono (log_new _ 1000 (by decide)) ?_); rintro e w2 ⟨p, F, rfl, hlog, hF, hb⟩; have HL := Lib.hid hlog; have HF := Lib.hid (fun b hb' => Nat.le_trans HB.out.size (hF b hb')); clear hlog hF; have HBn := Lib.hid (below_step (by repeat (first | (with_reducible exact HB.out) | apply below_alloc | apply pw_below_drewN | apply below_drew1 | exact HB.out)) hb); clear hb HB; have HB := HBn; clear HBn) | (go_at_call 9; (with_reducible refine Calls.mono (H1.out _ HB.out) ?_); rintro e w3 ⟨v3, rfl, ho, hb⟩; have HL3 := Lib.hid (HL.out.below hb); obtain ⟨A3, c3, rfl, _, hr3⟩ := OwnO.ops ho; have HR3 := Lib.hid hr3; clear HL ho hr3; have HBn := Lib.hid (below_step (by repeat (first | (with_reducible exact HB.out) | apply below_alloc | apply pw_below_drewN | apply below_drew1 | exact HB.out)) hb); clear hb HB; have HB := HBn; clear HBn) | (go_at_call 8; (with_reducible refine Calls.mono (HP1.out _ F p A3 c3 HL3.out HR3.out HB.out HF.out) ?_); rintro e w4 ⟨A4, c4, F4, rfl, hlog, hF0, hF, ht, hb⟩; have HL4 := Lib.hid hlog; have HF4 := Lib.hid hF; clear HL3 HF HR3 hlog hF0 hF ht; have HBn := Lib.hid hb; clear hb HB; have HB := HBn; clear HBn) | (go_at_call 15; (with_reducible refine Calls.mono (HAL1.out _ F4 p 1000 HL4.out) ?_); rintro e w5 ⟨A5, c5, rfl, ho, hb⟩; have HL5 := Lib.hid (HL4.out.below hb); clear HL4 ho; have HBn := Lib.hid (below_step (by repeat (first | (with_reducible exact HB.out) | apply below_alloc | apply pw_below_drewN | apply below_drew1 | exact HB.out)) hb); clear hb HB; have HB := HBn; clear HBn) | (go_at_call 9; (with_reducible refine Calls.mono (H2.out _ HB.out) ?_); rintro e w6 ⟨v6, rfl, ho, hb⟩; have HL6 := Lib.hid (HL5.out.below hb); obtain ⟨A6, c6, rfl, _, hr6⟩ := OwnO.ops ho; have HR6 := Lib.hid hr6; clear HL5 ho hr6; have HBn := Lib.hid (below_step (by repeat (first | (with_reducible exact HB.out) | apply below_alloc | apply pw_below_drewN | apply below_drew1 | exact HB.out)) hb); clear hb HB; have HB := HBn; clear HBn) | (go_at_call 8; (with_reducible refine Calls.mono (HP2.out _ F4 p A6 c6 HL6.out HR6.out HB.out HF4.out) ?_); rintro e w7 ⟨A7, c7, F7, rfl, hlog, hF0, hF, ht, hb⟩; clear HL6 HF4 HR6 hlog hF0 hF ht; have HBn := Lib.hid hb; clear hb HB; have HB := HBn; clear HBn) | (go_at_call 7; (with_reducible refine Calls.mono (log_new _ _ H0.out) ?_); rintro e w9 ⟨p9, F9, rfl, hlog, hF, hb⟩; have HL9 := Lib.hid hlog; have HF9 := Lib.hid (fun b hb' => Nat.le_trans HB.out.size (hF b hb')); clear hlog hF; have HBn := Lib.hid (below_step (by repeat (first | (with_reducible exact HB.out) | apply below_alloc | apply pw_below_drewN | apply below_drew1 | exact HB.out)) hb); clear hb HB; have HB := HBn; clear HBn) | (go_at_call 9; (with_reducible refine Calls.mono (H1.out _ HB.out) ?_); rintro e w10 ⟨v10, rfl, ho, hb⟩; have HL10 := Lib.hid (HL9.out.below hb); obtain ⟨A10, c10, rfl, _, hr10⟩ := OwnO.ops ho; have HR10 := Lib.hid hr10; clear HL9 ho hr10; have HBn := Lib.hid (below_step (by repeat (first | (with_reducible exact HB.out) | apply below_alloc | apply pw_below_drewN | apply below_drew1 | exact HB.out)) hb); clear hb HB; have HB := HBn; clear HBn) | (go_at_call 8; (with_reducible refine Calls.mono (HP3.out _ F9 p9 A10 c10 HL10.out HR10.out HB.out HF9.out) ?_); rintro e w11 ⟨A11, c11, F11, rfl, hlog, hF0, hF, ht, hb⟩; have HL11 := Lib.hid hlog; have HF11 := Lib.hid hF; clear HL10 HF9 HR10 hlog hF0 hF ht; have HBn := Lib.hid hb; clear hb HB; have HB := HBn; clear HBn) | (go_at_call 15; (with_reducible refine Calls.mono (HAL1.out _ F11 p9 _ HL11.out) ?_); rintro e w12 ⟨A12, c12, rfl, ho, hb⟩; have HL12 := Lib.hid (HL11.out.below hb); have HO12 := Lib.hid ho; have HD12 := Lib.hid (fresh_row ho HL11.out.lt); clear HL11 ho; have HBn := Lib.hid (below_step (by repeat (first | (with_reducible exact HB.out) | apply below_alloc | apply pw_below_drewN | apply below_drew1 | exact HB.out)) hb); clear hb HB; have HB := HBn; clear HBn) | (go_at_call 9; (with_reducible refine Calls.mono (H2.out _ HB.out) ?_); rintro e w13 ⟨v13, rfl, ho, hb⟩; have HL13 := Lib.hid (HL12.out.below hb); have HO13 := Lib.hid (OwnRow.below HO12.out hb); obtain ⟨A13, c13, rfl, _, hr13⟩ := OwnO.ops ho; have HR13 := Lib.hid hr13; clear HL12 HO12 ho hr13; have HBn := Lib.hid (below_step (by repeat (first | (with_reducible exact HB.out) | apply below_alloc | apply pw_below_drewN | apply below_drew1 | exact HB.out)) hb); clear hb HB; have HB := HBn; clear HBn) | (go_at_call 8; (with_reducible refine Calls.mono (HP4.out _ F11 p9 A13 c13 HL13.out HR13.out HB.out HF11.out) ?_); rintro e w14 ⟨A14, c14, F14, rfl, hlog, hF0, hF, ht, hb⟩; have HL14 := Lib.hid hlog; have HF14 := Lib.hid hF; have HO14 := Lib.hid (ht.row HO13.out HD12.out); have HD14 := Lib.hid (row_off HO13.out HD12.out hF0); clear HL13 HF11 HR13 HO13 HD12 hlog hF0 hF ht; have HBn := Lib.hid hb; clear hb HB; have HB := HBn; clear HBn) | (go_at_call 9; (with_reducible refine Calls.mono (H1.out _ HB.out) ?_); rintro e w15 ⟨v15, rfl, ho, hb⟩; have HL15 := Lib.hid (HL14.out.below hb); have HO15 := Lib.hid (OwnRow.below HO14.out hb); obtain ⟨A15, c15, rfl, _, hr15⟩ := OwnO.ops ho; have HR15 := Lib.hid hr15; clear HL14 HO14 ho hr15; have HBn := Lib.hid (below_step (by repeat (first | (with_reducible exact HB.out) | apply below_alloc | apply pw_below_drewN | apply below_drew1 | exact HB.out)) hb); clear hb HB; have HB := HBn; clear HBn) | (go_at_call 8; (with_reducible refine Calls.mono (HP5.out _ F14 p9 A15 c15 HL15.out HR15.out HB.out HF14.out) ?_); rintro e w16 ⟨A16, c16, F16, rfl, hlog, hF0, hF, ht, hb⟩; have HL16 := Lib.hid hlog; have HO16 := Lib.hid (ht.row HO15.out HD14.out); clear HL15 HF14 HR15 HO15 HD14 hlog hF0 hF ht; have HBn := Lib.hid hb; clear hb HB; have HB := HBn; clear HBn) | (go_at_call 15; (with_reducible refine Calls.mono (HAL1.out _ F16 p9 _ HL16.out) ?_); rintro e w17 ⟨A17, c17, rfl, ho, hb⟩; have HR17 := Lib.hid (ops_of_own HEA.out ho); have HO17 := Lib.hid (ops_of_own HEA.out (OwnRow.below HO16.out hb)); clear HL16 HO16 ho; have HBn := Lib.hid (below_step (by repeat (first | (with_reducible exact HB.out) | apply below_alloc | apply pw_below_drewN | apply below_drew1 | exact HB.out)) hb); clear hb HB; have HB := HBn; clear HBn) | (go_at_call 16; (with_reducible refine Calls.mono (HS.out _ _ _ _ _ HR17.out HO17.out) ?_); rintro e w18 ⟨rfl, m18, rfl⟩)
    | (fail "no arm"))
    all_goals (go_ret; exact ⟨by simp, (by repeat (first | (with_reducible exact HB.out) | apply below_alloc | apply pw_below_drewN | apply below_drew1 | exact HB.out))⟩)
  · obtain ⟨n3, p3⟩ := Q3.out (by omega)
    have HP3 := Lib.hid p3
    have H0 := Lib.hid (show 0 ≤ (a : Int) + b - d by omega)
    clear p3
    by_cases r2 : (a : Int) + b - d < a + b
    · have HP4 := Lib.hid (Q4.out (by omega) r2).1
      have HP5 := Lib.hid (Q4.out (by omega) r2).2
      go_enter Tryd.func5, Tryd.ntmps5
      go_wp2_with (first
      | (go_at_call 6; (with_reducible refine Calls.mono (awake_calls _ HT.out) ?_); rintro e w1 ⟨rfl, hb⟩; have HBn := Lib.hid (below_step (by repeat (first | (with_reducible exact HB.out) | apply below_alloc | apply pw_below_drewN | apply below_drew1 | exact HB.out)) hb); clear hb HB; have HB := HBn; clear HBn) | (go_at_call 7; (with_reducible refine Calls.mono (log_new _ 1000 (by decide)) ?_); rintro e w2 ⟨p, F, rfl, hlog, hF, hb⟩; have HL := Lib.hid hlog; have HF := Lib.hid (fun b hb' => Nat.le_trans HB.out.size (hF b hb')); clear hlog hF; have HBn := Lib.hid (below_step (by repeat (first | (with_reducible exact HB.out) | apply below_alloc | apply pw_below_drewN | apply below_drew1 | exact HB.out)) hb); clear hb HB; have HB := HBn; clear HBn) | (go_at_call 9; (with_reducible refine Calls.mono (H1.out _ HB.out) ?_); rintro e w3 ⟨v3, rfl, ho, hb⟩; have HL3 := Lib.hid (HL.out.below hb); obtain ⟨A3, c3, rfl, _, hr3⟩ := OwnO.ops ho; have HR3 := Lib.hid hr3; clear HL ho hr3; have HBn := Lib.hid (below_step (by repeat (first | (with_reducible exact HB.out) | apply below_alloc | apply pw_below_drewN | apply below_drew1 | exact HB.out)) hb); clear hb HB; have HB := HBn; clear HBn) | (go_at_call 8; (with_reducible refine Calls.mono (HP1.out _ F p A3 c3 HL3.out HR3.out HB.out HF.out) ?_); rintro e w4 ⟨A4, c4, F4, rfl, hlog, hF0, hF, ht, hb⟩; have HL4 := Lib.hid hlog; have HF4 := Lib.hid hF; clear HL3 HF HR3 hlog hF0 hF ht; have HBn := Lib.hid hb; clear hb HB; have HB := HBn; clear HBn) | (go_at_call 15; (with_reducible refine Calls.mono (HAL1.out _ F4 p 1000 HL4.out) ?_); rintro e w5 ⟨A5, c5, rfl, ho, hb⟩; have HL5 := Lib.hid (HL4.out.below hb); clear HL4 ho; have HBn := Lib.hid (below_step (by repeat (first | (with_reducible exact HB.out) | apply below_alloc | apply pw_below_drewN | apply below_drew1 | exact HB.out)) hb); clear hb HB; have HB := HBn; clear HBn) | (go_at_call 9; (with_reducible refine Calls.mono (H2.out _ HB.out) ?_); rintro e w6 ⟨v6, rfl, ho, hb⟩; have HL6 := Lib.hid (HL5.out.below hb); obtain ⟨A6, c6, rfl, _, hr6⟩ := OwnO.ops ho; have HR6 := Lib.hid hr6; clear HL5 ho hr6; have HBn := Lib.hid (below_step (by repeat (first | (with_reducible exact HB.out) | apply below_alloc | apply pw_below_drewN | apply below_drew1 | exact HB.out)) hb); clear hb HB; have HB := HBn; clear HBn) | (go_at_call 8; (with_reducible refine Calls.mono (HP2.out _ F4 p A6 c6 HL6.out HR6.out HB.out HF4.out) ?_); rintro e w7 ⟨A7, c7, F7, rfl, hlog, hF0, hF, ht, hb⟩; clear HL6 HF4 HR6 hlog hF0 hF ht; have HBn := Lib.hid hb; clear hb HB; have HB := HBn; clear HBn) | (go_at_call 7; (with_reducible refine Calls.mono (log_new _ _ H0.out) ?_); rintro e w9 ⟨p9, F9, rfl, hlog, hF, hb⟩; have HL9 := Lib.hid hlog; have HF9 := Lib.hid (fun b hb' => Nat.le_trans HB.out.size (hF b hb')); clear hlog hF; have HBn := Lib.hid (below_step (by repeat (first | (with_reducible exact HB.out) | apply below_alloc | apply pw_below_drewN | apply below_drew1 | exact HB.out)) hb); clear hb HB; have HB := HBn; clear HBn) | (go_at_call 9; (with_reducible refine Calls.mono (H1.out _ HB.out) ?_); rintro e w10 ⟨v10, rfl, ho, hb⟩; have HL10 := Lib.hid (HL9.out.below hb); obtain ⟨A10, c10, rfl, _, hr10⟩ := OwnO.ops ho; have HR10 := Lib.hid hr10; clear HL9 ho hr10; have HBn := Lib.hid (below_step (by repeat (first | (with_reducible exact HB.out) | apply below_alloc | apply pw_below_drewN | apply below_drew1 | exact HB.out)) hb); clear hb HB; have HB := HBn; clear HBn) | (go_at_call 8; (with_reducible refine Calls.mono (HP3.out _ F9 p9 A10 c10 HL10.out HR10.out HB.out HF9.out) ?_); rintro e w11 ⟨A11, c11, F11, rfl, hlog, hF0, hF, ht, hb⟩; have HL11 := Lib.hid hlog; have HF11 := Lib.hid hF; clear HL10 HF9 HR10 hlog hF0 hF ht; have HBn := Lib.hid hb; clear hb HB; have HB := HBn; clear HBn) | (go_at_call 15; (with_reducible refine Calls.mono (HAL1.out _ F11 p9 _ HL11.out) ?_); rintro e w12 ⟨A12, c12, rfl, ho, hb⟩; have HL12 := Lib.hid (HL11.out.below hb); have HO12 := Lib.hid ho; have HD12 := Lib.hid (fresh_row ho HL11.out.lt); clear HL11 ho; have HBn := Lib.hid (below_step (by repeat (first | (with_reducible exact HB.out) | apply below_alloc | apply pw_below_drewN | apply below_drew1 | exact HB.out)) hb); clear hb HB; have HB := HBn; clear HBn) | (go_at_call 9; (with_reducible refine Calls.mono (H2.out _ HB.out) ?_); rintro e w13 ⟨v13, rfl, ho, hb⟩; have HL13 := Lib.hid (HL12.out.below hb); have HO13 := Lib.hid (OwnRow.below HO12.out hb); obtain ⟨A13, c13, rfl, _, hr13⟩ := OwnO.ops ho; have HR13 := Lib.hid hr13; clear HL12 HO12 ho hr13; have HBn := Lib.hid (below_step (by repeat (first | (with_reducible exact HB.out) | apply below_alloc | apply pw_below_drewN | apply below_drew1 | exact HB.out)) hb); clear hb HB; have HB := HBn; clear HBn) | (go_at_call 8; (with_reducible refine Calls.mono (HP4.out _ F11 p9 A13 c13 HL13.out HR13.out HB.out HF11.out) ?_); rintro e w14 ⟨A14, c14, F14, rfl, hlog, hF0, hF, ht, hb⟩; have HL14 := Lib.hid hlog; have HF14 := Lib.hid hF; have HO14 := Lib.hid (ht.row HO13.out HD12.out); have HD14 := Lib.hid (row_off HO13.out HD12.out hF0); clear HL13 HF11 HR13 HO13 HD12 hlog hF0 hF ht; have HBn := Lib.hid hb; clear hb HB; have HB := HBn; clear HBn) | (go_at_call 9; (with_reducible refine Calls.mono (H1.out _ HB.out) ?_); rintro e w15 ⟨v15, rfl, ho, hb⟩; have HL15 := Lib.hid (HL14.out.below hb); have HO15 := Lib.hid (OwnRow.below HO14.out hb); obtain ⟨A15, c15, rfl, _, hr15⟩ := OwnO.ops ho; have HR15 := Lib.hid hr15; clear HL14 HO14 ho hr15; have HBn := Lib.hid (below_step (by repeat (first | (with_reducible exact HB.out) | apply below_alloc | apply pw_below_drewN | apply below_drew1 | exact HB.out)) hb); clear hb HB; have HB := HBn; clear HBn) | (go_at_call 8; (with_reducible refine Calls.mono (HP5.out _ F14 p9 A15 c15 HL15.out HR15.out HB.out HF14.out) ?_); rintro e w16 ⟨A16, c16, F16, rfl, hlog, hF0, hF, ht, hb⟩; have HL16 := Lib.hid hlog; have HO16 := Lib.hid (ht.row HO15.out HD14.out); clear HL15 HF14 HR15 HO15 HD14 hlog hF0 hF ht; have HBn := Lib.hid hb; clear hb HB; have HB := HBn; clear HBn) | (go_at_call 15; (with_reducible refine Calls.mono (HAL1.out _ F16 p9 _ HL16.out) ?_); rintro e w17 ⟨A17, c17, rfl, ho, hb⟩; have HR17 := Lib.hid (ops_of_own HEA.out ho); have HO17 := Lib.hid (ops_of_own HEA.out (OwnRow.below HO16.out hb)); clear HL16 HO16 ho; have HBn := Lib.hid (below_step (by repeat (first | (with_reducible exact HB.out) | apply below_alloc | apply pw_below_drewN | apply below_drew1 | exact HB.out)) hb); clear hb HB; have HB := HBn; clear HBn) | (go_at_call 16; (with_reducible refine Calls.mono (HS.out _ _ _ _ _ HR17.out HO17.out) ?_); rintro e w18 ⟨rfl, m18, rfl⟩)
      | (fail "no arm"))
      all_goals (go_ret; exact ⟨by simp, (by repeat (first | (with_reducible exact HB.out) | apply below_alloc | apply pw_below_drewN | apply below_drew1 | exact HB.out))⟩)
    · obtain ⟨⟨n4, p4⟩, p5⟩ := Q5.out (by omega)
      have HP4 := Lib.hid p4
      have HP5 := Lib.hid p5
      clear p4 p5
      go_enter Tryd.func5, Tryd.ntmps5
      go_wp2_with (first
      | (go_at_call 6; (with_reducible refine Calls.mono (awake_calls _ HT.out) ?_); rintro e w1 ⟨rfl, hb⟩; have HBn := Lib.hid (below_step (by repeat (first | (with_reducible exact HB.out) | apply below_alloc | apply pw_below_drewN | apply below_drew1 | exact HB.out)) hb); clear hb HB; have HB := HBn; clear HBn) | (go_at_call 7; (with_reducible refine Calls.mono (log_new _ 1000 (by decide)) ?_); rintro e w2 ⟨p, F, rfl, hlog, hF, hb⟩; have HL := Lib.hid hlog; have HF := Lib.hid (fun b hb' => Nat.le_trans HB.out.size (hF b hb')); clear hlog hF; have HBn := Lib.hid (below_step (by repeat (first | (with_reducible exact HB.out) | apply below_alloc | apply pw_below_drewN | apply below_drew1 | exact HB.out)) hb); clear hb HB; have HB := HBn; clear HBn) | (go_at_call 9; (with_reducible refine Calls.mono (H1.out _ HB.out) ?_); rintro e w3 ⟨v3, rfl, ho, hb⟩; have HL3 := Lib.hid (HL.out.below hb); obtain ⟨A3, c3, rfl, _, hr3⟩ := OwnO.ops ho; have HR3 := Lib.hid hr3; clear HL ho hr3; have HBn := Lib.hid (below_step (by repeat (first | (with_reducible exact HB.out) | apply below_alloc | apply pw_below_drewN | apply below_drew1 | exact HB.out)) hb); clear hb HB; have HB := HBn; clear HBn) | (go_at_call 8; (with_reducible refine Calls.mono (HP1.out _ F p A3 c3 HL3.out HR3.out HB.out HF.out) ?_); rintro e w4 ⟨A4, c4, F4, rfl, hlog, hF0, hF, ht, hb⟩; have HL4 := Lib.hid hlog; have HF4 := Lib.hid hF; clear HL3 HF HR3 hlog hF0 hF ht; have HBn := Lib.hid hb; clear hb HB; have HB := HBn; clear HBn) | (go_at_call 15; (with_reducible refine Calls.mono (HAL1.out _ F4 p 1000 HL4.out) ?_); rintro e w5 ⟨A5, c5, rfl, ho, hb⟩; have HL5 := Lib.hid (HL4.out.below hb); clear HL4 ho; have HBn := Lib.hid (below_step (by repeat (first | (with_reducible exact HB.out) | apply below_alloc | apply pw_below_drewN | apply below_drew1 | exact HB.out)) hb); clear hb HB; have HB := HBn; clear HBn) | (go_at_call 9; (with_reducible refine Calls.mono (H2.out _ HB.out) ?_); rintro e w6 ⟨v6, rfl, ho, hb⟩; have HL6 := Lib.hid (HL5.out.below hb); obtain ⟨A6, c6, rfl, _, hr6⟩ := OwnO.ops ho; have HR6 := Lib.hid hr6; clear HL5 ho hr6; have HBn := Lib.hid (below_step (by repeat (first | (with_reducible exact HB.out) | apply below_alloc | apply pw_below_drewN | apply below_drew1 | exact HB.out)) hb); clear hb HB; have HB := HBn; clear HBn) | (go_at_call 8; (with_reducible refine Calls.mono (HP2.out _ F4 p A6 c6 HL6.out HR6.out HB.out HF4.out) ?_); rintro e w7 ⟨A7, c7, F7, rfl, hlog, hF0, hF, ht, hb⟩; clear HL6 HF4 HR6 hlog hF0 hF ht; have HBn := Lib.hid hb; clear hb HB; have HB := HBn; clear HBn) | (go_at_call 7; (with_reducible refine Calls.mono (log_new _ _ H0.out) ?_); rintro e w9 ⟨p9, F9, rfl, hlog, hF, hb⟩; have HL9 := Lib.hid hlog; have HF9 := Lib.hid (fun b hb' => Nat.le_trans HB.out.size (hF b hb')); clear hlog hF; have HBn := Lib.hid (below_step (by repeat (first | (with_reducible exact HB.out) | apply below_alloc | apply pw_below_drewN | apply below_drew1 | exact HB.out)) hb); clear hb HB; have HB := HBn; clear HBn) | (go_at_call 9; (with_reducible refine Calls.mono (H1.out _ HB.out) ?_); rintro e w10 ⟨v10, rfl, ho, hb⟩; have HL10 := Lib.hid (HL9.out.below hb); obtain ⟨A10, c10, rfl, _, hr10⟩ := OwnO.ops ho; have HR10 := Lib.hid hr10; clear HL9 ho hr10; have HBn := Lib.hid (below_step (by repeat (first | (with_reducible exact HB.out) | apply below_alloc | apply pw_below_drewN | apply below_drew1 | exact HB.out)) hb); clear hb HB; have HB := HBn; clear HBn) | (go_at_call 8; (with_reducible refine Calls.mono (HP3.out _ F9 p9 A10 c10 HL10.out HR10.out HB.out HF9.out) ?_); rintro e w11 ⟨A11, c11, F11, rfl, hlog, hF0, hF, ht, hb⟩; have HL11 := Lib.hid hlog; have HF11 := Lib.hid hF; clear HL10 HF9 HR10 hlog hF0 hF ht; have HBn := Lib.hid hb; clear hb HB; have HB := HBn; clear HBn) | (go_at_call 15; (with_reducible refine Calls.mono (HAL1.out _ F11 p9 _ HL11.out) ?_); rintro e w12 ⟨A12, c12, rfl, ho, hb⟩; have HL12 := Lib.hid (HL11.out.below hb); have HO12 := Lib.hid ho; have HD12 := Lib.hid (fresh_row ho HL11.out.lt); clear HL11 ho; have HBn := Lib.hid (below_step (by repeat (first | (with_reducible exact HB.out) | apply below_alloc | apply pw_below_drewN | apply below_drew1 | exact HB.out)) hb); clear hb HB; have HB := HBn; clear HBn) | (go_at_call 9; (with_reducible refine Calls.mono (H2.out _ HB.out) ?_); rintro e w13 ⟨v13, rfl, ho, hb⟩; have HL13 := Lib.hid (HL12.out.below hb); have HO13 := Lib.hid (OwnRow.below HO12.out hb); obtain ⟨A13, c13, rfl, _, hr13⟩ := OwnO.ops ho; have HR13 := Lib.hid hr13; clear HL12 HO12 ho hr13; have HBn := Lib.hid (below_step (by repeat (first | (with_reducible exact HB.out) | apply below_alloc | apply pw_below_drewN | apply below_drew1 | exact HB.out)) hb); clear hb HB; have HB := HBn; clear HBn) | (go_at_call 8; (with_reducible refine Calls.mono (HP4.out _ F11 p9 A13 c13 HL13.out HR13.out HB.out HF11.out) ?_); rintro e w14 ⟨A14, c14, F14, rfl, hlog, hF0, hF, ht, hb⟩; have HL14 := Lib.hid hlog; have HF14 := Lib.hid hF; have HO14 := Lib.hid (ht.row HO13.out HD12.out); have HD14 := Lib.hid (row_off HO13.out HD12.out hF0); clear HL13 HF11 HR13 HO13 HD12 hlog hF0 hF ht; have HBn := Lib.hid hb; clear hb HB; have HB := HBn; clear HBn) | (go_at_call 9; (with_reducible refine Calls.mono (H1.out _ HB.out) ?_); rintro e w15 ⟨v15, rfl, ho, hb⟩; have HL15 := Lib.hid (HL14.out.below hb); have HO15 := Lib.hid (OwnRow.below HO14.out hb); obtain ⟨A15, c15, rfl, _, hr15⟩ := OwnO.ops ho; have HR15 := Lib.hid hr15; clear HL14 HO14 ho hr15; have HBn := Lib.hid (below_step (by repeat (first | (with_reducible exact HB.out) | apply below_alloc | apply pw_below_drewN | apply below_drew1 | exact HB.out)) hb); clear hb HB; have HB := HBn; clear HBn) | (go_at_call 8; (with_reducible refine Calls.mono (HP5.out _ F14 p9 A15 c15 HL15.out HR15.out HB.out HF14.out) ?_); rintro e w16 ⟨A16, c16, F16, rfl, hlog, hF0, hF, ht, hb⟩; have HL16 := Lib.hid hlog; have HO16 := Lib.hid (ht.row HO15.out HD14.out); clear HL15 HF14 HR15 HO15 HD14 hlog hF0 hF ht; have HBn := Lib.hid hb; clear hb HB; have HB := HBn; clear HBn) | (go_at_call 15; (with_reducible refine Calls.mono (HAL1.out _ F16 p9 _ HL16.out) ?_); rintro e w17 ⟨A17, c17, rfl, ho, hb⟩; have HR17 := Lib.hid (ops_of_own HEA.out ho); have HO17 := Lib.hid (ops_of_own HEA.out (OwnRow.below HO16.out hb)); clear HL16 HO16 ho; have HBn := Lib.hid (below_step (by repeat (first | (with_reducible exact HB.out) | apply below_alloc | apply pw_below_drewN | apply below_drew1 | exact HB.out)) hb); clear hb HB; have HB := HBn; clear HBn) | (go_at_call 16; (with_reducible refine Calls.mono (HS.out _ _ _ _ _ HR17.out HO17.out) ?_); rintro e w18 ⟨rfl, m18, rfl⟩)
      | (fail "no arm"))
      all_goals (go_ret; exact ⟨by simp, (by repeat (first | (with_reducible exact HB.out) | apply below_alloc | apply pw_below_drewN | apply below_drew1 | exact HB.out))⟩)
set_option maxRecDepth 100000 in
theorem full_far (A : Option Addr) (n c : Nat) (B : Option Addr) (m dd : Nat) (less : Int) (w : World) (hT : Tabs w) (h : 24 < n ∨ (n ≤ 24 ∧ 8 < m)) (hm1 : n ≤ 9223372036854775807) (hm2 : m ≤ 9223372036854775807) :
    Calls Tryd.prog 5 #[.slice A n c, .slice B m dd, .int .u8 less] w fun e w' => e = .returned (.bool true) ∧ Below w.heap.size w w' := by
  have HT := Lib.hid hT
  have HB := Lib.hid (Below.refl w.heap.size w)
  clear hT
  rcases h with h | ⟨h, h'⟩
  all_goals
    go_enter Tryd.func5, Tryd.ntmps5
    go_wp2_with (first
      | (go_at_call 6; (with_reducible refine Calls.mono (awake_calls _ HT.out) ?_); rintro e w1 ⟨rfl, hb⟩; have HBn := Lib.hid (below_step (by repeat (first | (with_reducible exact HB.out) | apply below_alloc | apply pw_below_drewN | apply below_drew1 | exact HB.out)) hb); clear hb HB; have HB := HBn; clear HBn)
      | (fail "no arm"))
    all_goals (go_ret; exact ⟨rfl, (by repeat (first | (with_reducible exact HB.out) | apply below_alloc | apply pw_below_drewN | apply below_drew1 | exact HB.out))⟩)
theorem of_all_right (ts : List TinyT) : (ts.map ofT).all opRight = true := ofs_right ts
end Go.Proofs.YtkmdmjlepmmejaaDoor.Ol
namespace Go.Proofs.YtkmdmjlepmmejaaDoor
open Go.RowKit Go.Proofs.YtkmdmjlepmmejaaDoorW.PrintWords Ol Tr
theorem oplogFull_walk (A : Option Addr) (c : Nat) (ts : List TinyT) (B : Option Addr) (d : Nat) (us : List TinyT) (less : Int) (W : World) (h0 : ReadsRow (tinyKd.K W) 5 W A ts.length ts) (_ : ts.length ≤ c) (k0 : ts.length ≤ maxLen ∧ ∀ x ∈ ts, tinyOk x) (h1 : ReadsRow (tinyKd.K W) 5 W B us.length us) (_ : us.length ≤ d) (k1 : us.length ≤ maxLen ∧ ∀ x ∈ us, tinyOk x) (w2 : (Lit.int .u8 less).wf = true) (hT : Tabs W) :
    Calls Tryd.prog 5 #[.slice A ts.length c, .slice B us.length d, .int .u8 less] W fun e w' => e = .returned (.bool true) ∧ Below W.heap.size W w' := by
  have ha := tinys_of_row h0
  have hb := tinys_of_row h1
  have hl := byte_wf w2
  by_cases c1 : ts.length ≤ 24
  · by_cases c2 : us.length ≤ 8
    · have e1 := Int.tmod_eq_emod_of_nonneg (b := 3) hl.1
      have hk : FullK (ts.map ofT) (us.map ofT) (joinO [] (ts.map ofT)) (joinO (joinO [] (ts.map ofT)) (us.map ofT)) ((joinO [] (ts.map ofT)).length : Nat) ((newOf (joinO [] (ts.map ofT)) (us.map ofT)).length : Nat) (less % 3) :=
        ⟨by rw [List.length_map]; exact c1, by rw [List.length_map]; exact c2, ofs_small, ofs_small, ofs_right ts, ofs_right us, rfl, rfl, rfl, rfl⟩
      have := hk.le1
      exact full_walk A _ c B _ d less W _ _ _ _ _ _ (less % 3) c1 c2 hl e1 (by omega) this.1 this.2 rfl hT hk (fun V h => Ol.all_calls A _ c ts V (ha.below h) (fun x h => tinyIn (k0.2 x h)) (by omega)) (fun V h => Ol.all_calls B _ d us V (hb.below h) (fun x h => tinyIn (k1.2 x h)) (by omega))
    · exact full_far A _ c B _ d less W hT (.inr ⟨c1, by omega⟩) ha.2.1 hb.2.1
  · exact full_far A _ c B _ d less W hT (.inl (by omega)) ha.2.1 hb.2.1
end Go.Proofs.YtkmdmjlepmmejaaDoor
/- The row and the card of the law OplogFull, out of its walk. -/
namespace Go.Proofs.YtkmdmjlepmmejaaDoor.oplogFull
open Go.ChangeShapes Go.WideShapes Go.ChangeAt Go.RowKit Go.Lib
open Go.ChangeMaps (open_string shut_string)
open Go.Proofs.YtkmdmjlepmmejaaDoorW.Open Go.Proofs.YtkmdmjlepmmejaaDoorW.PrintWords
theorem own : ownKnob Tryd.prog.godebug = none := by kernel_rfl
theorem laidOut : laidOutB Tryd.prog = true := by kernel_rfl
theorem op0 : Opens Tryd.prog 22 (Kd.slice 41 tinyKd) (fun xs => xs.length ≤ maxLen ∧ ∀ x ∈ xs, tinyOk x) := Opens.slice Tryd.underlying22 (by kernel_rfl) tinyOpens
theorem op1 : Opens Tryd.prog 22 (Kd.slice 41 tinyKd) (fun xs => xs.length ≤ maxLen ∧ ∀ x ∈ xs, tinyOk x) := Opens.slice Tryd.underlying22 (by kernel_rfl) tinyOpens
theorem witness_row (os : Os) {H : Type} (enc : TypeId × Value → H) :
    (OpenSpec.ofChange Rows.oplogFullSpec).preRow enc Tryd.prog Tryd.f5 Rows.oplogFullRow.domain false Rows.oplogFullRow.laid ((laidWorld os).forCall (fun _ _ => 0) ⟨#[], #[.slice none 0 0, .slice none 0 0, .int .u8 0], []⟩).memory #[.slice none 0 0, .slice none 0 0, .int .u8 0] := by
  have hw : (DataW.whole enc Tryd.prog ((laidWorld os).forCall (fun _ _ => 0) ⟨#[], #[.slice none 0 0, .slice none 0 0, .int .u8 0], []⟩).memory Tryd.f5.params.toList (OpenSpec.ofChange Rows.oplogFullSpec).vars false (#[.slice none 0 0, .slice none 0 0, .int .u8 0] : Array Value).toList 8).map (fun x => (x.1, x.2.1)) =
      some ([.nil, .nil, .lit (.int .u8 0)], []) := by kernel_rfl
  obtain ⟨⟨x1, x2, x3⟩, hx, hx1⟩ := Option.map_eq_some_iff.1 hw
  simp only [Prod.mk.injEq] at hx1
  obtain ⟨rfl, rfl⟩ := hx1
  exact OpenSpec.preRow_of_cond 8 hx (by kernel_rfl) (fun k hk => by cases hk) (by kernel_rfl) (laid_met os _)
set_option maxRecDepth 100000 in
set_option maxHeartbeats 2000000 in
theorem lifted (os : Os) (started : os.Started) (H : Type) (enc : TypeId × Value → H) (F : Stop.Interp) :
    ReturnsInHanded {} Tryd.checked os 5 .any ((OpenSpec.ofChange Rows.oplogFullSpec).preRow enc Tryd.prog Tryd.f5 Rows.oplogFullRow.domain false Rows.oplogFullRow.laid) (((OpenSpec.ofChange Rows.oplogFullSpec).at F).post enc Tryd.prog Tryd.f5 false true false false) := by
  refine returnsInHanded_of_row (C := Tryd.checked) (s := OpenSpec.ofChange Rows.oplogFullSpec) own started (by kernel_rfl) Tryd.func5
    (witness_row_atRef (enc := enc) (C := Tryd.checked) false (laidWorld os) #[.slice none 0 0, .slice none 0 0, .int .u8 0] rfl (by kernel_rfl) (by kernel_rfl) (by kernel_rfl) (witness_row os enc)) ?_
  intro W base args ds gs before hval0 hW _ _ _ hL _ _
  have hval : ∀ (j : Nat) t v, Tryd.f5.params[j]? = some t → args[j]? = some v → Value.okWide Tryd.prog W .any base t v := hval0
  have hW' := hW
  obtain ⟨p, q, hA0, hV, rfl, hfz, hnd⟩ := hW
  have hA : DataW.TrodAll enc Tryd.prog W 0 (fun _ => true) true Tryd.f5.params.toList args.toList ds p := hA0
  rw [Tryd.params5] at hA hval
  obtain ⟨v0, vs0, d0, ds0, p0, q0, hargs, rfl, rfl, h0, r0⟩ := trodAll_cons hA
  obtain ⟨v1, vs1, d1, ds1, p1, q1, rfl, rfl, rfl, h1, r1⟩ := trodAll_cons r0
  obtain ⟨v2, vs2, d2, ds2, p2, q2, rfl, rfl, rfl, h2, r2⟩ := trodAll_cons r1
  obtain ⟨rfl, rfl, rfl⟩ := trodAll_nil r2
  obtain rfl : args = #[v0, v1, v2] := by cases args; simp_all
  obtain ⟨rfl, rfl⟩ := trodVars_none hV
  have k0 := h0
  have lt0 : ∀ x ∈ p0, x.block < W.heap.size := by obtain ⟨m, hm⟩ := k0; exact DataW.trod_lt m _ _ _ hm
  obtain ⟨a0, len0, cap0, rfl⟩ := okWide_slice Tryd.underlying22 (hval 0 22 v0 rfl rfl)
  obtain ⟨l0, hK0, ok0⟩ := Opens.arg op0 h0
  obtain ⟨A0, c0, e0, hc0, hr0⟩ := hK0
  simp only [Value.cells, List.cons.injEq, Value.slice.injEq, and_true] at e0
  obtain ⟨rfl, rfl, rfl⟩ := e0
  have k1 := h1
  have lt1 : ∀ x ∈ p1, x.block < W.heap.size := by obtain ⟨m, hm⟩ := k1; exact DataW.trod_lt m _ _ _ hm
  obtain ⟨a1, len1, cap1, rfl⟩ := okWide_slice Tryd.underlying22 (hval 1 22 v1 rfl rfl)
  obtain ⟨l1, hK1, ok1⟩ := Opens.arg op1 h1
  obtain ⟨A1, c1, e1, hc1, hr1⟩ := hK1
  simp only [Value.cells, List.cons.injEq, Value.slice.injEq, and_true] at e1
  obtain ⟨rfl, rfl, rfl⟩ := e1
  obtain ⟨a2, rfl, rfl, rfl, w2⟩ := open_int Tryd.underlying5 (hval 2 5 v2 rfl rfl) h2
  clear hA0 hval0
  have htab : Tabs W := tabs_of (Lib.laidMet.reads hL (.tail _ (.head _))) (Lib.laidMet.reads hL (.head _))
  refine (oplogFull_walk a0 cap0 l0 a1 cap1 l1 a2 W hr0 hc0 ok0 hr1 hc1 ok1 w2 htab).mono fun e W' ⟨he, bel⟩ => ?_
  subst he
  exact ⟨_, rfl, _, _, _, [], _, [], hW', trodAll_mk1 (shut_bool Tryd.underlying4 _), (trodAll_cons_mk (Below.trod laidOut (by kernel_rfl) (of_decide_eq_true (by kernel_rfl)) k0 bel lt0) (trodAll_cons_mk (Below.trod laidOut (by kernel_rfl) (of_decide_eq_true (by kernel_rfl)) k1 bel lt1) (trodAll_cons_mk (shut_int Tryd.underlying5 w2) trodAll_mk0))), rfl, bel.frame _, fun h => by cases h⟩
theorem row_holds : Rows.OplogFullSaid :=
  OpenClaim.holds_of_cond 5 Tryd.f5 rfl rfl rfl rfl rfl rfl rfl ⟨rfl, rfl, rfl, rfl, rfl⟩ rfl rfl rfl rfl rfl (by kernel_rfl) Tryd.func5 (by kernel_rfl)
    (of_decide_eq_true (by kernel_rfl)) (by unfold Func.isWrapper; first | (rw [if_pos (by decide +kernel)]; kernel_rfl) | (rw [if_neg (by decide +kernel)]; exact ⟨rfl, rfl⟩))
    (fun os started H enc _ F0 => by rw [OpenClaim.pre_eq_preRow]; exact lifted os started H enc F0)
end Go.Proofs.YtkmdmjlepmmejaaDoor.oplogFull
namespace Go.Proofs.YtkmdmjlepmmejaaDoor
open Go
theorem oplogFull_holds : Rows.OplogFullCardSaid :=
  Claim7.holds_tied_plain_at .later [] [.data, .pinned] true (true, "a1c277f66ca3d222e2fb7b606a7a703fb5baa65460a47f727c3013a7a9a2f163") true
    oplogFull.row_holds (fun _ h => by cases h) (by kernel_rfl) (fun _ h => by cases h) oplogFull_row_tie rfl ⟨rfl, rfl⟩ (by kernel_rfl) rfl
    (fun f fn hf hfn => by
      obtain rfl : f = 5 := Option.some.inj ((show Tryd.prog.funcNamed "holt/holtlaw08.OplogFull" = some 5 by kernel_rfl).symm.trans hf) |>.symm
      obtain rfl : fn = Tryd.f5 := (Option.some.inj (Tryd.func5.symm.trans hfn)).symm
      exact ⟨by kernel_rfl, fun j t ht => by
        have hm : t ∈ Tryd.f5.params.toList := List.mem_of_getElem? (by rw [Array.getElem?_toList]; exact ht)
        rw [Tryd.params5] at hm
        have hall : (Tryd.f5.params.toList.all fun t => !Tryd.prog.wantsStandIn t) = true := by kernel_rfl
        rw [Tryd.params5] at hall
        have := List.all_eq_true.1 hall t hm
        have h2 : Tryd.prog.wantsStandIn t = false := by simpa using this
        exact h2⟩)
    (by kernel_rfl)
#print axioms oplogFull_holds
end Go.Proofs.YtkmdmjlepmmejaaDoor
