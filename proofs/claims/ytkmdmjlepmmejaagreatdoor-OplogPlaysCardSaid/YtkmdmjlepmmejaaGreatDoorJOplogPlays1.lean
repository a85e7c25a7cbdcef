/-
  append(v, x...) at lists of operations, x wherever it lies, empty or not; Two logs side by side; a Put of one operation; rows that lie apart; The reference's tree: where a node is, whether it is known, whether one is above another one; Whether an operation is right: the reference's parts; The reference's Formed, as it was printed, tells what is well-formed: plain lemmas; What the reference's Right for names comes to; Whether an operation is right: the reference; The reference's tree: Apply; The reference's Sorted is the list in order; How two operations stand: the reference; The reference's log: Has, With
-/
import Derived.Test.YtkmdmjlepmmejaaGreatDoorB9
import Derived.Deep.QuietTactic
import Derived.Deep.RegionHeld3
import Derived.Test.YtkmdmjlepmmejaaGreatDoorPRightx2
import Derived.Deep.RegionLaw
import Derived.Deep.Cut
import Derived.Test.YtkmdmjlepmmejaaGreatDoorPSortedx1
/- append(v, x...) at lists of operations, x wherever it lies, empty or not. -/
namespace Go.Proofs.YtkmdmjlepmmejaaGreatDoor.Ol
open Go.RowKit Go.Sort Go.Proofs.YtkmdmjlepmmejaaGreatDoorW.PrintWords Tr

def opRKd : Kd OpR where
  sz := 5
  E := []
  K := fun _ p cs => cs = opCells p
  M := fun _ _ _ p cs => cs = opCells p
  K_len := fun h => by rw [h]; rfl
  K_one := fun h u hu => opCells_one _ u (by rw [← h]; exact hu)
  K_below := fun _ h => h
  K_of_M := fun h => h
  M_mono := fun _ h => h
  M_bound := fun h => h
  M_move := fun _ h => h
  M_lower := fun _ h => h
theorem row_of_ops {w : World} {A : Option Addr} {n : Nat} {os : List OpR} (h : OpsAt w A n os) : ReadsRow (fun p cs => cs = opCells p) 5 w A n os := by
  refine ⟨h.1, h.2.1, fun hn => ?_⟩
  obtain ⟨b, o, rfl, hc⟩ := h.2.2 hn
  refine ⟨_, rfl, fun j p hp => ⟨opCells p, rfl, rfl, fun i u hu => ?_⟩⟩
  obtain ⟨hj, rfl⟩ := List.getElem?_eq_some_iff.1 hp
  obtain ⟨k0, k1, k2, k3, k4⟩ := hc j hj
  rw [addO, ← Nat.add_assoc]
  match i, hu with
  | 0, hu => cases hu; exact k0
  | 1, hu => cases hu; exact k1
  | 2, hu => cases hu; exact k2
  | 3, hu => cases hu; exact k3
  | 4, hu => cases hu; exact k4
theorem own_empty (W : World) {B : Nat} (hB : B ≤ W.heap.size) : OwnO (W.alloc (.cells #[] 50)) B (.slice (some ⟨W.heap.size, 0, none⟩) 0 0) [] :=
  ⟨[], ⟨rfl, .inr ⟨W.heap.size, 0, #[], rfl, hB, blk_new _ _, Nat.le_refl _, by unfold maxLen; omega, rfl, rfl⟩⟩, Reps.none _ _⟩
theorem appO {w0 W : World} {ops : Array Oper} {rest : List Oper} {o : Oper} {a : Act} {Q : Exit → Act → World → Prop} (base : Nat) (hgd : o.guard = none) (s x : Operand)
    (ho : o.op = .call { callee := .builtin .append, args := #[s, x], argTypes := #[27, 27] }) (v : Value) (l news : List OpR) (A : Option Addr) (m c : Nat) (hs : a.eval s = v) (hx : a.eval x = .slice A m c)
    (HO : OwnO W base v l) (HR : OpsAt W A m news) (HB : Below base w0 W) (hbase : base ≤ W.heap.size) (hl : l.length + m ≤ 1000000)
    (h : ∀ v1 w1, OwnO w1 base v1 (l ++ news) → Below base w0 w1 → W.grownBy w1 v.ownBlock → (v1.ownBlock = v.ownBlock ∨ ∃ b, v1.ownBlock = some b ∧ W.heap.size ≤ b) → wpList Tryz.prog ops Q rest (a.put o.dst v1) w1) :
    wpList Tryz.prog ops Q (o :: rest) a W :=
  Kd.R_append_rows opRKd (Rr := fun p cs => cs = opCells p) base hgd s x 27 50 _ 48 ho Tryz.underlying27 opInfo rfl (by decide) (by decide) v l news A m c (fun _ => True) (fun _ => False) hs hx ⟨fun _ _ => trivial, HO⟩ (row_of_ops HR) (fun _ _ h => h) (fun _ hk => hk.elim) (fun _ _ => trivial) HB hbase (by omega)
    (fun v1 w1 ho hb hg hat => h v1 w1 ho.2 hb hg hat)
theorem appO_step {w0 W : World} {ops : Array Oper} {o : Oper} {a : Act} {Q : Exit → Act → World → Prop} {Kc : Act → World → Prop} (base : Nat) (hw : Region.wanted o (yielded ops a.tmps) = true) (s x : Operand)
    (ho : o.op = .call { callee := .builtin .append, args := #[s, x], argTypes := #[27, 27] }) (v : Value) (l news : List OpR) (A : Option Addr) (m c : Nat) (hs : a.eval s = v) (hx : a.eval x = .slice A m c)
    (HO : OwnO W base v l) (HR : OpsAt W A m news) (HB : Below base w0 W) (hbase : base ≤ W.heap.size) (hl : l.length + m ≤ 1000000)
    (h : ∀ v1 w1, OwnO w1 base v1 (l ++ news) → Below base w0 w1 → W.grownBy w1 v.ownBlock → (v1.ownBlock = v.ownBlock ∨ ∃ b, v1.ownBlock = some b ∧ W.heap.size ≤ b) → Kc (a.put o.dst v1) w1) :
    if Region.wanted o (yielded ops a.tmps) = true then Oper.wp Tryz.prog o a W Kc Q else Kc (a.put o.dst undef) W :=
  Kd.R_append_rows_step opRKd (Rr := fun p cs => cs = opCells p) base hw s x 27 50 _ 48 ho Tryz.underlying27 opInfo rfl (by decide) (by decide) v l news A m c (fun _ => True) (fun _ => False) hs hx ⟨fun _ _ => trivial, HO⟩ (row_of_ops HR) (fun _ _ h => h) (fun _ hk => hk.elim) (fun _ _ => trivial) HB hbase (by omega)
    (fun v1 w1 ho hb hg hat => h v1 w1 ho.2 hb hg hat)
theorem ops_take {w : World} {A : Option Addr} {n k : Nat} {os : List OpR} (h : OpsAt w A n os) (hk : k ≤ n) : OpsAt w A k (os.take k) := by
  refine ⟨by rw [List.length_take, h.1]; omega, Nat.le_trans hk h.2.1, fun hn => ?_⟩
  obtain ⟨b, o, rfl, hc⟩ := h.2.2 (by omega)
  refine ⟨b, o, rfl, fun i hi => ?_⟩
  rw [List.length_take] at hi
  rw [List.getElem_take]
  exact hc i (by omega)
theorem ops_drop {w : World} {A : Option Addr} {n k c : Nat} {os : List OpR} (h : OpsAt w A n os) (hk : k ≤ n) (hc : n ≤ c) : OpsAt w (if c = k then A else A.map (·.add (k * 5))) (n - k) (os.drop k) := by
  refine ⟨by rw [List.length_drop, h.1], by have := h.2.1; omega, fun hn => ?_⟩
  obtain ⟨b, o, rfl, hcell⟩ := h.2.2 (by omega)
  rw [if_neg (by omega)]
  refine ⟨b, o + k * 5, by rw [Option.map_some, addO], fun i hi => ?_⟩
  rw [List.length_drop] at hi
  have := hcell (k + i) (by omega)
  rw [List.getElem_drop]
  rwa [show o + (k + i) * 5 = o + k * 5 + i * 5 by omega] at this
end Go.Proofs.YtkmdmjlepmmejaaGreatDoor.Ol
/- Two logs side by side; a Put of one operation; rows that lie apart. -/
namespace Go.Proofs.YtkmdmjlepmmejaaGreatDoor.Ol
open Go.RowKit Go.Sort Go.Proofs.YtkmdmjlepmmejaaGreatDoorW.PrintWords Tr

theorem put_ok_ex {most : Int} {l ops m : List OpR} (h : ops.all opRight = true) (hm : (l.length : Int) + (newOf l ops).length ≤ most) (e : joinO l ops = m) : ∃ k c, putR most l ops = ⟨k, c, 0, m⟩ := ⟨(newOf l ops).length, chgsO l m, by rw [put_ok h hm, e]⟩
/-- A Put of one operation. -/
abbrev Put1C (w : World) (most : Int) (l : List OpR) (o : OpR) (k : Int) (nc : Nat) (er : Int) (l' : List OpR) : Prop := ∀ (W : World) (F : Nat → Prop) (p g : Nat), LogAt W F p most l → OpIn g 0 o W → Below w.heap.size w W → (∀ b, F b → w.heap.size ≤ b) →
    Calls Tryz.prog 10 #[.pointer (some ⟨p, 0, none⟩), .slice (some ⟨g, 0, none⟩) 1 1] W fun e w' => ∃ (Ac : Option Addr) (cc : Nat) (F' : Nat → Prop), e = .returned (.tuple #[.int .i64 k, .slice Ac nc cc, .int .i64 er]) ∧
      LogAt w' F' p most l' ∧ (∀ b, F' b → F b ∨ W.heap.size ≤ b) ∧ (∀ b, F' b → w.heap.size ≤ b) ∧ Tr.Touch F W w' ∧ Below w.heap.size w w'
theorem put_1 {w : World} {most : Int} {l : List OpR} {o : OpR} {k : Int} {nc : Nat} {er : Int} {l' : List OpR} (h : PutC w most l [o] k nc er l') : Put1C w most l o k nc er l' := fun W F p _ H ho hB hF => h W F p _ 1 H (OpsAt.one ho) hB hF
/-- Two logs that stand side by side. -/
structure Two (V W : World) (F : Nat → Prop) (p : Nat) (l : List OpR) (F' : Nat → Prop) (p' : Nat) (l' : List OpR) : Prop where
  bel : Below V.heap.size V W
  one : LogAt W F p 1000 l
  two : LogAt W F' p' 1000 l'
  f1 : ∀ b, F b → V.heap.size ≤ b
  f2 : ∀ b, F' b → V.heap.size ≤ b
  off : ∀ b, F b → ¬ F' b
theorem Two.below {V W W' : World} {F F' : Nat → Prop} {p p' : Nat} {l l' : List OpR} (h : Two V W F p l F' p' l') (hb : Below W.heap.size W W') : Two V W' F p l F' p' l' :=
  ⟨below_step h.bel hb, h.one.below hb, h.two.below hb, h.f1, h.f2, h.off⟩
theorem Two.left {V W W' : World} {F F' G : Nat → Prop} {p p' : Nat} {l l' m : List OpR} (h : Two V W F p l F' p' l') (hl : LogAt W' G p 1000 m) (hG : ∀ b, G b → F b ∨ W.heap.size ≤ b) (hG2 : ∀ b, G b → V.heap.size ≤ b) (ht : Tr.Touch F W W') (hb : Below V.heap.size V W') : Two V W' G p m F' p' l' :=
  ⟨hb, hl, h.two.touch ht (fun b e k => h.off b k e), hG2, h.f2, fun b e k => (hG b e).elim (fun x => h.off b x k) (fun x => by have := h.two.lt b k; omega)⟩
theorem Two.right {V W W' : World} {F F' G : Nat → Prop} {p p' : Nat} {l l' m : List OpR} (h : Two V W F p l F' p' l') (hl : LogAt W' G p' 1000 m) (hG : ∀ b, G b → F' b ∨ W.heap.size ≤ b) (hG2 : ∀ b, G b → V.heap.size ≤ b) (ht : Tr.Touch F' W W') (hb : Below V.heap.size V W') : Two V W' F p l G p' m :=
  ⟨hb, h.one.touch ht (fun b e k => h.off b e k), hl, h.f1, hG2, fun b e k => (hG b k).elim (fun x => h.off b e x) (fun x => by have := h.one.lt b e; omega)⟩
theorem fresh_row {w W : World} {v : Value} {l : List OpR} {F : Nat → Prop} (h : OwnO w W.heap.size v l) (hF : ∀ b, F b → b < W.heap.size) : ∀ b, v.ownBlock = some b → ¬ F b := fun b e hb => by
  obtain ⟨inner, hrow, _⟩ := h
  have := own_base hrow b e
  have := hF b hb
  omega
theorem row_off {W : World} {B : Nat} {v : Value} {l : List OpR} {F F' : Nat → Prop} (h : OwnO W B v l) (hn : ∀ b, v.ownBlock = some b → ¬ F b) (hF : ∀ b, F' b → F b ∨ W.heap.size ≤ b) : ∀ b, v.ownBlock = some b → ¬ F' b := fun b e hb => by
  obtain ⟨inner, hrow, _⟩ := h
  have := own_lt hrow b e
  rcases hF b hb with h1 | h1
  · exact hn b e h1
  · omega
theorem row_lt {W : World} {B : Nat} {v : Value} {l : List OpR} (h : OwnO W B v l) : ∀ b, v.ownBlock = some b → b < W.heap.size := fun b e => by
  obtain ⟨inner, hrow, _⟩ := h
  exact own_lt hrow b e
theorem rows_apart {W W' : World} {B : Nat} {v v' : Value} {l l' : List OpR} (h : OwnO W B v l) (k : OwnO W' W.heap.size v' l') : ∀ b, v.ownBlock = some b → v'.ownBlock ≠ some b := fun b e e' => by
  obtain ⟨inner, hrow, _⟩ := h
  obtain ⟨inner', hrow', _⟩ := k
  have := own_lt hrow b e
  have := own_base hrow' b e'
  omega
theorem ops_of_own {W : World} {B : Nat} {A : Option Addr} {c a : Nat} {l : List OpR} (e : l.length = a) (h : OwnO W B (.slice A a c) l) : OpsAt W A a l := by
  obtain ⟨A', c', he, _, hr⟩ := OwnO.ops h
  cases he
  exact hr
theorem kids_of_own {W : World} {B : Nat} {A : Option Addr} {c a : Nat} {l : List KidR} (e : l.length = a) (h : OwnK W B (.slice A a c) l) : KidsAt W A a l := by
  obtain ⟨A', c', he, _, hr⟩ := OwnK.kids h
  cases he
  exact hr
theorem own_rowB {W : World} {B : Nat} {v : Value} {l : List OpR} (h : OwnO W B v l) : ∀ g, v.ownBlock = some g → RowB W g l.length := fun g e => by
  obtain ⟨inner, hrow, _⟩ := h
  rcases hrow.2 with ⟨rfl, _⟩ | ⟨g', cap, cur, rfl, _, hg, h1, _, h3, _⟩
  · cases e
  · cases e
    exact ⟨cur, hg, by rw [h3]; exact Nat.mul_le_mul_right 5 h1⟩
theorem own_addr {W : World} {B n c : Nat} {A : Option Addr} {l : List OpR} (h : OwnO W B (.slice A n c) l) (hl : 0 < n) : ∃ g, A = some ⟨g, 0, none⟩ ∧ B ≤ g := by
  obtain ⟨inner, hrow, _⟩ := h
  rcases hrow.2 with ⟨h', _⟩ | ⟨g, cap, cur, h', hb, _⟩
  · cases h'; omega
  · cases h'
    exact ⟨g, rfl, hb⟩
theorem same_self {us : List OpR} : sameO us us = true := by simp [sameO]
theorem samek_self {us : List KidR} : sameK us us = true := by simp [sameK]
end Go.Proofs.YtkmdmjlepmmejaaGreatDoor.Ol
/- The reference's tree: where a node is, whether it is known, whether one is above another one. -/
namespace Go.Proofs.YtkmdmjlepmmejaaGreatDoor.Ol
open Go.RowKit Go.Sort Go.Proofs.YtkmdmjlepmmejaaGreatDoorW.PrintWords Tr

theorem look_at {l : List KidR} {x : Int} {i : Nat} (hi : i < l.length) (h : lookT (l.take i) x = none) (he : l[i].node = x) : lookT l x = some l[i].sp := by
  have e : l = l.take i ++ l[i] :: l.drop (i + 1) := by
    conv => lhs; rw [← List.take_append_drop i l]
    rw [List.drop_eq_getElem_cons hi]
  have h2 : lookT l x = lookT (l.take i ++ l[i] :: l.drop (i + 1)) x := congrArg (fun m => lookT m x) e
  rw [h2, lookT_append, h]
  simp [lookT, he]
theorem look_take {l : List KidR} {x : Int} {i : Nat} (hi : i < l.length) (h : lookT (l.take i) x = none) (he : l[i].node ≠ x) : lookT (l.take (i + 1)) x = none := by
  rw [List.take_succ_eq_append_getElem hi, lookT_append, h]
  simp [lookT, he]
set_option maxHeartbeats 1000000 in
theorem at_calls (A : Option Addr) (n c : Nat) (l : List KidR) (x : Int) (w : World) (h : KidsAt w A n l) (hn : n ≤ 1000000) :
    Calls Tryz.prog 85 #[.slice A n c, .int .i64 x] w fun e w' => ∃ r : Int, e = .returned (.int .i64 r) ∧ w' = w ∧ ((r < 0 ∧ lookT l x = none) ∨ ∃ (i : Nat) (hi : i < l.length), r = (i : Int) ∧ l[i].node = x ∧ lookT l x = some l[i].sp) := by
  have HA := Lib.hid h
  clear h
  go_enter Tryz.func85, Tryz.ntmps85
  go_wp2
  go_loopw [5] (fun vi V => ∃ i : Nat, vi = .int .i64 i ∧ i ≤ n ∧ Hid (lookT (l.take i) x = none) ∧ V = w) (fun vi _ => (n - (RowKit.intOf vi).toNat))
  case atStart => exact ⟨0, rfl, by omega, Lib.hid rfl, rfl⟩
  case round =>
    obtain ⟨i, rfl, hi, HN, rfl⟩ := hrel
    by_cases hlt : i < n
    · have hl : i < l.length := by rw [HA.out.1]; exact hlt
      obtain ⟨b, o, rfl, hcell⟩ := HA.out.2.2 (show 0 < n by omega)
      obtain ⟨m0, m1, m2⟩ := hcell i hl
      have hi1 : (0 : Int) ≤ (i : Int) := by omega
      have hi2 : (i : Int) < (n : Int) := by omega
      by_cases he : l[i].node = x
      · have HR := Lib.hid (look_at hl HN.out he)
        have he2 := he
        rw [he] at m2
        clear hcell m0 m1 he
        go_wp2
        go_ret
        exact ⟨_, rfl, rfl, .inr ⟨i, hl, rfl, he2, HR.out⟩⟩
      · have HR := Lib.hid (look_take hl HN.out he)
        generalize l[i].node = y at *
        clear hcell m0 m1 hl
        go_wp2
        go_roundw
        case rel => exact ⟨i + 1, by go_num, by omega, HR, by trivial⟩
        case measure => simp [RowKit.intOf] <;> omega
    · obtain rfl : i = n := by omega
      have hall := HN.out
      rw [List.take_of_length_le (by rw [HA.out.1]; exact Nat.le_refl _)] at hall
      have HALL := Lib.hid hall
      clear hall
      go_wp2
      go_ret
      exact ⟨-1, rfl, rfl, .inl ⟨by decide, HALL.out⟩⟩
/-- The reference's tree in memory: its nodes, all blocks from B on. -/
def RT (W : World) (B p : Nat) (l : List KidR) (n : Nat) : Prop :=
  ∃ (A : Option Addr) (c : Nat) (vw : Value) (ws : List Value), W.heap[p]? = some (.cells #[.slice A l.length c, vw] 86 (0, 0)) ∧ OwnK W B (.slice A l.length c) l ∧ W.ownsRow B 42 1 vw n ws ∧ B ≤ p
theorem RT.below {W W' : World} {B p : Nat} {l : List KidR} {n : Nat} (h : RT W B p l n) (hb : Below W.heap.size W W') : RT W' B p l n := by
  obtain ⟨A, c, vw, ws, h1, h2, h3, h4⟩ := h
  exact ⟨A, c, vw, ws, blk_below h1 hb, OwnRow.below h2 hb, own_move h3 (fun k hk => hb.block k (own_lt h3 k hk)), h4⟩
theorem RT.reads {W : World} {B p : Nat} {l : List KidR} {n : Nat} (h : RT W B p l n) : ∃ A c, W.cell? ⟨p, 0, none⟩ = some (.slice A l.length c) ∧ KidsAt W A l.length l ∧ p < W.heap.size := by
  obtain ⟨A, c, vw, ws, h1, h2, h3, h4⟩ := h
  obtain ⟨A', c', e, _, hr⟩ := OwnK.kids h2
  cases e
  have := blk_cell h1 0
  simp at this
  exact ⟨A, c, this, hr, blk_lt h1⟩
set_option maxHeartbeats 1000000 in
theorem rspot_calls (W : World) (B p : Nat) (l : List KidR) (k : Nat) (x : Int) (H : RT W B p l k) (hl : l.length ≤ 1000000) :
    Calls Tryz.prog 66 #[.pointer (some ⟨p, 0, none⟩), .int .i64 x] W fun e w' => e = .returned (osV (lookT l x)) ∧ Below W.heap.size W w' := by
  obtain ⟨A, c, c0, hr, hlt⟩ := H.reads
  have HAT := Lib.hid (fun (V : World) (hV : Below W.heap.size W V) => at_calls A l.length c l x V (hr.below hV) hl)
  have HR := Lib.hid hr
  have HB := Lib.hid (Below.refl W.heap.size W)
  have C0 := Lib.hid c0
  clear H hr
  go_enter Tryz.func66, Tryz.ntmps66
  go_upto_region 2 with (first
    | (go_at_call 85; (refine (HAT.out _ (by repeat (first | (with_reducible exact HB.out) | apply below_alloc | apply pw_below_drewN | apply below_drew1 | exact HB.out))).mono ?_); rintro e w1 ⟨r, rfl, rfl, hr⟩)
    | (fail "no arm"))
  rcases hr with ⟨hr1, hr2⟩ | ⟨i, hi, rfl, -, hr2⟩
  · go_wp2
    exact bodyPost_ret (by simp [results, Tryz.results66, go_sem]; try rfl) rfl ⟨by rw [hr2]; rfl, (by repeat (first | (with_reducible exact HB.out) | apply below_alloc | apply pw_below_drewN | apply below_drew1 | exact HB.out))⟩
  · obtain ⟨b, o, rfl, hcell⟩ := HR.out.2.2 (by omega)
    obtain ⟨m0, m1, -⟩ := hcell i hi
    have hbl := cell_lt m0
    have hi1 : (0 : Int) ≤ (i : Int) := by omega
    have hi2 : (i : Int) < (l.length : Int) := by omega
    have HV := Lib.hid (show osV (lookT l x) = .agg #[.bool true, .int .i64 l[i].par, .string l[i].name] from by rw [hr2]; rfl)
    generalize l[i].par = kp at *
    generalize l[i].name = kn at *
    clear hcell hr2 HAT HR hi hl
    generalize l.length = ln at *
    go_wp2
    go_region
    all_goals (go_wp2; exact bodyPost_ret (by simp [results, Tryz.results66, go_sem]; try rfl) rfl ⟨by rw [HV.out], (by repeat (first | (with_reducible exact HB.out) | apply below_alloc | apply pw_below_drewN | apply below_drew1 | exact HB.out))⟩)
set_option maxHeartbeats 1000000 in
theorem rknown_calls (W : World) (B p : Nat) (l : List KidR) (k : Nat) (x : Int) (H : RT W B p l k) (hl : l.length ≤ 1000000) :
    Calls Tryz.prog 71 #[.pointer (some ⟨p, 0, none⟩), .int .i64 x] W fun e w' => e = .returned (.bool (known l x)) ∧ w' = W := by
  obtain ⟨A, c, c0, hr, hlt⟩ := H.reads
  have HAT := Lib.hid (at_calls A l.length c l x W hr hl)
  have HK := Lib.hid (show known l x = ((lookT l x).isSome || (x == 0 || x == 1)) from rfl)
  clear H hr
  by_cases h0 : x = 0
  · subst h0
    go_enter Tryz.func71, Tryz.ntmps71
    go_wp2
    go_ret
    rw [HK.out]
    simp
  · by_cases h1 : x = 1
    · subst h1
      go_enter Tryz.func71, Tryz.ntmps71
      go_wp2
      go_ret
      rw [HK.out]
      simp
    · go_enter Tryz.func71, Tryz.ntmps71
      go_wp2_with (first
        | (go_at_call 85; (refine HAT.out.mono ?_); rintro e w1 ⟨r, rfl, rfl, hr⟩)
        | (fail "no arm"))
      go_ret
      rw [HK.out]
      rcases hr with ⟨h2, h3⟩ | ⟨i, hi, h2, _, h3⟩
      · rw [h3]; simp [h0, h1]; omega
      · rw [h3]; simp; omega
set_option maxHeartbeats 1000000 in
theorem rabove_calls (W : World) (B p : Nat) (l : List KidR) (k : Nat) (a b : Int) (H : RT W B p l k) (hl : l.length ≤ 1000000) :
    Calls Tryz.prog 72 #[.pointer (some ⟨p, 0, none⟩), .int .i64 a, .int .i64 b] W fun e w' => e = .returned (.bool (above l a b)) ∧ w' = W := by
  obtain ⟨A, c, c0, hr, hlt⟩ := H.reads
  have HKN := Lib.hid (rknown_calls W B p l k b H hl)
  have HAT := Lib.hid (fun x => at_calls A l.length c l x W hr hl)
  have HAB := Lib.hid (show above l a b = (known l b && upN l a (l.length + 1) b) from rfl)
  have HR := Lib.hid hr
  clear H hr
  cases hk : known l b with
  | false =>
    rw [hk] at HKN HAB
    go_enter Tryz.func72, Tryz.ntmps72
    go_wp2_with (first
      | (go_at_call 71; (refine HKN.out.mono ?_); rintro e w1 ⟨rfl, rfl⟩)
      | (fail "no arm"))
    go_ret
    rw [HAB.out]
    exact ⟨rfl, rfl⟩
  | true =>
    rw [hk, Bool.true_and] at HAB
    rw [hk] at HKN
    go_enter Tryz.func72, Tryz.ntmps72
    go_wp2_with (first
      | (go_at_call 71; (refine HKN.out.mono ?_); rintro e w1 ⟨rfl, rfl⟩)
      | (fail "no arm"))
    go_loopw [2, 8] (fun vb vi V => ∃ (i : Nat) (y : Int), vb = .int .i64 y ∧ vi = .int .i64 i ∧ i ≤ l.length + 1 ∧ Hid (upN l a (l.length + 1) b = upN l a (l.length + 1 - i) y) ∧ V = w1) (fun _ vi _ => (l.length + 1 - (RowKit.intOf vi).toNat))
    case atStart => exact ⟨0, b, rfl, rfl, by omega, Lib.hid rfl, rfl⟩
    case round =>
      obtain ⟨i, y, rfl, rfl, hi, HU, rfl⟩ := hrel
      by_cases hle : i ≤ l.length
      · have hi2 : (i : Int) ≤ (l.length : Int) := by omega
        have hs : upN l a (l.length + 1 - i) y = if y = a then true else match lookT l y with | none => false | some s => upN l a (l.length - i) s.1 := by
          rw [show l.length + 1 - i = (l.length - i) + 1 by omega]; rfl
        by_cases hya : a = y
        · subst hya
          rw [if_pos rfl] at hs
          have HRES := Lib.hid (show above l a b = true by rw [HAB.out, HU.out, hs])
          clear hs
          go_wp2
          go_ret
          rw [HRES.out]
          exact ⟨rfl, rfl⟩
        · rw [if_neg (fun e => hya e.symm)] at hs
          have HS := Lib.hid hs
          clear hs
          go_upto_region 10 with (first
            | (go_at_call 85; (refine (HAT.out y).mono ?_); rintro e w1 ⟨r, rfl, rfl, hr⟩)
            | (fail "no arm"))
          rcases hr with ⟨hr1, hr2⟩ | ⟨j, hj, rfl, -, hr2⟩
          · have HRES := Lib.hid (show above l a b = false by rw [HAB.out, HU.out, HS.out, hr2])
            clear hr2
            go_wp2
            go_ret
            rw [HRES.out]
            exact ⟨rfl, rfl⟩
          · obtain ⟨bb, oo, rfl, hcell⟩ := HR.out.2.2 (by omega)
            obtain ⟨m0, _, _⟩ := hcell j hj
            have hj1 : (0 : Int) ≤ (j : Int) := by omega
            have hj2 : (j : Int) < (l.length : Int) := by omega
            have HUN := Lib.hid (show upN l a (l.length + 1) b = upN l a (l.length + 1 - (i + 1)) l[j].par by
              rw [HU.out, HS.out, hr2, show l.length + 1 - (i + 1) = l.length - i by omega]; rfl)
            generalize l[j].par = yp at *
            clear hr2 hcell
            go_wp2
            go_roundw
            case rel => exact ⟨i + 1, yp, rfl, by go_num, by omega, HUN, by trivial⟩
            case measure => simp [RowKit.intOf] <;> omega
      · obtain rfl : i = l.length + 1 := by omega
        have HRES := Lib.hid (show above l a b = false by rw [HAB.out, HU.out, Nat.sub_self]; rfl)
        have hi3 : ¬ ((l.length : Int) + 1 ≤ (l.length : Int)) := by omega
        go_wp2
        go_ret
        rw [HRES.out]
        exact ⟨rfl, rfl⟩
end Go.Proofs.YtkmdmjlepmmejaaGreatDoor.Ol
/- Whether an operation is right: the reference's parts. -/
namespace Go.Proofs.YtkmdmjlepmmejaaGreatDoor
open Go.RowKit Go.Proofs.YtkmdmjlepmmejaaGreatDoorW.PrintWords

theorem rnode_f (n : Int) : PRight.holtref05_Node.f n = some (nodeR n) := by
  unfold PRight.holtref05_Node.f nodeR
  by_cases h : n ≥ 256
  · rw [if_pos h, decide_eq_true h, Bool.true_and]
  · rw [if_neg h, decide_eq_false h, Bool.false_and]
theorem rstamp_f (n r : Int) : PRight.holtref04_Right.f n r = some (stampR n r) := by
  unfold PRight.holtref04_Right.f stampR
  have e2 : decide (n ≤ 16777215) = decide (n < 16777216) := decide_eq_decide.2 (by omega)
  by_cases h1 : n > 0
  · by_cases h2 : n < 16777216
    · by_cases h3 : r ≥ 0
      · rw [if_pos h1, if_pos h2, if_pos h3, e2, decide_eq_true (show 1 ≤ n by omega), decide_eq_true h2, decide_eq_true h3]; rfl
      · rw [if_pos h1, if_pos h2, if_neg h3, decide_eq_false h3]; simp
    · rw [if_pos h1, if_neg h2, e2, decide_eq_false h2]; simp
  · rw [if_neg h1, decide_eq_false (show ¬ 1 ≤ n by omega)]; simp
theorem rnode_calls (n : Int) (w : World) : Calls Tryz.prog 64 #[.int .i64 n] w fun e w' => e = .returned (.bool (nodeR n)) ∧ ∃ m, w' = w.drewN m :=
  (PRight.holtref05_Node.calls n _ w (rnode_f n)).mono fun _ _ ⟨he, h⟩ => ⟨he, h.out⟩
theorem rstamp_calls (n r : Int) (w : World) : Calls Tryz.prog 62 #[.agg #[.int .i64 n, .int .i64 r]] w fun e w' => e = .returned (.bool (stampR n r)) ∧ Below w.heap.size w w' :=
  PRight.holtref04_Right.calls n r _ w (rstamp_f n r)

end Go.Proofs.YtkmdmjlepmmejaaGreatDoor
/- The reference's Formed, as it was printed, tells what is well-formed: plain lemmas. -/
namespace Go.Proofs.YtkmdmjlepmmejaaGreatDoor
open Go.RowKit Go.Proofs.YtkmdmjlepmmejaaGreatDoorW.PrintWords Go.Lib
open PRight

theorem tails_at (c : Nat) (h : c < 256) : holtref03_tails.f 4 (c : Int) = some (
    if c < 128 then (0, 128, 191) else if 194 ≤ c ∧ c ≤ 223 then (1, 128, 191) else if c = 224 then (2, 160, 191) else if c = 237 then (2, 128, 159)
    else if 225 ≤ c ∧ c ≤ 239 then (2, 128, 191) else if c = 240 then (3, 144, 191) else if 241 ≤ c ∧ c ≤ 243 then (3, 128, 191) else if c = 244 then (3, 128, 143) else (-1, 0, 0)) := by
  have key : ∀ c : Fin 256, holtref03_tails.f 4 (c.val : Int) = some (
    if c.val < 128 then (0, 128, 191) else if 194 ≤ c.val ∧ c.val ≤ 223 then (1, 128, 191) else if c.val = 224 then (2, 160, 191) else if c.val = 237 then (2, 128, 159)
    else if 225 ≤ c.val ∧ c.val ≤ 239 then (2, 128, 191) else if c.val = 240 then (3, 144, 191) else if 241 ≤ c.val ∧ c.val ≤ 243 then (3, 128, 191) else if c.val = 244 then (3, 128, 143) else (-1, 0, 0)) := by decide +kernel
  exact key ⟨c, h⟩
theorem tails_ge (k c : Nat) (h : c < 256) (hk : 4 ≤ k) : holtref03_tails.f k (c : Int) = some (
    if c < 128 then (0, 128, 191) else if 194 ≤ c ∧ c ≤ 223 then (1, 128, 191) else if c = 224 then (2, 160, 191) else if c = 237 then (2, 128, 159)
    else if 225 ≤ c ∧ c ≤ 239 then (2, 128, 191) else if c = 240 then (3, 144, 191) else if 241 ≤ c ∧ c ≤ 243 then (3, 128, 191) else if c = 244 then (3, 128, 143) else (-1, 0, 0)) :=
  at_rounds (g := fun k => holtref03_tails.f k (c : Int)) (fun k => holtref03_tails.mono _ k) hk (tails_at c h)

theorem bt_bN (s : ByteArray) (i j : Nat) : bt s ((i : Int) + j) = ((bN (s.data.toList.drop i) j : Nat) : Int) := by
  have e : ((i : Int) + j) = ((i + j : Nat) : Int) := by omega
  rw [e]
  unfold bt bN
  rw [Int.toNat_natCast, List.getD_eq_getElem?_getD, List.getElem?_drop]
  split
  · rename_i h
    rw [List.getElem?_eq_getElem (by rw [Array.length_toList]; exact h)]
    rfl
  · rename_i h
    rw [List.getElem?_eq_none (by rw [Array.length_toList]; exact Nat.le_of_not_lt h)]
    rfl

theorem wr_end (i n m : Nat) (hi : i ≤ 1000000) (hn : n ≤ 3) (hm : m = n + 1) : wrap64 (wrap64 ((i : Int) + 1) + (n : Int)) = ((i + m : Nat) : Int) := by
  subst hm
  unfold wrap64; omega
section
variable (s : ByteArray) (i : Nat) (hs : s.size ≤ 1000000)
include hs
theorem l1_0 (k : Nat) (lo hi : Int) (hi1 : i + 0 < s.size) : holtref03_Formed.l1 (k + 1) s i 0 lo hi 1 = holtref03_Formed.l0 k s ((i + 1 : Nat) : Int) := by
  rw [holtref03_Formed.l1, if_neg (by omega)]
  congr 1
  exact wr_end i 0 1 (by omega) (by omega) rfl
theorem l1_1 (k : Nat) (lo hi : Int) (hi1 : i + 1 < s.size) : holtref03_Formed.l1 (k + 2) s i 1 lo hi 1 =
    if lo ≤ (bN (s.data.toList.drop i) 1 : Int) ∧ (bN (s.data.toList.drop i) 1 : Int) ≤ hi then holtref03_Formed.l0 k s ((i + 2 : Nat) : Int) else some false := by
  have w1 : wrap64 ((i : Int) + 1) = (i : Int) + (1 : Nat) := by unfold wrap64; omega
  rw [holtref03_Formed.l1, if_pos (by omega), w1, if_pos (by omega), if_pos (by omega), bt_bN]
  by_cases h1 : (bN (s.data.toList.drop i) 1 : Int) < lo
  · rw [if_pos h1, if_neg (by omega)]
  · rw [if_neg h1]
    by_cases h2 : (bN (s.data.toList.drop i) 1 : Int) > hi
    · rw [if_pos h2, if_neg (by omega)]
    · rw [if_neg h2, if_pos (by omega), show wrap64 (1 + 1) = 2 by unfold wrap64; omega, holtref03_Formed.l1, if_neg (by omega)]
      congr 1
      exact wr_end i 1 2 (by omega) (by omega) rfl
theorem l1_2 (k : Nat) (lo hi : Int) (hi1 : i + 2 < s.size) : holtref03_Formed.l1 (k + 3) s i 2 lo hi 1 =
    if (lo ≤ (bN (s.data.toList.drop i) 1 : Int) ∧ (bN (s.data.toList.drop i) 1 : Int) ≤ hi) ∧ (128 ≤ bN (s.data.toList.drop i) 2 ∧ bN (s.data.toList.drop i) 2 ≤ 191) then holtref03_Formed.l0 k s ((i + 3 : Nat) : Int) else some false := by
  have w1 : wrap64 ((i : Int) + 1) = (i : Int) + (1 : Nat) := by unfold wrap64; omega
  have w2 : wrap64 ((i : Int) + 2) = (i : Int) + (2 : Nat) := by unfold wrap64; omega
  rw [holtref03_Formed.l1, if_pos (by omega), w1, if_pos (by omega), if_pos (by omega), bt_bN]
  by_cases h1 : (bN (s.data.toList.drop i) 1 : Int) < lo
  · rw [if_pos h1, if_neg (by omega)]
  · rw [if_neg h1]
    by_cases h2 : (bN (s.data.toList.drop i) 1 : Int) > hi
    · rw [if_pos h2, if_neg (by omega)]
    · rw [if_neg h2, show wrap64 (1 + 1) = 2 by unfold wrap64; omega, holtref03_Formed.l1, if_pos (by omega), w2, if_pos (by omega), if_pos (by omega), bt_bN]
      by_cases h3 : (bN (s.data.toList.drop i) 2 : Int) < 128
      · rw [if_pos h3, if_neg (by omega)]
      · rw [if_neg h3]
        by_cases h4 : (bN (s.data.toList.drop i) 2 : Int) > 191
        · rw [if_pos h4, if_neg (by omega)]
        · rw [if_neg h4, if_pos (by omega), show wrap64 (2 + 1) = 3 by unfold wrap64; omega, holtref03_Formed.l1, if_neg (by omega)]
          congr 1
          exact wr_end i 2 3 (by omega) (by omega) rfl
theorem l1_3 (k : Nat) (lo hi : Int) (hi1 : i + 3 < s.size) : holtref03_Formed.l1 (k + 4) s i 3 lo hi 1 =
    if (lo ≤ (bN (s.data.toList.drop i) 1 : Int) ∧ (bN (s.data.toList.drop i) 1 : Int) ≤ hi) ∧ (128 ≤ bN (s.data.toList.drop i) 2 ∧ bN (s.data.toList.drop i) 2 ≤ 191) ∧ (128 ≤ bN (s.data.toList.drop i) 3 ∧ bN (s.data.toList.drop i) 3 ≤ 191) then holtref03_Formed.l0 k s ((i + 4 : Nat) : Int) else some false := by
  have w1 : wrap64 ((i : Int) + 1) = (i : Int) + (1 : Nat) := by unfold wrap64; omega
  have w2 : wrap64 ((i : Int) + 2) = (i : Int) + (2 : Nat) := by unfold wrap64; omega
  have w3 : wrap64 ((i : Int) + 3) = (i : Int) + (3 : Nat) := by unfold wrap64; omega
  rw [holtref03_Formed.l1, if_pos (by omega), w1, if_pos (by omega), if_pos (by omega), bt_bN]
  by_cases h1 : (bN (s.data.toList.drop i) 1 : Int) < lo
  · rw [if_pos h1, if_neg (by omega)]
  · rw [if_neg h1]
    by_cases h2 : (bN (s.data.toList.drop i) 1 : Int) > hi
    · rw [if_pos h2, if_neg (by omega)]
    · rw [if_neg h2, show wrap64 (1 + 1) = 2 by unfold wrap64; omega, holtref03_Formed.l1, if_pos (by omega), w2, if_pos (by omega), if_pos (by omega), bt_bN]
      by_cases h3 : (bN (s.data.toList.drop i) 2 : Int) < 128
      · rw [if_pos h3, if_neg (by omega)]
      · rw [if_neg h3]
        by_cases h4 : (bN (s.data.toList.drop i) 2 : Int) > 191
        · rw [if_pos h4, if_neg (by omega)]
        · rw [if_neg h4, show wrap64 (2 + 1) = 3 by unfold wrap64; omega, holtref03_Formed.l1, if_pos (by omega), w3, if_pos (by omega), if_pos (by omega), bt_bN]
          by_cases h5 : (bN (s.data.toList.drop i) 3 : Int) < 128
          · rw [if_pos h5, if_neg (by omega)]
          · rw [if_neg h5]
            by_cases h6 : (bN (s.data.toList.drop i) 3 : Int) > 191
            · rw [if_pos h6, if_neg (by omega)]
            · rw [if_neg h6, if_pos (by omega), show wrap64 (3 + 1) = 4 by unfold wrap64; omega, holtref03_Formed.l1, if_neg (by omega)]
              congr 1
              exact wr_end i 3 4 (by omega) (by omega) rfl
theorem br (k n : Nat) (lo hi : Int) (hn : n ≤ 3) (hsz : i < s.size) : holtref03_Formed.j1 (k + 9) s i n lo hi (decide (wrap64 ((i : Int) + n) ≥ (s.size : Int))) =
    if i + n < s.size ∧ (1 ≤ n → lo ≤ (bN (s.data.toList.drop i) 1 : Int) ∧ (bN (s.data.toList.drop i) 1 : Int) ≤ hi) ∧ (2 ≤ n → 128 ≤ bN (s.data.toList.drop i) 2 ∧ bN (s.data.toList.drop i) 2 ≤ 191) ∧ (3 ≤ n → 128 ≤ bN (s.data.toList.drop i) 3 ∧ bN (s.data.toList.drop i) 3 ≤ 191)
    then holtref03_Formed.l0 (k + 7 - n) s ((i + (n + 1) : Nat) : Int) else some false := by
  have w1 : wrap64 ((i : Int) + n) = (i : Int) + n := by unfold wrap64; omega
  rw [holtref03_Formed.j1, w1]
  by_cases hin : i + n < s.size
  · rw [if_neg (by simp; omega)]
    match n, hn with
    | 0, _ => rw [show k + 8 = (k + 7) + 1 by omega, show ((0 : Nat) : Int) = 0 from rfl, l1_0 s i hs _ _ _ hin, if_pos ⟨hin, by omega, by omega, by omega⟩]; rfl
    | 1, _ =>
      rw [show k + 8 = (k + 6) + 2 by omega, show ((1 : Nat) : Int) = 1 from rfl, l1_1 s i hs _ _ _ hin]
      by_cases h : lo ≤ (bN (s.data.toList.drop i) 1 : Int) ∧ (bN (s.data.toList.drop i) 1 : Int) ≤ hi
      · rw [if_pos h, if_pos ⟨hin, fun _ => h, by omega, by omega⟩]; rfl
      · rw [if_neg h, if_neg (fun hh => h (hh.2.1 (by omega)))]
    | 2, _ =>
      rw [show k + 8 = (k + 5) + 3 by omega, show ((2 : Nat) : Int) = 2 from rfl, l1_2 s i hs _ _ _ hin]
      by_cases h : (lo ≤ (bN (s.data.toList.drop i) 1 : Int) ∧ (bN (s.data.toList.drop i) 1 : Int) ≤ hi) ∧ (128 ≤ bN (s.data.toList.drop i) 2 ∧ bN (s.data.toList.drop i) 2 ≤ 191)
      · rw [if_pos h, if_pos ⟨hin, fun _ => h.1, fun _ => h.2, by omega⟩]; rfl
      · rw [if_neg h, if_neg (fun hh => h ⟨hh.2.1 (by omega), hh.2.2.1 (by omega)⟩)]
    | 3, _ =>
      rw [show k + 8 = (k + 4) + 4 by omega, show ((3 : Nat) : Int) = 3 from rfl, l1_3 s i hs _ _ _ hin]
      by_cases h : (lo ≤ (bN (s.data.toList.drop i) 1 : Int) ∧ (bN (s.data.toList.drop i) 1 : Int) ≤ hi) ∧ (128 ≤ bN (s.data.toList.drop i) 2 ∧ bN (s.data.toList.drop i) 2 ≤ 191) ∧ (128 ≤ bN (s.data.toList.drop i) 3 ∧ bN (s.data.toList.drop i) 3 ≤ 191)
      · rw [if_pos h, if_pos ⟨hin, fun _ => h.1, fun _ => h.2.1, fun _ => h.2.2⟩]; rfl
      · rw [if_neg h, if_neg (fun hh => h ⟨hh.2.1 (by omega), hh.2.2.1 (by omega), hh.2.2.2 (by omega)⟩)]
  · rw [if_pos (by simp; omega), if_neg (fun hh => hin hh.1)]
theorem l0_step (k : Nat) (hsz : i < s.size) : (∃ m k', stepL (s.data.toList.drop i) = some m ∧ k ≤ k' ∧ holtref03_Formed.l0 (k + 10) s i = holtref03_Formed.l0 k' s ((i + m : Nat) : Int)) ∨
    (stepL (s.data.toList.drop i) = none ∧ holtref03_Formed.l0 (k + 10) s i = some false) := by
  have hlen : (s.data.toList.drop i).length = s.size - i := by rw [List.length_drop, Array.length_toList]; rfl
  have hb0 := bt_bN s i 0
  rw [show ((i : Int) + ((0 : Nat) : Int)) = (i : Int) by omega] at hb0
  have hc := bN_lt (s.data.toList.drop i) 0
  have h1lt := bN_lt (s.data.toList.drop i) 1
  have e : stepL (s.data.toList.drop i) = stepN (s.size - i) (bN (s.data.toList.drop i) 0) (bN (s.data.toList.drop i) 1) (bN (s.data.toList.drop i) 2) (bN (s.data.toList.drop i) 3) := by unfold stepL; rw [hlen]
  rw [e]
  rw [holtref03_Formed.l0, if_pos (by omega), if_pos (by omega), hb0, tails_ge (k + 9) _ hc (by omega)]
  have b := br s i hs k
  generalize bN (s.data.toList.drop i) 0 = c at *
  generalize bN (s.data.toList.drop i) 1 = c1 at *
  generalize bN (s.data.toList.drop i) 2 = c2 at *
  generalize bN (s.data.toList.drop i) 3 = c3 at *
  simp only [Option.bind_some]
  have fin : ∀ (n : Nat) (lo hi : Int) (X : Option Nat), n ≤ 3 → (X = if i + n < s.size ∧ (1 ≤ n → lo ≤ (c1 : Int) ∧ (c1 : Int) ≤ hi) ∧ (2 ≤ n → 128 ≤ c2 ∧ c2 ≤ 191) ∧ (3 ≤ n → 128 ≤ c3 ∧ c3 ≤ 191) then some (n + 1) else none) →
      (∃ m k', X = some m ∧ k ≤ k' ∧ holtref03_Formed.j1 (k + 9) s i n lo hi (decide (wrap64 ((i : Int) + n) ≥ (s.size : Int))) = holtref03_Formed.l0 k' s ((i + m : Nat) : Int)) ∨ (X = none ∧ holtref03_Formed.j1 (k + 9) s i n lo hi (decide (wrap64 ((i : Int) + n) ≥ (s.size : Int))) = some false) := by
    intro n lo hi X hn hX
    rw [b n lo hi hn hsz, hX]
    by_cases hcond : i + n < s.size ∧ (1 ≤ n → lo ≤ (c1 : Int) ∧ (c1 : Int) ≤ hi) ∧ (2 ≤ n → 128 ≤ c2 ∧ c2 ≤ 191) ∧ (3 ≤ n → 128 ≤ c3 ∧ c3 ≤ 191)
    · rw [if_pos hcond, if_pos hcond]; exact .inl ⟨n + 1, _, rfl, by omega, rfl⟩
    · rw [if_neg hcond, if_neg hcond]; exact .inr ⟨rfl, rfl⟩
  have pick : ∀ (A B : Prop) [Decidable A] [Decidable B] (x : Nat), (A ↔ B) → (if A then some x else none) = (if B then some x else (none : Option Nat)) := by
    intro A B _ _ x h
    by_cases hA : A
    · rw [if_pos hA, if_pos (h.1 hA)]
    · rw [if_neg hA, if_neg (fun hB => hA (h.2 hB))]
  unfold stepN
  by_cases d0 : c < 128
  · rw [if_pos d0, if_pos d0, if_neg (show ¬ ((0, 128, 191) : Int × Int × Int).1 < 0 by decide)]
    exact fin 0 128 191 _ (by omega) (by rw [if_pos ⟨by omega, by omega, by omega, by omega⟩])
  · rw [if_neg d0, if_neg d0]
    by_cases d1 : 194 ≤ c ∧ c ≤ 223
    · rw [if_pos d1, if_pos d1, if_neg (show ¬ ((1, 128, 191) : Int × Int × Int).1 < 0 by decide)]
      exact fin 1 128 191 _ (by omega) (pick _ _ 2 (by omega))
    · rw [if_neg d1, if_neg d1]
      by_cases d2 : c = 224
      · rw [if_pos d2, if_pos d2, if_neg (show ¬ ((2, 160, 191) : Int × Int × Int).1 < 0 by decide)]
        exact fin 2 160 191 _ (by omega) (pick _ _ 3 (by omega))
      · rw [if_neg d2, if_neg d2]
        by_cases d3 : c = 237
        · rw [if_pos d3, if_pos d3, if_neg (show ¬ ((2, 128, 159) : Int × Int × Int).1 < 0 by decide)]
          exact fin 2 128 159 _ (by omega) (pick _ _ 3 (by omega))
        · rw [if_neg d3, if_neg d3]
          by_cases d4 : 225 ≤ c ∧ c ≤ 239
          · rw [if_pos d4, if_pos d4, if_neg (show ¬ ((2, 128, 191) : Int × Int × Int).1 < 0 by decide)]
            exact fin 2 128 191 _ (by omega) (pick _ _ 3 (by omega))
          · rw [if_neg d4, if_neg d4]
            by_cases d5 : c = 240
            · rw [if_pos d5, if_pos d5, if_neg (show ¬ ((3, 144, 191) : Int × Int × Int).1 < 0 by decide)]
              exact fin 3 144 191 _ (by omega) (pick _ _ 4 (by omega))
            · rw [if_neg d5, if_neg d5]
              by_cases d6 : 241 ≤ c ∧ c ≤ 243
              · rw [if_pos d6, if_pos d6, if_neg (show ¬ ((3, 128, 191) : Int × Int × Int).1 < 0 by decide)]
                exact fin 3 128 191 _ (by omega) (pick _ _ 4 (by omega))
              · rw [if_neg d6, if_neg d6]
                by_cases d7 : c = 244
                · rw [if_pos d7, if_pos d7, if_neg (show ¬ ((3, 128, 143) : Int × Int × Int).1 < 0 by decide)]
                  exact fin 3 128 143 _ (by omega) (pick _ _ 4 (by omega))
                · rw [if_neg d7, if_neg d7, if_pos (show ((-1, 0, 0) : Int × Int × Int).1 < 0 by decide), holtref03_Formed.j1, if_pos rfl]
                  exact .inr ⟨rfl, rfl⟩
end
theorem l0_formed (s : ByteArray) (hs : s.size ≤ 1000000) (n : Nat) : ∀ (i k : Nat), i ≤ s.size → s.size - i ≤ n → 10 * n + 1 ≤ k → holtref03_Formed.l0 k s i = some (formedL n (s.data.toList.drop i)) := by
  have hlen : ∀ i, (s.data.toList.drop i).length = s.size - i := by intro i; rw [List.length_drop, Array.length_toList]; rfl
  have hend : ∀ (i k : Nat), i = s.size → 1 ≤ k → holtref03_Formed.l0 k s i = some true := by
    intro i k hi hk
    obtain ⟨k, rfl⟩ : ∃ m, k = m + 1 := ⟨k - 1, by omega⟩
    rw [holtref03_Formed.l0, if_neg (by omega)]
  induction n with
  | zero => intro i k hi hn hk; rw [hend i k (by omega) (by omega)]; rfl
  | succ n ih =>
    intro i k hi hn hk
    rw [formedL]
    by_cases hsz : i < s.size
    · have hne : s.data.toList.drop i ≠ [] := by
        intro h; have := congrArg List.length h; rw [hlen] at this; simp at this; omega
      rw [if_neg hne]
      obtain ⟨k, rfl⟩ : ∃ m, k = m + 10 := ⟨k - 10, by omega⟩
      rcases l0_step s i hs k hsz with ⟨m, k', h1, h2, h3⟩ | ⟨h1, h2⟩
      · have hm := stepL_le _ hne m h1
        rw [hlen] at hm
        rw [h1, h3, ih (i + m) k' (by omega) (by omega) (by omega)]
        show some (formedL n (List.drop (i + m) s.data.toList)) = some (formedL n (List.drop m (List.drop i s.data.toList)))
        rw [List.drop_drop]
      · rw [h1, h2]
    · rw [if_pos (List.eq_nil_of_length_eq_zero (by rw [hlen]; omega)), hend i k (by omega) (by omega)]
/-- What the reference's Formed tells. -/
theorem formed_tells (s : ByteArray) (hs : s.size ≤ 1000000) : holtref03_Formed.f (10 * s.size + 1) s = some (formedL s.data.toList.length s.data.toList) := by
  have hsz : s.data.toList.length = s.size := by rw [Array.length_toList]; rfl
  unfold holtref03_Formed.f
  have := l0_formed s hs s.size 0 (10 * s.size + 1) (by omega) (by omega) (by omega)
  rw [List.drop_zero] at this
  rw [hsz]
  exact this
end Go.Proofs.YtkmdmjlepmmejaaGreatDoor
/- What the reference's Right for names comes to. -/
namespace Go.Proofs.YtkmdmjlepmmejaaGreatDoor
open Go.RowKit Go.Proofs.YtkmdmjlepmmejaaGreatDoorW.PrintWords Go.Lib

theorem okB_at (s : ByteArray) (i : Nat) (h : i < s.size) : okB (s.data.toList[i]'(by rw [Array.length_toList]; exact h)) = (decide (32 ≤ ((s[i]'h).toNat : Int)) && (((s[i]'h).toNat : Int) != 47 && ((s[i]'h).toNat : Int) != 127)) := by
  have hb : s.data.toList[i]'(by rw [Array.length_toList]; exact h) = s[i]'h := rfl
  rw [hb]
  unfold okB
  generalize (s[i]'h).toNat = c
  have e1 : decide (32 ≤ c) = decide ((32 : Int) ≤ (c : Int)) := decide_eq_decide.2 (by omega)
  have e2 : (c != 47) = ((c : Int) != 47) := by rw [Bool.eq_iff_iff, bne_iff_ne, bne_iff_ne]; omega
  have e3 : (c != 127) = ((c : Int) != 127) := by rw [Bool.eq_iff_iff, bne_iff_ne, bne_iff_ne]; omega
  rw [e1, e2, e3]

set_option maxHeartbeats 1000000 in
theorem rright_calls (s : ByteArray) (w : World) (hs : s.size ≤ 9223372036854775807) : Calls Tryz.prog 63 #[.string s] w fun e w' => e = .returned (.bool (nameB s.data.toList)) ∧ ∃ n, w' = w.drewN n := by
  have hsz : s.data.toList.length = s.size := by rw [Array.length_toList]; rfl
  have HN := Lib.hid (show nameB s.data.toList = ((decide (1 ≤ s.size) && decide (s.size ≤ 20)) && (s.data.toList.all okB && formedL s.data.toList.length s.data.toList)) by unfold nameB; rw [hsz])
  have HSZ := Lib.hid hsz
  clear hsz
  by_cases h1 : 1 ≤ s.size
  · by_cases h2 : s.size ≤ 20
    · have HF := Lib.hid (show nameB s.data.toList = (s.data.toList.all okB && formedL s.data.toList.length s.data.toList) by rw [HN.out, decide_eq_true h1, decide_eq_true h2]; rfl)
      have HFC := Lib.hid (fun w => PRight.holtref03_Formed.calls _ s _ w (formed_tells s (by omega)))
      clear HN
      go_enter Tryz.func63, Tryz.ntmps63
      go_wp2
      go_loop [3] (fun vi => ∃ i : Nat, vi = .int .i64 i ∧ i ≤ s.size ∧ Hid ((s.data.toList.take i).all okB = true)) (fun vi => (20 - RowKit.intOf vi).toNat)
      case atStart => exact ⟨0, rfl, by omega, Lib.hid (by simp)⟩
      case round =>
        obtain ⟨i, rfl, hi, HA⟩ := hrel
        by_cases hlt : i < s.size
        · have hb := okB_at s i hlt
          have hl : i < s.data.toList.length := by rw [HSZ.out]; exact hlt
          by_cases hok : 32 ≤ ((s[i]'hlt).toNat : Int) ∧ ((s[i]'hlt).toNat : Int) ≠ 47 ∧ ((s[i]'hlt).toNat : Int) ≠ 127
          · obtain ⟨k1, k2, k3⟩ := hok
            have e2 : (((s[i]'hlt).toNat : Int) == 47) = false := beq_eq_false_iff_ne.2 k2
            have e3 : (((s[i]'hlt).toNat : Int) == 127) = false := beq_eq_false_iff_ne.2 k3
            have HA2 := Lib.hid (show (s.data.toList.take (i + 1)).all okB = true by
              rw [List.take_succ_eq_append_getElem hl, List.all_append, HA.out, List.all_cons, hb, decide_eq_true k1, bne_iff_ne.2 k2, bne_iff_ne.2 k3]
              rfl)
            clear hb HA k2 k3
            go_wp2
            go_round
            case rel => exact ⟨i + 1, by go_num, by omega, HA2⟩
            case measure => simp [RowKit.intOf] <;> omega
          · have HF2 := Lib.hid (show nameB s.data.toList = false by
              rw [HF.out]
              have : s.data.toList.all okB = false := by
                rw [← Bool.not_eq_true, List.all_eq_true]
                intro hall
                have := hall _ (List.getElem_mem hl)
                rw [hb] at this
                simp only [Bool.and_eq_true, decide_eq_true_eq, bne_iff_ne] at this
                exact hok this
              rw [this, Bool.false_and])
            clear hb HA
            by_cases k1 : ((s[i]'hlt).toNat : Int) < 32
            · go_wp2
              go_ret
              rw [HF2.out]
              exact ⟨rfl, 0, rfl⟩
            · by_cases k2 : ((s[i]'hlt).toNat : Int) = 47
              · have e2 : (((s[i]'hlt).toNat : Int) == 47) = true := beq_iff_eq.2 k2
                clear k2 hok
                go_wp2
                go_ret
                rw [HF2.out]
                exact ⟨rfl, 0, rfl⟩
              · have e2 : (((s[i]'hlt).toNat : Int) == 47) = false := beq_eq_false_iff_ne.2 k2
                have e3 : (((s[i]'hlt).toNat : Int) == 127) = true := by rw [beq_iff_eq]; omega
                clear k2 hok
                go_wp2
                go_ret
                rw [HF2.out]
                exact ⟨rfl, 0, rfl⟩
        · have HA2 := Lib.hid (show s.data.toList.all okB = true by have := HA.out; rw [List.take_of_length_le (by rw [HSZ.out]; omega)] at this; exact this)
          go_wp2_with (go_at_call 83; refine (HFC.out _).mono ?_; rintro e w' ⟨rfl, hd⟩; obtain ⟨n, rfl⟩ := hd.out)
          go_ret
          rw [HF.out, HA2.out, Bool.true_and]
          exact ⟨rfl, n, rfl⟩
    · go_enter Tryz.func63, Tryz.ntmps63
      go_wp2
      go_ret
      rw [HN.out, decide_eq_false h2]
      exact ⟨by simp, 0, rfl⟩
  · go_enter Tryz.func63, Tryz.ntmps63
    go_wp2
    go_ret
    rw [HN.out, decide_eq_false h1]
    exact ⟨by simp, 0, rfl⟩
end Go.Proofs.YtkmdmjlepmmejaaGreatDoor
/- Whether an operation is right: the reference. -/
namespace Go.Proofs.YtkmdmjlepmmejaaGreatDoor
open Go.RowKit Go.Proofs.YtkmdmjlepmmejaaGreatDoorW.PrintWords

set_option maxHeartbeats 2000000 in
theorem refright_calls (o : OpR) (w : World) (hs : o.name.size ≤ 9223372036854775807) : Calls Tryz.prog 37 #[opV o] w fun e w' => e = .returned (.bool (opRight o)) ∧ Below w.heap.size w w' := by
  obtain ⟨n, r, node, par, name⟩ := o
  simp only [opV] at hs ⊢
  have HR := Lib.hid (show opRight ⟨n, r, node, par, name⟩ = (stampR n r && (nodeR node && ((par == 0 || (par == 1 || nodeR par)) && nameB name.data.toList))) from rfl)
  have hc1 := rstamp_calls n r
  have hc2 := rnode_calls node
  have hc3 := rnode_calls par
  have hc4 := fun w => rright_calls name w hs
  generalize opRight ⟨n, r, node, par, name⟩ = R at *
  generalize stampR n r = S at *
  generalize nodeR node = N at *
  generalize nodeR par = N2 at *
  generalize nameB name.data.toList = M at *
  have HC1 := Lib.hid hc1
  have HC2 := Lib.hid hc2
  have HC3 := Lib.hid hc3
  have HC4 := Lib.hid hc4
  have HB := Lib.hid (Below.refl w.heap.size w)
  clear hc1 hc2 hc3 hc4
  go_enter Tryz.func37, Tryz.ntmps37
  go_wp2_with (first
    | (go_at_call 64; (with_reducible refine (HC3.out _).mono ?_); rintro e w1 ⟨rfl, m1, rfl⟩)
    | (go_at_call 62; refine (HC1.out _).mono ?_; rintro e w2 ⟨rfl, hb⟩; have c2 : w2.cell? ⟨w.heap.size, 2, none⟩ = some (.int .i64 node) := pw_cell_below hb (by go_cell); have c4 : w2.cell? ⟨w.heap.size, 4, none⟩ = some (.string name) := pw_cell_below hb (by go_cell); have c3 : w2.cell? ⟨w.heap.size, 3, none⟩ = some (.int .i64 par) := pw_cell_below hb (by go_cell); have HBn := Lib.hid (below_step (by repeat (first | (with_reducible exact HB.out) | apply below_alloc | apply pw_below_drewN | apply below_drew1 | exact HB.out)) hb); clear hb HB; have HB := HBn; clear HBn)
    | (go_at_call 64; (with_reducible refine (HC2.out _).mono ?_); rintro e w3 ⟨rfl, m3, rfl⟩)
    | (go_at_call 63; refine (HC4.out _).mono ?_; rintro e w4 ⟨rfl, m4, rfl⟩))
  go_ways
  all_goals (go_ret; refine ⟨?_, (by repeat (first | (with_reducible exact HB.out) | apply below_alloc | apply pw_below_drewN | apply below_drew1 | exact HB.out))⟩; rw [HR.out]; clear HC1 HC2 HC3 HC4; simp_all)
end Go.Proofs.YtkmdmjlepmmejaaGreatDoor
/- The reference's tree: Apply. -/
namespace Go.Proofs.YtkmdmjlepmmejaaGreatDoor.Ol
open Go.RowKit Go.Sort Go.Proofs.YtkmdmjlepmmejaaGreatDoorW.PrintWords Tr

theorem kidsInfo : (Tryz.prog.info? 42).map (fun i => (i.zero, i.size, i.bytes)) = some (some (.slice none 0 0), 1, 24) := by kernel_rfl
theorem own_form {W : World} {B : Nat} {e : TypeId} {sz n : Nat} {v : Value} {xs : List Value} (h : W.ownsRow B e sz v n xs) : ∃ A c, v = .slice A n c := by
  rcases h.2 with ⟨rfl, rfl⟩ | ⟨g, cap, cur, rfl, _⟩
  · exact ⟨none, 0, rfl⟩
  · exact ⟨_, _, rfl⟩
theorem rows_differ {W : World} {B B' n : Nat} {v v' : Value} {l : List KidR} {e : TypeId} {sz : Nat} {xs : List Value} (h : OwnK W B v l) (k : W.ownsRow B' e sz v' n xs) (hne : 81 ≠ e) : ∀ b, v.ownBlock = some b → v'.ownBlock ≠ some b := fun b e1 e2 => by
  obtain ⟨inner, hrow, _⟩ := h
  obtain ⟨c1, h1⟩ := own_typed hrow b e1
  obtain ⟨c2, h2⟩ := own_typed k b e2
  rw [h1] at h2
  injection h2 with h2
  injection h2 with _ h2
  exact hne h2
set_option maxRecDepth 100000 in
set_option maxHeartbeats 4000000 in
theorem rapply_calls (W : World) (B p : Nat) (l : List KidR) (k : Nat) (o : OpR) (H : RT W B p l k) (ho : opRight o = true) (hB : B ≤ W.heap.size) (hl : l.length ≤ 1000) (hk : k ≤ 1000) :
    Calls Tryz.prog 44 #[.pointer (some ⟨p, 0, none⟩), opV o] W fun e w' => (∃ b, e = .returned (.bool b)) ∧ RT w' B p (Tr.stepT l o) (k + 1) ∧ Below B W w' := by
  have hsz := (right_wf ho).2.2
  have HRI := Lib.hid (fun V => by have := refright_calls o V (by omega); rw [ho] at this; exact this : ∀ V : World, Calls Tryz.prog 37 #[opV o] V fun e w' => e = .returned (.bool true) ∧ Below V.heap.size V w')
  have hst : Tr.stepT l o = if fits l o then l.filter (fun k => !decide (k.node = o.node)) ++ [kidOf o] else l := rfl
  have hfi : fits l o = (known l o.par && !above l o.node o.par) := rfl
  have HH := Lib.hid H
  have HST := Lib.hid hst
  have HFI := Lib.hid hfi
  have HKI := Lib.hid (show kidOf o = ⟨o.par, o.name, o.node⟩ from rfl)
  clear hst hfi H ho
  generalize Tr.stepT l o = S at *
  generalize fits l o = FI at *
  simp only [opV] at *
  generalize kidOf o = K at *
  generalize o.n = on at *
  generalize o.r = or_ at *
  generalize o.node = od at *
  generalize o.par = op_ at *
  generalize o.name = os at *
  have HB := Lib.hid (Below.refl W.heap.size W)
  go_enter Tryz.func44, Tryz.ntmps44
  go_upto_region 4 with (first
    | (go_at_call 37; (with_reducible refine Calls.mono (HRI.out _) ?_); rintro e w1 ⟨rfl, hb⟩; have q2 : w1.cell? ⟨W.heap.size, 2, none⟩ = some (.int .i64 od) := pw_cell_below hb (by go_cell); have q3 : w1.cell? ⟨W.heap.size, 3, none⟩ = some (.int .i64 op_) := pw_cell_below hb (by go_cell); have q4 : w1.cell? ⟨W.heap.size, 4, none⟩ = some (.string os) := pw_cell_below hb (by go_cell); have HBn := Lib.hid (below_step (by repeat (first | (with_reducible exact HB.out) | apply below_alloc | apply pw_below_drewN | apply below_drew1 | exact HB.out)) hb); clear hb HB; have HB := HBn; clear HBn)
    | (fail "no arm"))
  have hlt1 : W.heap.size < w1.heap.size := cell_lt q2
  obtain ⟨A, c, vw, ws, h1', h2', h3', h4⟩ := HH.out
  have hvl : ∀ b, vw.ownBlock = some b → b < W.heap.size := own_lt h3'
  have hpW := blk_lt h1'
  have h1 := blk_below h1' HB.out
  have h2 : OwnK w1 B (.slice A l.length c) l := OwnRow.below h2' HB.out
  have h3 : w1.ownsRow B 42 1 vw k ws := own_move h3' (fun j hj => HB.out.block j (own_lt h3' j hj))
  have hpl := blk_lt h1
  have c0 := blk_cell h1 0
  have c1 := blk_cell h1 1
  simp at c0 c1
  have hne := own_ne h3 h1 (show 42 ≠ 86 by decide)
  have HAP := Lib.hid (rows_differ h2 h3 (by decide))
  have Q2 := Lib.hid q2
  have Q3 := Lib.hid q3
  have Q4 := Lib.hid q4
  have H1 := Lib.hid h1
  have H2 := Lib.hid h2
  have H3 := Lib.hid h3
  have HNE := Lib.hid hne
  have HW1 := HB
  have hB1 : B ≤ w1.heap.size := by have := HB.out.size; omega
  have hk24 : (k + 1) * 24 ≤ 140737488355328 := by omega
  have HVL := Lib.hid hvl
  have HVB := Lib.hid (own_base h3)
  clear HB HH h1 h2 h3 q2 q3 q4 hne h1' h2' h3' hvl
  go_cut [3] from 14 to 26 (fun v V => v = .pointer (some ⟨W.heap.size, 0, none⟩) ∧ Hid (RT V B p l (k + 1)) ∧ Hid (V.cell? ⟨W.heap.size, 2, none⟩ = some (.int .i64 od)) ∧ Hid (V.cell? ⟨W.heap.size, 3, none⟩ = some (.int .i64 op_)) ∧ Hid (V.cell? ⟨W.heap.size, 4, none⟩ = some (.string os)) ∧ Hid (Below B W V))
  case first =>
    go_region_law (first
      | (go_loud ((refine step_append_cells (w0 := w1.drew) (W := w1.drew) B (by rfl) (.tmp 18) (.tmp 23) 84 42 _ 1 24 (by rfl) Tryz.underlying84 kidsInfo rfl (by decide) (by decide) vw k ws [.slice A l.length c] (by rfl) (by simp [Act.eval]) rfl (by simp [Value.oneCell']) H3.out (Below.refl _ _) hB1 hk24 ?_); intro v2 w2 ho hb hg hat; obtain ⟨Aw, cw, rfl⟩ := own_form ho; have HP2 := Lib.hid (show w2.heap[p]? = _ from (hg.block p hpl HNE.out).trans H1.out); have z1 := blk_frozen HP2.out 1; have k1 := blk_cell HP2.out 1; simp at k1; have hlt2 : p < w2.heap.size := blk_lt HP2.out; have HO2 := Lib.hid ho; have HG2 := Lib.hid (show w1.grownBy w2 vw.ownBlock from ⟨hg.os, hg.tape, hg.output, hg.size, hg.block⟩); clear ho hb hg hat))
      | (fail "no law"))
    all_goals
      have hT : Tr.Touch (fun b => b = p ∨ vw.ownBlock = some b) w1 (w2.setCell ⟨p, 1, none⟩ (.slice Aw (k + 1) cw)) := ((Tr.Touch.grown HG2.out (F := fun b => vw.ownBlock = some b) (fun b e => e)).mono (fun b e => .inr e)).trans (Tr.Touch.set_ (F := fun b => b = p) rfl 1 _) (fun b _ e => .inl e)
      have hqn : ¬ (W.heap.size = p ∨ vw.ownBlock = some W.heap.size) := fun e => e.elim (fun e => by omega) (fun e => by have := HVL.out _ e; omega)
      have hRT : RT (w2.setCell ⟨p, 1, none⟩ (.slice Aw (k + 1) cw)) B p l (k + 1) :=
        ⟨A, c, _, _, blk_put HP2.out 1 _ rfl, hT.row H2.out (fun b e h => h.elim (fun h => by
          obtain ⟨inner, hrow, _⟩ := H2.out
          exact own_ne hrow H1.out (show 81 ≠ 86 by decide) (by rw [e, h])) (fun h => HAP.out b e h)), own_move HO2.out (fun j hj => Below.heap_setCell w2 ⟨p, 1, none⟩ _ j (fun e => own_ne HO2.out HP2.out (show 42 ≠ 86 by decide) (by rw [hj, e]))), h4⟩
      have r2 := hT.cell Q2.out hqn
      have r3 := hT.cell Q3.out hqn
      have r4 := hT.cell Q4.out hqn
      have hBZ : Below B W (w2.setCell ⟨p, 1, none⟩ (.slice Aw (k + 1) cw)) := Below.trans (HW1.out.mono hB) (hT.toBelow hB1 (fun b e => e.elim (fun e => by omega) (HVB.out b)))
      clear hT hqn
      go_wp2_with fail
      go_meet
      exact ⟨rfl, Lib.hid hRT, Lib.hid r2, Lib.hid r3, Lib.hid r4, Lib.hid hBZ⟩
  case rest =>
    obtain ⟨rfl, HRT, R2, R3, R4, HBZ⟩ := hcut
    clear Q2 Q3 Q4 H1 H2 H3 HNE HAP HVL HVB c0 c1 hpl
    have hkn := rknown_calls wc B p l (k + 1) op_ HRT.out (by omega)
    have hab := rabove_calls wc B p l (k + 1) od op_ HRT.out (by omega)
    have q2 := R2.out
    have q3 := R3.out
    have hlw : W.heap.size < wc.heap.size := cell_lt q2
    generalize known l op_ = KN at *
    generalize above l od op_ = AB at *
    have HKN := Lib.hid hkn
    have HAB := Lib.hid hab
    clear hkn hab
    go_upto_region 7 with (first
      | (go_at_call 71; (refine HKN.out.mono ?_); rintro e w3 ⟨rfl, rfl⟩)
      | (go_at_call 72; (refine HAB.out.mono ?_); rintro e w4 ⟨rfl, rfl⟩)
      | (fail "no arm"))
    cases KN with
    | false =>
      have HS := Lib.hid (show S = l by rw [HST.out, HFI.out]; rfl)
      clear HST HFI
      go_wp2
      go_ret
      exact ⟨⟨_, rfl⟩, by rw [HS.out]; exact HRT.out, HBZ.out⟩
    | true =>
      cases AB with
      | true =>
        have HS := Lib.hid (show S = l by rw [HST.out, HFI.out]; rfl)
        clear HST HFI
        go_wp2
        go_ret
        exact ⟨⟨_, rfl⟩, by rw [HS.out]; exact HRT.out, HBZ.out⟩
      | false =>
        have HS := Lib.hid (show S = l.filter (fun k => !decide (k.node = od)) ++ [K] by rw [HST.out, HFI.out]; rfl)
        clear HST HFI
        go_wp2
        go_loopw [8, 9] (fun v8 vi V => ∃ i : Nat, vi = .int .i64 i ∧ i ≤ l.length ∧ Hid (OwnK V w4.heap.size v8 ((l.take i).filter (fun k => !decide (k.node = od)))) ∧ Hid (Below w4.heap.size w4 V)) (fun _ vi _ => (l.length - (RowKit.intOf vi).toNat))
        case atStart => exact ⟨0, rfl, by omega, Lib.hid (OwnRow.none_ _ _ _ _ _), Lib.hid (Below.refl _ _)⟩
        case round =>
          obtain ⟨i, rfl, hi, HO, HB⟩ := hrel
          obtain ⟨A9, c9, g0, hkids, hpr⟩ := (HRT.out.below HB.out).reads
          have g2 := pw_cell_below HB.out R2.out
          have g3 := pw_cell_below HB.out R3.out
          have g4 := pw_cell_below HB.out R4.out
          have hWr : W.heap.size < wr.heap.size := cell_lt g2
          clear q2 q3
          by_cases hlt : i < l.length
          · obtain ⟨b0, o0, rfl, hcell⟩ := hkids.2.2 (by omega)
            obtain ⟨m0, m1, m2⟩ := hcell i hlt
            have hi1 : (0 : Int) ≤ (i : Int) := by omega
            have hi2 : (i : Int) < (l.length : Int) := by omega
            have htk : (l.take (i + 1)).filter (fun k => !decide (k.node = od)) = (l.take i).filter (fun k => !decide (k.node = od)) ++ (if l[i].node = od then [] else [l[i]]) := by
              rw [List.take_succ_eq_append_getElem hlt, List.filter_append]
              congr 1
              by_cases h : l[i].node = od <;> simp [h]
            have hql : ((l.take i).filter (fun k => !decide (k.node = od))).length ≤ 1000 := Nat.le_trans (List.length_filter_le _ _) (by rw [List.length_take]; omega)
            have HTK := Lib.hid htk
            clear htk hcell hkids
            generalize l[i] = q at *
            generalize (l.take i).filter (fun k => !decide (k.node = od)) = Q at *
            by_cases hn : q.node = od
            · rw [if_pos hn, List.append_nil] at HTK
              rw [hn] at m2
              go_wp2
              go_quiet (fail)
              go_wp2
              go_roundw
              case rel => exact ⟨i + 1, by go_num, by omega, Lib.hid (by rw [HTK.out]; exact OwnRow.below HO.out (pw_below_drewN (Below.refl _ _) _)), Lib.hid (pw_below_drewN HB.out _)⟩
              case measure => simp [RowKit.intOf] <;> omega
            · rw [if_neg hn] at HTK
              go_wp2
              go_quiet (fail)
              have HOq := Lib.hid (show OwnK (wr.drewN nq) w4.heap.size u8 Q from OwnRow.below HO.out (pw_below_drewN (Below.refl _ _) _))
              have HBq := Lib.hid (show Below w4.heap.size w4 (wr.drewN nq) from pw_below_drewN HB.out _)
              go_wp2_with (first
                | (at_builtin; go_loud ((refine OwnRow.append (R := fun p cs => cs = kidCells p) (w0 := w4) w4.heap.size rfl (.tmp 62) (.tmp 70) 42 81 _ 3 32 rfl Tryz.underlying42 kidInfo rfl (by decide) (by decide) _ Q q [.int .i64 q.par, .string q.name, .int .i64 q.node] (by rfl) (by simp [Act.eval]) rfl rfl (by simp [Value.oneCell']) HOq.out HBq.out HBq.out.size (by omega) ?_); intro v5 w5 ho hb hg hat; have HO5 := Lib.hid ho; have HB5 := Lib.hid hb; clear ho hb hg hat))
                | (fail "no arm"))
              go_roundw
              case rel => exact ⟨i + 1, by go_num, by omega, Lib.hid (by rw [HTK.out]; exact HO5.out), HB5⟩
              case measure => simp [RowKit.intOf] <;> omega
          · obtain rfl : i = l.length := by omega
            have hO := HO.out
            rw [List.take_of_length_le (Nat.le_refl _)] at hO
            have hql : (l.filter (fun k => !decide (k.node = od))).length ≤ 1000 := Nat.le_trans (List.length_filter_le _ _) hl
            have HO2 := Lib.hid hO
            obtain ⟨A3, c3, vw3, ws3, h1, h2, h3, h4'⟩ := HRT.out.below HB.out
            have H1 := Lib.hid h1
            have H2 := Lib.hid h2
            have H3 := Lib.hid h3
            have hpw := blk_lt h1
            have k0 := blk_cell h1 0
            have k1 := blk_cell h1 1
            simp at k0 k1
            have HSK := Lib.hid (show S = l.filter (fun k => !decide (k.node = od)) ++ [⟨op_, os, od⟩] by rw [HS.out, HKI.out])
            have hB4 : B ≤ w4.heap.size := Nat.le_trans hB HBZ.out.size
            clear h1 h2 h3 hO hkids
            generalize l.filter (fun k => !decide (k.node = od)) = Q at *
            go_wp2_with (first
              | (at_builtin; go_loud ((refine OwnRow.append (R := fun p cs => cs = kidCells p) (w0 := w4) (W := wr) w4.heap.size rfl (.tmp 73) (.tmp 81) 42 81 _ 3 32 rfl Tryz.underlying42 kidInfo rfl (by decide) (by decide) _ Q ⟨op_, os, od⟩ [.int .i64 op_, .string os, .int .i64 od] (by rfl) (by simp [Act.eval]) rfl rfl (by simp [Value.oneCell']) HO2.out HB.out HB.out.size (by omega) ?_); intro v6 w6 ho hb hg hat; have HNE := Lib.hid (show some p ≠ u8.ownBlock from by obtain ⟨inner, hrow, _⟩ := HO2.out; exact own_ne hrow H1.out (by decide)); have HP6 := Lib.hid (show w6.heap[p]? = _ from (hg.block p hpw HNE.out).trans H1.out); obtain ⟨A6, c6, rfl, -⟩ := OwnRow.slice_ ho; have z6 := blk_frozen HP6.out 0; have y6 := blk_cell HP6.out 0; simp at y6; have hlt6 : p < w6.heap.size := blk_lt HP6.out; have HO6 := Lib.hid ho; have HB6 := Lib.hid hb; have HG6 := Lib.hid hg; clear ho hb hg hat))
              | (fail "no arm"))
            go_ret
            refine ⟨⟨_, rfl⟩, ?_, Below.trans HBZ.out ((HB6.out.mono hB4).setCell (p := ⟨p, 0, none⟩) h4' _)⟩
            rw [HSK.out]
            refine ⟨A6, c6, vw3, ws3, blk_put HP6.out 0 _ (by simp), OwnRow.lower (OwnRow.set_ HO6.out HP6.out (by decide) 0 _) hB4, ?_, h4'⟩
            refine own_move H3.out (fun j hj => (Below.heap_setCell w6 ⟨p, 0, none⟩ _ j ?_).trans (HG6.out.block j (own_lt H3.out j hj) ?_))
            · rintro rfl
              exact own_ne H3.out H1.out (show 42 ≠ 86 by decide) hj.symm
            · intro e
              exact rows_differ HO2.out H3.out (by decide) j e.symm hj
end Go.Proofs.YtkmdmjlepmmejaaGreatDoor.Ol
/- The reference's Sorted is the list in order. -/
namespace Go.Proofs.YtkmdmjlepmmejaaGreatDoor.Ol
open Go.RowKit Go.Sort Go.Proofs.YtkmdmjlepmmejaaGreatDoorW.PrintWords Tr
open PSorted

def toS (k : KidR) : S81 := ⟨k.par, k.name, k.node⟩
theorem less_f (a b : KidR) : holtref07_less.f a.par a.name a.node b.par b.name b.node = some (decide (kidCmp a b < 0)) := by
  unfold holtref07_less.f kidCmp
  have h1 : cmpI a.par b.par = 0 ↔ a.par = b.par := cmpI_zero _ _
  have h2 : cmpS a.name b.name = 0 ↔ a.name = b.name := cmpS_zero _ _
  have hl : a.name.toList = b.name.toList ↔ a.name = b.name := ⟨fun h => by rw [ByteArray.toList_eq, ByteArray.toList_eq] at h; exact ByteArray.ext (Array.toList_inj.1 h), fun h => by rw [h]⟩
  by_cases e1 : a.par = b.par
  · rw [if_pos e1, if_pos (h1.2 e1)]
    by_cases e2 : a.name = b.name
    · rw [if_pos (hl.2 e2), if_pos (h2.2 e2)]
      congr 1
      rw [decide_eq_decide]
      unfold cmpI
      split <;> (try split) <;> omega
    · rw [if_neg (fun h => e2 (hl.1 h)), if_neg (fun h => e2 (h2.1 h)), less_cmpL, cmpS_eq]
  · rw [if_neg e1, if_neg (fun h => e1 (h1.1 h))]
    congr 1
    rw [decide_eq_decide]
    unfold cmpI
    split <;> (try split) <;> omega
theorem rd_toS {l : List KidR} {i : Nat} (hi : i < l.length) : rd_T81 (l.map toS) (i : Int) = toS l[i] := by
  unfold rd_T81
  rw [Int.toNat_natCast, List.getD_eq_getElem?_getD, List.getElem?_eq_getElem (by rw [List.length_map]; exact hi), List.getElem_map]
  rfl
theorem rd_used {us : List Bool} {i : Nat} (hi : i < us.length) : rdOf false us (i : Int) = us[i] := by
  unfold rdOf
  rw [Int.toNat_natCast, List.getD_eq_getElem?_getD, List.getElem?_eq_getElem hi]
  rfl
theorem wr1 {i : Nat} (h : i ≤ 100000) : wrap64 ((i : Int) + 1) = ((i + 1 : Nat) : Int) := by unfold wrap64; omega
/-- The least of those that aren't used, of the first i. -/
def Best (l : List KidR) (us : List Bool) (b : Int) (i : Nat) : Prop :=
  (b = -1 ∧ ∀ j (h : j < us.length), j < i → us[j] = true) ∨ ∃ (m : Nat) (hm : m < l.length) (hu : m < us.length), b = (m : Int) ∧ us[m] = false ∧ ∀ j (h : j < l.length) (h' : j < us.length), j < i → us[j] = false → kidCmp l[m] l[j] ≤ 0
theorem best_at {l : List KidR} {us : List Bool} (hu : us.length = l.length) (hn : l.length ≤ 1000) (xs : List S81) (t : Int) : ∀ (d i : Nat) (b : Int), i + d = l.length → Best l us b i →
    ∃ b', Best l us b' l.length ∧ ∀ k, holtref07_Sorted.l1 (k + d) (l.map toS) xs us t b (i : Int) = holtref07_Sorted.l1 k (l.map toS) xs us t b' (l.length : Int)
  | 0, i, b, he, hb => ⟨b, by rw [← he]; exact hb, fun k => by rw [← he]; rfl⟩
  | d + 1, i, b, he, hb => by
    have hi : i < l.length := by omega
    have hiu : i < us.length := by omega
    have c1 : (i : Int) < ((l.map toS).length : Int) := by rw [List.length_map]; omega
    have c2 : (0 : Int) ≤ (i : Int) := by omega
    have c3 : (i : Int) < (us.length : Int) := by omega
    have hw := wr1 (i := i) (by omega)
    by_cases hus : us[i] = true
    · obtain ⟨b', h1, h2⟩ := best_at hu hn xs t d (i + 1) b (by omega) (by
        rcases hb with ⟨h1, h2⟩ | ⟨m, hm, hmu, h1, h2, h3⟩
        · refine .inl ⟨h1, fun j h hj => ?_⟩
          by_cases e : j = i
          · subst e; exact hus
          · exact h2 j h (by omega)
        · refine .inr ⟨m, hm, hmu, h1, h2, fun j h h' hj hf => ?_⟩
          by_cases e : j = i
          · subst e; rw [hus] at hf; cases hf
          · exact h3 j h h' (by omega) hf)
      refine ⟨b', h1, fun k => ?_⟩
      rw [show k + (d + 1) = (k + d) + 1 by omega, holtref07_Sorted.l1, if_pos c1, if_pos c2, if_pos c3, rd_used hiu, if_pos hus, hw]
      exact h2 k
    · have hus' : us[i] = false := by simpa using hus
      rcases hb with ⟨h1, h2⟩ | ⟨m, hm, hmu, h1, h2, h3⟩
      · obtain ⟨b', g1, g2⟩ := best_at hu hn xs t d (i + 1) (i : Int) (by omega) (.inr ⟨i, hi, hiu, rfl, hus', fun j h h' hj hf => by
          by_cases e : j = i
          · subst e; rw [kidOrd.self]; exact Int.le_refl _
          · rw [h2 j h' (by omega)] at hf; cases hf⟩)
        refine ⟨b', g1, fun k => ?_⟩
        rw [show k + (d + 1) = (k + d) + 1 by omega, holtref07_Sorted.l1, if_pos c1, if_pos c2, if_pos c3, rd_used hiu, if_neg hus, if_pos (by omega : b < 0), hw]
        exact g2 k
      · subst h1
        by_cases hlt : kidCmp l[i] l[m] < 0
        · obtain ⟨b', g1, g2⟩ := best_at hu hn xs t d (i + 1) (i : Int) (by omega) (.inr ⟨i, hi, hiu, rfl, hus', fun j h h' hj hf => by
            by_cases e : j = i
            · subst e; rw [kidOrd.self]; exact Int.le_refl _
            · have := h3 j h h' (by omega) hf
              exact Int.le_of_lt (kidOrd.lt_le hlt this)⟩)
          refine ⟨b', g1, fun k => ?_⟩
          rw [show k + (d + 1) = (k + d) + 1 by omega, holtref07_Sorted.l1, if_pos c1, if_pos c2, if_pos c3, rd_used hiu, if_neg hus, if_neg (by omega : ¬ (m : Int) < 0), if_pos (by omega : (0 : Int) ≤ (m : Int)), if_pos (by rw [List.length_map]; omega : (m : Int) < ((l.map toS).length : Int)), rd_toS hi, rd_toS hm]
          show ((holtref07_less.f l[i].par l[i].name l[i].node l[m].par l[m].name l[m].node).bind _) = _
          rw [less_f, Option.bind_some, if_pos (by simpa using hlt), hw]
          exact g2 k
        · obtain ⟨b', g1, g2⟩ := best_at hu hn xs t d (i + 1) (m : Int) (by omega) (.inr ⟨m, hm, hmu, rfl, h2, fun j h h' hj hf => by
            by_cases e : j = i
            · subst e; have := kidOrd.neg l[m] l[j]; omega
            · exact h3 j h h' (by omega) hf⟩)
          refine ⟨b', g1, fun k => ?_⟩
          rw [show k + (d + 1) = (k + d) + 1 by omega, holtref07_Sorted.l1, if_pos c1, if_pos c2, if_pos c3, rd_used hiu, if_neg hus, if_neg (by omega : ¬ (m : Int) < 0), if_pos (by omega : (0 : Int) ≤ (m : Int)), if_pos (by rw [List.length_map]; omega : (m : Int) < ((l.map toS).length : Int)), rd_toS hi, rd_toS hm]
          show ((holtref07_less.f l[i].par l[i].name l[i].node l[m].par l[m].name l[m].node).bind _) = _
          rw [less_f, Option.bind_some, if_neg (by simpa using hlt), hw]
          exact g2 k
/-- So many are out, in order. -/
structure Outs (l : List KidR) (t : Nat) (out : List KidR) (us : List Bool) : Prop where
  ol : out.length = t
  ul : us.length = l.length
  asc : Asc kidCmp out
  sub : ∀ q ∈ out, q ∈ l
  mem : ∀ j (h : j < l.length) (h' : j < us.length), us[j] = true ↔ l[j] ∈ out
  lt : ∀ q ∈ out, ∀ j (h : j < l.length) (h' : j < us.length), us[j] = false → kidCmp q l[j] < 0
theorem sorted_at {l : List KidR} (hn : l.length ≤ 1000) (hd : l.Nodup) : ∀ (d t : Nat) (out : List KidR) (us : List Bool), t + d = l.length → Outs l t out us →
    ∀ k, holtref07_Sorted.l0 (k + 1 + d * (l.length + 2)) (l.map toS) (out.map toS) us (t : Int) = some ((srt kidCmp l).map toS)
  | 0, t, out, us, he, ho, k => by
    have hall : out = srt kidCmp l := asc_ext kidOrd ho.asc (srt_asc kidOrd hd) fun x => by
      rw [mem_srt]
      refine ⟨ho.sub x, fun hx => Classical.byContradiction fun hno => ?_⟩
      have := nodup_leK (l := x :: out) (m := l) (List.nodup_cons.2 ⟨hno, asc_nodup kidOrd ho.asc⟩) (fun y hy => (List.mem_cons.1 hy).elim (fun e => e ▸ hx) (ho.sub y))
      have := ho.ol
      simp only [List.length_cons] at *
      omega
    rw [Nat.zero_mul, Nat.add_zero, holtref07_Sorted.l0, if_neg (by rw [List.length_map]; omega), hall]
  | d + 1, t, out, us, he, ho, k => by
    obtain ⟨b', h1, h2⟩ := best_at ho.ul hn (out.map toS) (t : Int) l.length 0 (-1) (by omega) (.inl ⟨rfl, fun j h hj => by omega⟩)
    have hsz : ∃ j, ∃ (h : j < l.length) (h' : j < us.length), us[j] = false := Classical.byContradiction fun hno => by
      have := nodup_leK hd (fun y hy => by
        obtain ⟨j, hj, rfl⟩ := List.getElem_of_mem hy
        have hj' : j < us.length := by rw [ho.ul]; exact hj
        exact (ho.mem j hj hj').1 (by
          cases hu : us[j] with
          | true => rfl
          | false => exact absurd ⟨j, hj, hj', hu⟩ hno))
      have := ho.ol
      omega
    obtain ⟨j0, hj0, hj0', hu0⟩ := hsz
    rcases h1 with ⟨e1, e2⟩ | ⟨m, hm, hmu, rfl, hmf, hmin⟩
    · rw [e2 j0 hj0' hj0] at hu0; cases hu0
    · have hno : l[m] ∉ out := fun h => by rw [(ho.mem m hm hmu).2 h] at hmf; cases hmf
      have hnext : Outs l (t + 1) (out ++ [l[m]]) (us.set m true) := by
        refine ⟨by rw [List.length_append, ho.ol]; rfl, by rw [List.length_set, ho.ul], ?_, fun q hq => ?_, fun j h h' => ?_, fun q hq j h h' hf => ?_⟩
        · unfold Asc
          rw [List.pairwise_append]
          refine ⟨ho.asc, by simp, fun a ha c hc => ?_⟩
          rw [List.mem_singleton] at hc
          subst hc
          exact ho.lt a ha m hm hmu hmf
        · rcases List.mem_append.1 hq with h | h
          · exact ho.sub q h
          · rw [List.mem_singleton.1 h]; exact List.getElem_mem hm
        · rw [List.getElem_set, List.mem_append, List.mem_singleton]
          by_cases e : m = j
          · subst e; simp
          · rw [if_neg e, ho.mem j h (by rw [List.length_set] at h'; exact h')]
            refine ⟨.inl, fun h2 => h2.elim id fun h3 => ?_⟩
            exact absurd ((List.getElem_inj hd).1 h3) (fun h4 => e h4.symm)
        · rw [List.getElem_set] at hf
          by_cases e : m = j
          · rw [if_pos e] at hf; cases hf
          · rw [if_neg e] at hf
            rw [List.length_set] at h'
            rcases List.mem_append.1 hq with h5 | h5
            · exact ho.lt q h5 j h h' hf
            · rw [List.mem_singleton.1 h5]
              have h6 := hmin j h h' h hf
              have h7 : kidCmp l[m] l[j] ≠ 0 := fun h8 => e ((List.getElem_inj hd).1 ((kidCmp_zero _ _).1 h8))
              omega
      have hol := ho.ol
      rw [Nat.add_mul, Nat.one_mul, show k + 1 + (d * (l.length + 2) + (l.length + 2)) = ((k + 1 + d * (l.length + 2)) + 1 + l.length) + 1 by omega, holtref07_Sorted.l0, if_pos (by rw [List.length_map]; omega)]
      rw [show (0 : Int) = ((0 : Nat) : Int) from rfl, h2, holtref07_Sorted.l1, if_neg (by rw [List.length_map]; omega), if_pos (by omega : (0 : Int) ≤ (m : Int)), if_pos (by omega : (m : Int) < (us.length : Int)), if_pos (by rw [List.length_map]; omega : (m : Int) < ((l.map toS).length : Int)), if_pos (by rw [List.length_map]; omega), rd_toS hm, Int.toNat_natCast, wr1 (by omega)]
      have := sorted_at hn hd d (t + 1) (out ++ [l[m]]) (us.set m true) (by omega) hnext k
      rw [List.map_append] at this
      exact this
theorem sorted_f {l : List KidR} (hn : l.length ≤ 1000) (hd : l.Nodup) : holtref07_Sorted.f (0 + 1 + l.length * (l.length + 2)) (l.map toS) = some ((srt kidCmp l).map toS) := by
  unfold holtref07_Sorted.f
  rw [if_pos (by omega), if_pos (by rw [Int.toNat_natCast, List.length_map]; omega)]
  have := sorted_at hn hd l.length 0 [] (List.replicate l.length false) (by omega) ⟨rfl, by rw [List.length_replicate], List.Pairwise.nil, fun q h => by simp at h, fun j h h' => by simp, fun q h => by simp at h⟩ 0
  rw [Int.toNat_natCast, List.length_map]
  exact this
theorem reads_map {α β : Type} {R : α → List Value → Prop} {R' : β → List Value → Prop} {f : α → β} {sz : Nat} {w : World} {A : Option Addr} {n : Nat} {ps : List α} (h : ReadsRow R sz w A n ps) (hf : ∀ p cs, R p cs → R' (f p) cs) : ReadsRow R' sz w A n (ps.map f) := by
  refine ⟨by rw [List.length_map]; exact h.1, h.2.1, fun hn => ?_⟩
  obtain ⟨ad, e, hc⟩ := h.2.2 hn
  refine ⟨ad, e, fun j q hq => ?_⟩
  rw [List.getElem?_map] at hq
  obtain ⟨p, hp, rfl⟩ := Option.map_eq_some_iff.1 hq
  obtain ⟨c, h1, h2, h3⟩ := hc j p hp
  exact ⟨c, h1, hf _ _ h2, h3⟩
theorem reads_unmap {α β : Type} {R : α → List Value → Prop} {R' : β → List Value → Prop} {f : α → β} {sz : Nat} {w : World} {A : Option Addr} {n : Nat} {ps : List α} (h : ReadsRow R' sz w A n (ps.map f)) (hf : ∀ p cs, R' (f p) cs → R p cs) : ReadsRow R sz w A n ps := by
  refine ⟨by have := h.1; rwa [List.length_map] at this, h.2.1, fun hn => ?_⟩
  obtain ⟨ad, e, hc⟩ := h.2.2 hn
  refine ⟨ad, e, fun j p hp => ?_⟩
  obtain ⟨c, h1, h2, h3⟩ := hc j (f p) (by rw [List.getElem?_map, hp]; rfl)
  exact ⟨c, h1, hf _ _ h2, h3⟩
theorem rsorted_calls (A : Option Addr) (c : Nat) (l : List KidR) (w : World) (h : KidsAt w A l.length l) (hc : l.length ≤ c) (hn : l.length ≤ 1000) (hd : l.Nodup) :
    Calls Tryz.prog 45 #[.slice A l.length c] w fun e w' => ∃ A' c', e = .returned (.slice A' l.length c') ∧ KidsAt w' A' l.length (srt kidCmp l) ∧ Below w.heap.size w w' := by
  have hr : Kd.C k81 w A (l.map toS).length (l.map toS) := by
    rw [List.length_map]
    exact reads_map (row_of_kids h) fun p cs e => by subst e; exact k81_mk w (toS p)
  have := holtref07_Sorted.calls _ A c (l.map toS) _ w hr (by rw [List.length_map]; exact hc) (sorted_f hn hd)
  rw [List.length_map] at this
  refine this.mono ?_
  rintro e w' ⟨v, rfl, hR, hb⟩
  obtain ⟨A', c', rfl, _, hC⟩ := Kd.R_reads hR
  rw [List.length_map, srt_length] at hC ⊢
  exact ⟨A', c', rfl, kids_of_row (reads_unmap hC fun p cs e => k81_open e), hb⟩
set_option maxHeartbeats 1000000 in
theorem rall_calls (W : World) (B p : Nat) (l : List KidR) (k : Nat) (H : RT W B p l k) (hn : l.length ≤ 1000) (hd : l.Nodup) :
    Calls Tryz.prog 21 #[.pointer (some ⟨p, 0, none⟩)] W fun e w' => ∃ A' c', e = .returned (.slice A' l.length c') ∧ KidsAt w' A' l.length (srt kidCmp l) ∧ Below W.heap.size W w' := by
  obtain ⟨A, c, c0, hr, hlt⟩ := H.reads
  have hc : l.length ≤ c := by
    obtain ⟨A1, c1, vw, ws, h1, h2, _, _⟩ := H
    obtain ⟨A2, c2, e, h3, _⟩ := OwnK.kids h2
    injection e with e1 e2 e3
    have := blk_cell h1 0
    rw [c0] at this
    simp at this
    omega
  have HS := Lib.hid (rsorted_calls A c l W hr hc hn hd)
  have HB := Lib.hid (Below.refl W.heap.size W)
  clear H hr
  go_enter Tryz.func21, Tryz.ntmps21
  go_wp2_with (first
    | (go_at_call 45; go_loud ((refine HS.out.mono ?_); rintro e w1 ⟨A', c', rfl, hk, hb⟩; have HK := Lib.hid hk; clear hk; have HBn := Lib.hid (below_step (by repeat (first | (with_reducible exact HB.out) | apply below_alloc | apply pw_below_drewN | apply below_drew1 | exact HB.out)) hb); clear hb HB; have HB := HBn; clear HBn))
    | (fail "no arm"))
  go_ret
  exact ⟨_, _, rfl, HK.out, (by repeat (first | (with_reducible exact HB.out) | apply below_alloc | apply pw_below_drewN | apply below_drew1 | exact HB.out))⟩
set_option maxRecDepth 100000 in
set_option maxHeartbeats 2000000 in
theorem rof_calls (A : Option Addr) (n c : Nat) (os : List OpR) (w : World) (h : OpsAt w A n os) (hn : n ≤ 1000) (hr : ∀ o ∈ os, opRight o = true) :
    Calls Tryz.prog 20 #[.slice A n c] w fun e w' => ∃ p, e = .returned (.pointer (some ⟨p, 0, none⟩)) ∧ RT w' w.heap.size p (treeO os) n ∧ Below w.heap.size w w' := by
  have HA := Lib.hid h
  have HR := Lib.hid hr
  have HL := Lib.hid h.1
  clear h hr
  go_enter Tryz.func20, Tryz.ntmps20
  go_wp2
  go_loopw [4] (fun vi V => ∃ i : Nat, vi = .int .i64 i ∧ i ≤ n ∧ Hid (RT V w.heap.size w.heap.size (treeO (os.take i)) i) ∧ Hid (Below w.heap.size w V)) (fun vi _ => (n - (RowKit.intOf vi).toNat))
  case atStart => exact ⟨0, rfl, by omega, Lib.hid ⟨none, 0, .slice none 0 0, [], blk_new _ _, OwnRow.none_ _ _ _ _ _, World.ownsRow_nil _ _ _ _, Nat.le_refl _⟩, Lib.hid (below_alloc (Below.refl _ _) _)⟩
  case round =>
    obtain ⟨i, rfl, hi, HT, HB⟩ := hrel
    by_cases hlt : i < n
    · have hl : i < os.length := by rw [HL.out]; exact hlt
      obtain ⟨b, o, rfl, hcell⟩ := HA.out.2.2 (show 0 < n by omega)
      obtain ⟨m0, m1, m2, m3, m4⟩ := (hcell i hl).below HB.out
      have hlen : (treeO (os.take i)).length ≤ 1000 := Nat.le_trans (length_treeO _) (by rw [List.length_take]; omega)
      have HAP := Lib.hid (rapply_calls wr w.heap.size w.heap.size (treeO (os.take i)) i os[i] HT.out (HR.out _ (List.getElem_mem hl)) HB.out.size hlen (by omega))
      have HSN := Lib.hid (show treeO (os.take (i + 1)) = Tr.stepT (treeO (os.take i)) os[i] by rw [List.take_succ_eq_append_getElem hl, treeO_snoc])
      have hi1 : (0 : Int) ≤ (i : Int) := by omega
      have hi2 : (i : Int) < (n : Int) := by omega
      generalize os[i] = q at *
      simp only [opV] at HAP
      clear hcell
      go_wp2_with (first
        | (go_at_call 44; go_loud ((refine HAP.out.mono ?_); rintro e w2 ⟨⟨b2, rfl⟩, ht, hb⟩; have HT2 := Lib.hid ht; have HB2 := Lib.hid (Below.trans HB.out hb); clear ht hb m0 m1 m2 m3 m4))
        | (fail "no arm"))
      go_roundw
      case rel => exact ⟨i + 1, by go_num, by omega, Lib.hid (by rw [HSN.out]; exact HT2.out), HB2⟩
      case measure => simp [RowKit.intOf] <;> omega
    · obtain rfl : i = n := by omega
      have hT := HT.out
      rw [List.take_of_length_le (by rw [HL.out]; exact Nat.le_refl _)] at hT
      have HT2 := Lib.hid hT
      clear hT
      go_wp2
      go_ret
      exact ⟨_, rfl, HT2.out, HB.out⟩
end Go.Proofs.YtkmdmjlepmmejaaGreatDoor.Ol
/- How two operations stand: the reference. -/
namespace Go.Proofs.YtkmdmjlepmmejaaGreatDoor
open Go.RowKit Go.Proofs.YtkmdmjlepmmejaaGreatDoorW.PrintWords

set_option maxHeartbeats 2000000 in
theorem refstampcmp_calls (a b c d : Int) (w : World) : Calls Tryz.prog 84 #[.agg #[.int .i64 a, .int .i64 b], .agg #[.int .i64 c, .int .i64 d]] w fun e w' => e = .returned (.int .i64 (cmpT a b c d)) ∧ Below w.heap.size w w' := by
  have HE := Lib.hid (show cmpT a b c d = if (if a < c then -1 else if c < a then 1 else 0 : Int) = 0 then (if b < d then -1 else if d < b then 1 else 0 : Int) else (if a < c then -1 else if c < a then 1 else 0 : Int) from rfl)
  generalize cmpT a b c d = R at *
  have HB := Lib.hid (Below.refl w.heap.size w)
  by_cases h1 : a < c
  · go_enter Tryz.func84, Tryz.ntmps84
    go_wp2
    go_ret
    refine ⟨?_, (by repeat (first | (with_reducible exact HB.out) | apply below_alloc | apply pw_below_drewN | apply below_drew1 | exact HB.out))⟩
    rw [HE.out, if_pos h1]; rfl
  · by_cases h2 : c < a
    · have e1 : (a == c) = false := beq_eq_false_iff_ne.2 (by omega)
      go_enter Tryz.func84, Tryz.ntmps84
      go_wp2
      go_ret
      refine ⟨?_, (by repeat (first | (with_reducible exact HB.out) | apply below_alloc | apply pw_below_drewN | apply below_drew1 | exact HB.out))⟩
      rw [HE.out, if_neg (show ¬ a < c by omega), if_pos h2]; rfl
    · have e : a = c := by omega
      subst e
      by_cases h3 : b < d
      · go_enter Tryz.func84, Tryz.ntmps84
        go_wp2
        go_ret
        refine ⟨?_, (by repeat (first | (with_reducible exact HB.out) | apply below_alloc | apply pw_below_drewN | apply below_drew1 | exact HB.out))⟩
        rw [HE.out, if_neg (show ¬ a < a by omega), if_pos h3]; simp
      · by_cases h4 : d < b
        · go_enter Tryz.func84, Tryz.ntmps84
          go_wp2
          go_ret
          refine ⟨?_, (by repeat (first | (with_reducible exact HB.out) | apply below_alloc | apply pw_below_drewN | apply below_drew1 | exact HB.out))⟩
          rw [HE.out, if_neg (show ¬ a < a by omega), if_neg (show ¬ b < d by omega), if_pos h4]; simp
        · have e : b = d := by omega
          subst e
          go_enter Tryz.func84, Tryz.ntmps84
          go_wp2
          go_ret
          refine ⟨?_, (by repeat (first | (with_reducible exact HB.out) | apply below_alloc | apply pw_below_drewN | apply below_drew1 | exact HB.out))⟩
          rw [HE.out]; simp

set_option maxHeartbeats 2000000 in
theorem refcmp_calls (a b : OpR) (w : World) : Calls Tryz.prog 65 #[opV a, opV b] w fun e w' => e = .returned (.int .i64 (opCmp a b)) ∧ Below w.heap.size w w' := by
  have HC := Lib.hid (refstampcmp_calls a.n a.r b.n b.r)
  have HE := Lib.hid (show opCmp a b = if cmpT a.n a.r b.n b.r = 0 then (if (if a.node < b.node then -1 else if b.node < a.node then 1 else 0 : Int) = 0 then (if (if a.par < b.par then -1 else if b.par < a.par then 1 else 0 : Int) = 0 then (if Op.bytesLess a.name.toList b.name.toList = true then -1 else if (Op.bytesLess a.name.toList b.name.toList || a.name.toList == b.name.toList) = true then 0 else 1) else (if a.par < b.par then -1 else if b.par < a.par then 1 else 0 : Int)) else (if a.node < b.node then -1 else if b.node < a.node then 1 else 0 : Int)) else cmpT a.n a.r b.n b.r from rfl)
  generalize opCmp a b = R at *
  generalize cmpT a.n a.r b.n b.r = X1 at *
  obtain ⟨n, r, node, par, name⟩ := a
  obtain ⟨n', r', node', par', name'⟩ := b
  simp only [opV] at *
  have HB := Lib.hid (Below.refl w.heap.size w)
  go_enter Tryz.func65, Tryz.ntmps65
  go_wp2_with (go_at_call 84; refine (HC.out _).mono ?_; rintro e v1 ⟨rfl, hb⟩; have a2 : v1.cell? ⟨w.heap.size, 2, none⟩ = some (.int .i64 node) := pw_cell_below hb (by go_cell); have a3 : v1.cell? ⟨w.heap.size, 3, none⟩ = some (.int .i64 par) := pw_cell_below hb (by go_cell); have a4 : v1.cell? ⟨w.heap.size, 4, none⟩ = some (.string name) := pw_cell_below hb (by go_cell); have b2 : v1.cell? ⟨w.heap.size + 1, 2, none⟩ = some (.int .i64 node') := pw_cell_below hb (by go_cell); have b3 : v1.cell? ⟨w.heap.size + 1, 3, none⟩ = some (.int .i64 par') := pw_cell_below hb (by go_cell); have b4 : v1.cell? ⟨w.heap.size + 1, 4, none⟩ = some (.string name') := pw_cell_below hb (by go_cell); have HBn := Lib.hid (below_step (by repeat (first | (with_reducible exact HB.out) | apply below_alloc | apply pw_below_drewN | apply below_drew1 | exact HB.out)) hb); clear hb HB; have HB := HBn; clear HBn)
  go_ways
  all_goals (go_ret; refine ⟨?_, (by repeat (first | (with_reducible exact HB.out) | apply below_alloc | apply pw_below_drewN | apply below_drew1 | exact HB.out))⟩; rw [HE.out]; clear HC HE)
  all_goals (try simp_all)
  all_goals first
    | (have k1 : ¬ node < node' := by omega
       have k2 : node' < node := by omega
       simp [k1, k2]; done)
    | (have k1 : ¬ par < par' := by omega
       have k2 : par' < par := by omega
       simp [k1, k2]; done)
end Go.Proofs.YtkmdmjlepmmejaaGreatDoor
/- The reference's log: Has, With. -/
namespace Go.Proofs.YtkmdmjlepmmejaaGreatDoor.Ol
open Go.RowKit Go.Sort Go.Proofs.YtkmdmjlepmmejaaGreatDoorW.PrintWords Tr
attribute [local go_sem high] eqOp

set_option maxHeartbeats 2000000 in
theorem rhas_calls (A : Option Addr) (n c : Nat) (l : List OpR) (o : OpR) (w : World) (h : OpsAt w A n l) (hn : n ≤ 1000000) :
    Calls Tryz.prog 23 #[.slice A n c, opV o] w fun e w' => e = .returned (.bool (hasO l o)) ∧ Below w.heap.size w w' := by
  have HA := Lib.hid h
  have HB := Lib.hid (Below.refl w.heap.size w)
  clear h
  simp only [opV]
  go_enter Tryz.func23, Tryz.ntmps23
  go_wp2
  go_loopw [5] (fun vi V => ∃ i : Nat, vi = .int .i64 i ∧ i ≤ n ∧ Hid (∀ x ∈ l.take i, x ≠ o) ∧ Hid (OpIn w.heap.size 0 o V) ∧ Hid (Below w.heap.size w V)) (fun vi _ => (n - (RowKit.intOf vi).toNat))
  case atStart => exact ⟨0, rfl, by omega, Lib.hid (by simp), Lib.hid ⟨by go_cell, by go_cell, by go_cell, by go_cell, by go_cell⟩, Lib.hid (below_alloc HB.out _)⟩
  case round =>
    clear HB
    obtain ⟨i, rfl, hi, HN, HO, HB⟩ := hrel
    by_cases hlt : i < n
    · have hl : i < l.length := by rw [HA.out.1]; exact hlt
      obtain ⟨b, p, rfl, hcell⟩ := HA.out.2.2 (show 0 < n by omega)
      obtain ⟨m0, m1, m2, m3, m4⟩ := (hcell i hl).below HB.out
      obtain ⟨q0, q1, q2, q3, q4⟩ := HO.out
      rw [Nat.zero_add] at q1 q2 q3 q4
      have HEQ := Lib.hid (eqB_iff l[i] o)
      have HSN := Lib.hid (show l[i] ≠ o → ∀ x ∈ l.take (i + 1), x ≠ o from fun hne x hx => by
        rw [List.take_succ_eq_append_getElem hl, List.mem_append, List.mem_singleton] at hx
        exact hx.elim (HN.out x) (fun e => by rw [e]; exact hne))
      have HY := Lib.hid (show l[i] = o → hasO l o = true from fun e => hasO_iff.2 (e ▸ List.getElem_mem hl))
      have hi1 : (0 : Int) ≤ (i : Int) := by omega
      have hi2 : (i : Int) < (n : Int) := by omega
      generalize l[i] = q at *
      clear hcell
      cases he : eqB q.n q.r q.node q.par q.name o.n o.r o.node o.par o.name
      · have HS2 := Lib.hid (HSN.out fun e => by rw [HEQ.out.2 e] at he; cases he)
        have HE := Lib.hid he
        clear he
        go_wp2
        go_quiet (fail)
        rw [HE.out]
        go_wp2
        go_roundw
        case rel => exact ⟨i + 1, by go_num, by omega, HS2, Lib.hid (HO.out.at_ rfl), Lib.hid (pw_below_drewN HB.out _)⟩
        case measure => simp [RowKit.intOf] <;> omega
      · have HR := Lib.hid (HY.out (HEQ.out.1 he))
        have HE := Lib.hid he
        clear he
        go_wp2
        go_quiet (fail)
        rw [HE.out]
        go_wp2
        go_ret
        rw [HR.out]
        exact ⟨rfl, pw_below_drewN HB.out _⟩
    · obtain rfl : i = n := by omega
      have hall := HN.out
      rw [List.take_of_length_le (by rw [HA.out.1]; exact Nat.le_refl _)] at hall
      have HALL := Lib.hid (show hasO l o = false from by
        cases hh : hasO l o with
        | false => rfl
        | true => exact absurd rfl (hall o (hasO_iff.1 hh)))
      clear hall
      go_wp2
      go_ret
      rw [HALL.out]
      exact ⟨rfl, HB.out⟩
/-- A list in order into which one more is put, so far. -/
def insO (l : List OpR) (o : OpR) (i : Nat) : List OpR := if atO l o < i then l.take (atO l o) ++ o :: (l.take i).drop (atO l o) else l.take i
theorem ins_lt {l : List OpR} {o : OpR} {i : Nat} (hi : i < l.length) (h : i < atO l o) : insO l o (i + 1) = insO l o i ++ [l[i]] := by
  unfold insO
  rw [if_neg (by omega), if_neg (by omega), List.take_succ_eq_append_getElem hi]
theorem ins_eq {l : List OpR} {o : OpR} {i : Nat} (hi : i < l.length) (h : i = atO l o) : insO l o (i + 1) = insO l o i ++ [o] ++ [l[i]] := by
  unfold insO
  rw [if_pos (by omega), if_neg (by omega), ← h, List.take_succ_eq_append_getElem hi, List.drop_append_of_le_length (by rw [List.length_take]; omega), List.drop_of_length_le (by rw [List.length_take]; omega)]
  simp
theorem ins_gt {l : List OpR} {o : OpR} {i : Nat} (hi : i < l.length) (h : atO l o < i) : insO l o (i + 1) = insO l o i ++ [l[i]] := by
  unfold insO
  rw [if_pos (by omega), if_pos h, List.take_succ_eq_append_getElem hi, List.drop_append_of_le_length (by rw [List.length_take]; omega)]
  simp
theorem ins_len (l : List OpR) (o : OpR) (i : Nat) : (insO l o i).length ≤ l.length + 1 := by
  unfold insO
  split
  · simp only [List.length_append, List.length_cons, List.length_take, List.length_drop]; omega
  · rw [List.length_take]; omega
theorem ins_fin {l : List OpR} (ha : AscO l) {o : OpR} (ho : o ∉ l) : l.take (atO l o) ++ o :: l.drop (atO l o) = joinO l [o] := by
  have hgt : ∀ (i : Nat) (hi : i < l.length), ¬ i < atO l o → opCmp o l[i] < 0 := fun i hi h => by
    have h1 := atO_lt ha (o := o) hi
    have h2 := opOrd.neg l[i] o
    have h3 : opCmp l[i] o ≠ 0 := fun e => ho ((opCmp_zero _ _).1 e ▸ List.getElem_mem hi)
    have h4 : ¬ opCmp l[i] o < 0 := fun e => h (h1.1 e)
    omega
  refine asc_ext opOrd ?_ (joinO_asc ha _) fun x => ?_
  · unfold Asc
    rw [List.pairwise_append]
    refine ⟨List.Pairwise.sublist (List.take_sublist _ _) ha, ?_, fun a h1 b h2 => ?_⟩
    · rw [List.pairwise_cons]
      refine ⟨fun b h => ?_, List.Pairwise.sublist (List.drop_sublist _ _) ha⟩
      obtain ⟨j, hj, rfl⟩ := List.getElem_of_mem h
      rw [List.length_drop] at hj
      rw [List.getElem_drop]
      exact hgt _ (by omega) (by omega)
    · obtain ⟨i, hi, rfl⟩ := List.getElem_of_mem h1
      rw [List.length_take] at hi
      rw [List.getElem_take]
      have h3 := (atO_lt ha (o := o) (i := i) (by omega)).2 (by omega)
      rcases List.mem_cons.1 h2 with rfl | h2
      · exact h3
      · obtain ⟨j, hj, rfl⟩ := List.getElem_of_mem h2
        rw [List.length_drop] at hj
        rw [List.getElem_drop]
        exact opOrd.lt_trans h3 (hgt _ (by omega) (by omega))
  · rw [mem_joinO, List.mem_append, List.mem_cons, List.mem_singleton]
    conv => rhs; rw [← List.take_append_drop (atO l o) l]
    rw [List.mem_append]
    constructor
    · rintro (h | h | h)
      · exact .inl (.inl h)
      · exact .inr h
      · exact .inl (.inr h)
    · rintro ((h | h) | h)
      · exact .inl h
      · exact .inr (.inr h)
      · exact .inr (.inl h)
/-- A slice is the one that was there, or lies between B and the world's end. -/
def Orig (B : Nat) (W : World) (A A' : Option Addr) : Prop := A' = A ∨ ∀ a, A' = some a → B ≤ a.block ∧ a.block < W.heap.size
theorem own_orig {W : World} {B n c : Nat} {A : Option Addr} {l : List OpR} (h : OwnO W B (.slice A n c) l) : ∀ a, A = some a → B ≤ a.block ∧ a.block < W.heap.size := by
  obtain ⟨inner, hrow, _⟩ := h
  rcases hrow.2 with ⟨h', _⟩ | ⟨g, cap, cur, h', hb, hg, _⟩
  · cases h'; rintro a ⟨⟩
  · cases h'; rintro a ⟨⟩; exact ⟨hb, blk_lt hg⟩
theorem Orig.step {B B' : Nat} {W W' : World} {A A1 A2 : Option Addr} (h : Orig B W A A1) (k : Orig B' W' A1 A2) (hb : B ≤ B') (hw : W.heap.size ≤ W'.heap.size) : Orig B W' A A2 := k.elim (fun e => h.elim (fun e' => .inl (e.trans e')) (fun h => .inr fun a ea => ⟨(h a (e ▸ ea)).1, Nat.lt_of_lt_of_le (h a (e ▸ ea)).2 hw⟩)) (fun k => .inr fun a e => ⟨Nat.le_trans hb (k a e).1, (k a e).2⟩)
theorem Orig.grow {B : Nat} {W W' : World} {A A1 : Option Addr} (h : Orig B W A A1) (hw : W.heap.size ≤ W'.heap.size) : Orig B W' A A1 := h.elim .inl (fun h => .inr fun a e => ⟨(h a e).1, Nat.lt_of_lt_of_le (h a e).2 hw⟩)
set_option maxRecDepth 100000 in
set_option maxHeartbeats 4000000 in
theorem rwith_callsX (A : Option Addr) (n c : Nat) (l : List OpR) (o : OpR) (w : World) (h : OpsAt w A n l) (ha : AscO l) (hn : n ≤ 1000) :
    Calls Tryz.prog 38 #[.slice A n c, opV o] w fun e w' => ∃ A' c', e = .returned (.slice A' (joinO l [o]).length c') ∧ OpsAt w' A' (joinO l [o]).length (joinO l [o]) ∧ Below w.heap.size w w' ∧ Orig w.heap.size w' A A' := by
  have HH := Lib.hid (fun (V : World) (hV : Below w.heap.size w V) => rhas_calls A n c l o V (h.below hV) (by omega))
  have HB := Lib.hid (Below.refl w.heap.size w)
  have HA := Lib.hid h
  have HASC := Lib.hid ha
  have HL := Lib.hid h.1
  clear h ha
  cases hh : hasO l o with
  | true =>
    have hj : joinO l [o] = l := joinO_nil HASC.out (newOf_none fun q hq => by rw [List.mem_singleton.1 hq]; exact hasO_iff.1 hh)
    rw [hj, HL.out]
    rw [hh] at HH
    clear hj
    simp only [opV] at HH ⊢
    go_enter Tryz.func38, Tryz.ntmps38
    go_wp2_with (first
      | (go_at_call 23; (refine (HH.out _ (by repeat (first | (with_reducible exact HB.out) | apply below_alloc | apply pw_below_drewN | apply below_drew1 | exact HB.out))).mono ?_); rintro e w1 ⟨rfl, hb⟩; have HBn := Lib.hid (below_step (by repeat (first | (with_reducible exact HB.out) | apply below_alloc | apply pw_below_drewN | apply below_drew1 | exact HB.out)) hb); clear hb HB; have HB := HBn; clear HBn)
      | (fail "no arm"))
    go_ret
    exact ⟨_, _, rfl, HA.out.below (by repeat (first | (with_reducible exact HB.out) | apply below_alloc | apply pw_below_drewN | apply below_drew1 | exact HB.out)), (by repeat (first | (with_reducible exact HB.out) | apply below_alloc | apply pw_below_drewN | apply below_drew1 | exact HB.out)), .inl rfl⟩
  | false =>
    have hno : o ∉ l := fun e => by rw [hasO_iff.2 e] at hh; cases hh
    have HF := Lib.hid (ins_fin HASC.out hno)
    have HLT := Lib.hid (show ∀ (i : Nat) (hi : i < l.length), ¬ i < atO l o → opCmp o l[i] < 0 from fun i hi h => by
      have h1 := atO_lt HASC.out (o := o) hi
      have h2 := opOrd.neg l[i] o
      have h3 : opCmp l[i] o ≠ 0 := fun e => hno ((opCmp_zero _ _).1 e ▸ List.getElem_mem hi)
      have h4 : ¬ opCmp l[i] o < 0 := fun e => h (h1.1 e)
      omega)
    have HGE := Lib.hid (show ∀ (i : Nat) (hi : i < l.length), i < atO l o → ¬ opCmp o l[i] < 0 from fun i hi h => by
      have h1 := (atO_lt HASC.out (o := o) hi).2 h
      have h2 := opOrd.neg l[i] o
      omega)
    have hle := atO_le l o
    rw [HL.out] at hle
    rw [hh] at HH
    have HC := Lib.hid (fun (q : OpR) (V : World) => refcmp_calls o q V)
    simp only [opV] at HH HC ⊢
    go_enter Tryz.func38, Tryz.ntmps38
    go_wp2_with (first
      | (go_at_call 23; (refine (HH.out _ (by repeat (first | (with_reducible exact HB.out) | apply below_alloc | apply pw_below_drewN | apply below_drew1 | exact HB.out))).mono ?_); rintro e w1 ⟨rfl, hb⟩; have HO := Lib.hid (show OpIn w.heap.size 0 o w1 from ⟨pw_cell_below hb (by go_cell), pw_cell_below hb (by go_cell), pw_cell_below hb (by go_cell), pw_cell_below hb (by go_cell), pw_cell_below hb (by go_cell)⟩); have HBn := Lib.hid (below_step (by repeat (first | (with_reducible exact HB.out) | apply below_alloc | apply pw_below_drewN | apply below_drew1 | exact HB.out)) hb); clear hb HB; have HB := HBn; clear HBn)
      | (fail "no arm"))
    go_loopw [6, 7, 8] (fun v6 v7 v8 V => ∃ (i : Nat) (pt : Bool), v7 = .bool pt ∧ pt = decide (atO l o < i) ∧ v8 = .int .i64 i ∧ i ≤ n ∧ Hid (OwnO V w1.heap.size v6 (insO l o i)) ∧ Hid (Below w1.heap.size w1 V)) (fun _ _ v8 _ => (n - (RowKit.intOf v8).toNat))
    case atStart => exact ⟨0, false, rfl, by simp, rfl, by omega, Lib.hid (by unfold insO; rw [if_neg (by omega)]; exact OwnRow.none_ _ _ _ _ _), Lib.hid (Below.refl _ _)⟩
    case round =>
      have HBW := HB
      clear HB
      obtain ⟨i, pt, rfl, hpt, rfl, hi, HQ, HBV⟩ := hrel
      have Q0 := Lib.hid (pw_cell_below HBV.out HO.out.1)
      have Q1 := Lib.hid (pw_cell_below HBV.out HO.out.2.1)
      have Q2 := Lib.hid (pw_cell_below HBV.out HO.out.2.2.1)
      have Q3 := Lib.hid (pw_cell_below HBV.out HO.out.2.2.2.1)
      have Q4 := Lib.hid (pw_cell_below HBV.out HO.out.2.2.2.2)
      have hbx : w.heap.size < wr.heap.size := cell_lt Q0.out
      by_cases hlt : i < n
      · have hl : i < l.length := by rw [HL.out]; exact hlt
        obtain ⟨b, p, rfl, hcell⟩ := HA.out.2.2 (show 0 < n by omega)
        have M := Lib.hid ((hcell i hl).below (below_step HBW.out HBV.out))
        have hi1 : (0 : Int) ≤ (i : Int) := by omega
        have hi2 : (i : Int) < (n : Int) := by omega
        have hlen := ins_len l o i
        rw [HL.out] at hlen
        have hLT := HLT.out i hl
        have hGE := HGE.out i hl
        have hS1 := ins_lt (o := o) hl
        have hS2 := ins_eq (o := o) hl
        have hS3 := ins_gt (o := o) hl
        have HCQ := Lib.hid (HC.out l[i])
        have HB := Lib.hid (Below.refl wr.heap.size wr)
        have HM := Lib.hid (fun (V : World) (h : Below w1.heap.size w1 V) => (hcell i hl).below (below_step HBW.out h))
        clear hcell
        generalize l[i] = q at *
        generalize opCmp o q = X at *
        rcases Nat.lt_trichotomy i (atO l o) with h | h | h
        · obtain rfl : pt = false := by rw [hpt]; exact decide_eq_false (by omega)
          have HS := Lib.hid (hS1 h)
          have hX : decide (X < 0) = false := decide_eq_false (by have := hGE h; omega)
          clear hLT hGE hS1 hS2 hS3 hpt
          go_wp2
          go_region_held3 (fun Z => Z.cell? ⟨b, p + i * 5, none⟩ = some (.int .i64 q.n) ∧ Z.cell? ⟨b, p + i * 5 + 1, none⟩ = some (.int .i64 q.r) ∧ Z.cell? ⟨b, p + i * 5 + 2, none⟩ = some (.int .i64 q.node) ∧ Z.cell? ⟨b, p + i * 5 + 3, none⟩ = some (.int .i64 q.par) ∧ Z.cell? ⟨b, p + i * 5 + 4, none⟩ = some (.string q.name) ∧ Z.cell? ⟨w.heap.size, 0, none⟩ = some (.int .i64 o.n) ∧ Z.cell? ⟨w.heap.size, 1, none⟩ = some (.int .i64 o.r) ∧ Z.cell? ⟨w.heap.size, 2, none⟩ = some (.int .i64 o.node) ∧ Z.cell? ⟨w.heap.size, 3, none⟩ = some (.int .i64 o.par) ∧ Z.cell? ⟨w.heap.size, 4, none⟩ = some (.string o.name))
            (exact ⟨pw_cell_below (by repeat (first | (with_reducible exact HB.out) | apply below_alloc | apply pw_below_drewN | apply below_drew1 | exact HB.out)) M.out.1, pw_cell_below (by repeat (first | (with_reducible exact HB.out) | apply below_alloc | apply pw_below_drewN | apply below_drew1 | exact HB.out)) M.out.2.1, pw_cell_below (by repeat (first | (with_reducible exact HB.out) | apply below_alloc | apply pw_below_drewN | apply below_drew1 | exact HB.out)) M.out.2.2.1, pw_cell_below (by repeat (first | (with_reducible exact HB.out) | apply below_alloc | apply pw_below_drewN | apply below_drew1 | exact HB.out)) M.out.2.2.2.1, pw_cell_below (by repeat (first | (with_reducible exact HB.out) | apply below_alloc | apply pw_below_drewN | apply below_drew1 | exact HB.out)) M.out.2.2.2.2, pw_cell_below (by repeat (first | (with_reducible exact HB.out) | apply below_alloc | apply pw_below_drewN | apply below_drew1 | exact HB.out)) Q0.out, pw_cell_below (by repeat (first | (with_reducible exact HB.out) | apply below_alloc | apply pw_below_drewN | apply below_drew1 | exact HB.out)) Q1.out, pw_cell_below (by repeat (first | (with_reducible exact HB.out) | apply below_alloc | apply pw_below_drewN | apply below_drew1 | exact HB.out)) Q2.out, pw_cell_below (by repeat (first | (with_reducible exact HB.out) | apply below_alloc | apply pw_below_drewN | apply below_drew1 | exact HB.out)) Q3.out, pw_cell_below (by repeat (first | (with_reducible exact HB.out) | apply below_alloc | apply pw_below_drewN | apply below_drew1 | exact HB.out)) Q4.out⟩)
            (first
              | (go_at_call 65; (refine (HCQ.out _).mono ?_); rintro e w3 ⟨rfl, hb⟩; have HBn := Lib.hid (below_step (by repeat (first | (with_reducible exact HB.out) | apply below_alloc | apply pw_below_drewN | apply below_drew1 | exact HB.out)) hb); clear hb HB; have HB := HBn; clear HBn)
              | (fail "no arm"))
          have HQ2 := Lib.hid (OwnRow.below HQ.out HB.out)
          have HBV2 := Lib.hid (below_step HBV.out HB.out)
          obtain ⟨m0, m1, m2, m3, m4⟩ := M.out.below HB.out
          go_wp2_with (first
            | (at_builtin; ((refine OwnRow.append (R := fun p cs => cs = opCells p) (w0 := w1) w1.heap.size rfl (.tmp 35) (.tmp 40) 27 50 _ 5 48 rfl Tryz.underlying27 opInfo rfl (by decide) (by decide) _ _ q [.int .i64 q.n, .int .i64 q.r, .int .i64 q.node, .int .i64 q.par, .string q.name] (by rfl) (by simp [Act.eval]) rfl rfl (by simp [Value.oneCell']) HQ2.out HBV2.out HBV2.out.size ?hl ?_; (case hl => first | omega | (simp only [List.length_append, List.length_singleton]; omega)); intro v5 w5 ho hb hg hat; have HO5 := Lib.hid ho; have HB5 := Lib.hid hb; clear ho hb hg hat)))
            | (fail "no arm"))
          go_roundw
          case rel => exact ⟨i + 1, false, rfl, by symm; exact decide_eq_false (by omega), by go_num, by omega, Lib.hid (by rw [HS.out]; exact HO5.out), HB5⟩
          case measure => simp [RowKit.intOf] <;> omega
        · obtain rfl : pt = false := by rw [hpt]; exact decide_eq_false (by omega)
          have HS := Lib.hid (hS2 h)
          have hX : decide (X < 0) = true := decide_eq_true (hLT (by omega))
          have HE := Lib.hid h
          clear hLT hGE hS1 hS2 hS3 hpt h
          go_wp2
          go_region_held3 (fun Z => Z.cell? ⟨b, p + i * 5, none⟩ = some (.int .i64 q.n) ∧ Z.cell? ⟨b, p + i * 5 + 1, none⟩ = some (.int .i64 q.r) ∧ Z.cell? ⟨b, p + i * 5 + 2, none⟩ = some (.int .i64 q.node) ∧ Z.cell? ⟨b, p + i * 5 + 3, none⟩ = some (.int .i64 q.par) ∧ Z.cell? ⟨b, p + i * 5 + 4, none⟩ = some (.string q.name) ∧ Z.cell? ⟨w.heap.size, 0, none⟩ = some (.int .i64 o.n) ∧ Z.cell? ⟨w.heap.size, 1, none⟩ = some (.int .i64 o.r) ∧ Z.cell? ⟨w.heap.size, 2, none⟩ = some (.int .i64 o.node) ∧ Z.cell? ⟨w.heap.size, 3, none⟩ = some (.int .i64 o.par) ∧ Z.cell? ⟨w.heap.size, 4, none⟩ = some (.string o.name))
            (exact ⟨pw_cell_below (by repeat (first | (with_reducible exact HB.out) | apply below_alloc | apply pw_below_drewN | apply below_drew1 | exact HB.out)) M.out.1, pw_cell_below (by repeat (first | (with_reducible exact HB.out) | apply below_alloc | apply pw_below_drewN | apply below_drew1 | exact HB.out)) M.out.2.1, pw_cell_below (by repeat (first | (with_reducible exact HB.out) | apply below_alloc | apply pw_below_drewN | apply below_drew1 | exact HB.out)) M.out.2.2.1, pw_cell_below (by repeat (first | (with_reducible exact HB.out) | apply below_alloc | apply pw_below_drewN | apply below_drew1 | exact HB.out)) M.out.2.2.2.1, pw_cell_below (by repeat (first | (with_reducible exact HB.out) | apply below_alloc | apply pw_below_drewN | apply below_drew1 | exact HB.out)) M.out.2.2.2.2, pw_cell_below (by repeat (first | (with_reducible exact HB.out) | apply below_alloc | apply pw_below_drewN | apply below_drew1 | exact HB.out)) Q0.out, pw_cell_below (by repeat (first | (with_reducible exact HB.out) | apply below_alloc | apply pw_below_drewN | apply below_drew1 | exact HB.out)) Q1.out, pw_cell_below (by repeat (first | (with_reducible exact HB.out) | apply below_alloc | apply pw_below_drewN | apply below_drew1 | exact HB.out)) Q2.out, pw_cell_below (by repeat (first | (with_reducible exact HB.out) | apply below_alloc | apply pw_below_drewN | apply below_drew1 | exact HB.out)) Q3.out, pw_cell_below (by repeat (first | (with_reducible exact HB.out) | apply below_alloc | apply pw_below_drewN | apply below_drew1 | exact HB.out)) Q4.out⟩)
            (first
              | (go_at_call 65; (refine (HCQ.out _).mono ?_); rintro e w3 ⟨rfl, hb⟩; have HBn := Lib.hid (below_step (by repeat (first | (with_reducible exact HB.out) | apply below_alloc | apply pw_below_drewN | apply below_drew1 | exact HB.out)) hb); clear hb HB; have HB := HBn; clear HBn)
              | (fail "no arm"))
          have HQ2 := Lib.hid (OwnRow.below HQ.out HB.out)
          have HBV2 := Lib.hid (below_step HBV.out HB.out)
          have t0 := pw_cell_below HB.out Q0.out
          have t1 := pw_cell_below HB.out Q1.out
          have t2 := pw_cell_below HB.out Q2.out
          have t3 := pw_cell_below HB.out Q3.out
          have t4 := pw_cell_below HB.out Q4.out
          go_wp2_with (first
            | (at_builtin; ((refine OwnRow.append (R := fun p cs => cs = opCells p) (w0 := w1) w1.heap.size rfl (.tmp 31) (.tmp 33) 27 50 _ 5 48 rfl Tryz.underlying27 opInfo rfl (by decide) (by decide) _ _ o [.int .i64 o.n, .int .i64 o.r, .int .i64 o.node, .int .i64 o.par, .string o.name] (by rfl) (by simp [Act.eval]) rfl rfl (by simp [Value.oneCell']) HQ2.out HBV2.out HBV2.out.size ?hl ?_; (case hl => first | omega | (simp only [List.length_append, List.length_singleton]; omega)); intro v4 w4 ho hb hg hat; have HO4 := Lib.hid ho; have HB4 := Lib.hid hb; clear ho hb hg hat; have HM4 := Lib.hid (HM.out _ HB4.out); obtain ⟨m0, m1, m2, m3, m4⟩ := HM4.out; clear t0 t1 t2 t3 t4)))
            | (at_builtin; ((refine OwnRow.append (R := fun p cs => cs = opCells p) (w0 := w1) w1.heap.size rfl (.tmp 35) (.tmp 40) 27 50 _ 5 48 rfl Tryz.underlying27 opInfo rfl (by decide) (by decide) _ _ q [.int .i64 q.n, .int .i64 q.r, .int .i64 q.node, .int .i64 q.par, .string q.name] (by rfl) (by simp [Act.eval]) rfl rfl (by simp [Value.oneCell']) HO4.out HB4.out HB4.out.size ?hl ?_; (case hl => first | omega | (simp only [List.length_append, List.length_singleton]; omega)); intro v5 w5 ho hb hg hat; have HO5 := Lib.hid ho; have HB5 := Lib.hid hb; clear ho hb hg hat)))
            | (fail "no arm"))
          go_roundw
          case rel => exact ⟨i + 1, true, rfl, by symm; exact decide_eq_true (by have := HE.out; omega), by go_num, by omega, Lib.hid (by rw [HS.out]; exact HO5.out), HB5⟩
          case measure => simp [RowKit.intOf] <;> omega
        · obtain rfl : pt = true := by rw [hpt]; exact decide_eq_true (by omega)
          have HS := Lib.hid (hS3 h)
          clear hLT hGE hS1 hS2 hS3 hpt
          go_wp2
          go_quiet (fail)
          have HQ2 := Lib.hid (show OwnO (wr.drewN nq) w1.heap.size u6 (insO l o i) from OwnRow.below HQ.out (pw_below_drewN (Below.refl _ _) _))
          have HBV2 := Lib.hid (show Below w1.heap.size w1 (wr.drewN nq) from pw_below_drewN HBV.out _)
          obtain ⟨m0, m1, m2, m3, m4⟩ := M.out
          go_wp2_with (first
            | (at_builtin; ((refine OwnRow.append (R := fun p cs => cs = opCells p) (w0 := w1) w1.heap.size rfl (.tmp 35) (.tmp 40) 27 50 _ 5 48 rfl Tryz.underlying27 opInfo rfl (by decide) (by decide) _ _ q [.int .i64 q.n, .int .i64 q.r, .int .i64 q.node, .int .i64 q.par, .string q.name] (by rfl) (by simp [Act.eval]) rfl rfl (by simp [Value.oneCell']) HQ2.out HBV2.out HBV2.out.size ?hl ?_; (case hl => first | omega | (simp only [List.length_append, List.length_singleton]; omega)); intro v5 w5 ho hb hg hat; have HO5 := Lib.hid ho; have HB5 := Lib.hid hb; clear ho hb hg hat)))
            | (fail "no arm"))
          go_roundw
          case rel => exact ⟨i + 1, true, rfl, by symm; exact decide_eq_true (by omega), by go_num, by omega, Lib.hid (by rw [HS.out]; exact HO5.out), HB5⟩
          case measure => simp [RowKit.intOf] <;> omega
      · obtain rfl : i = n := by omega
        have hlen := ins_len l o i
        rw [HL.out] at hlen
        have htk : l.take i = l := List.take_of_length_le (by rw [HL.out]; exact Nat.le_refl _)
        by_cases hat : atO l o < i
        · obtain rfl : pt = true := by rw [hpt]; exact decide_eq_true hat
          have HS := Lib.hid (show insO l o i = joinO l [o] from by unfold insO; rw [if_pos hat, htk]; exact HF.out)
          have hQ := HQ.out
          rw [HS.out] at hQ
          obtain ⟨A7, c7, rfl, _, hr7⟩ := OwnO.ops hQ
          have HG7 := Lib.hid (fun a e => And.intro (Nat.le_trans HBW.out.size (own_orig hQ a e).1) (own_orig hQ a e).2)
          have HR7 := Lib.hid hr7
          clear hpt htk hr7 hQ
          go_wp2
          go_ret
          exact ⟨_, _, rfl, HR7.out, below_step HBW.out HBV.out, .inr HG7.out⟩
        · obtain rfl : pt = false := by rw [hpt]; exact decide_eq_false hat
          have HS := Lib.hid (show insO l o i ++ [o] = joinO l [o] from by
            unfold insO
            rw [if_neg hat, htk, ← HF.out, show atO l o = i by omega, htk, List.drop_of_length_le (by rw [HL.out]; exact Nat.le_refl _)])
          have t0 := Q0.out
          have t1 := Q1.out
          have t2 := Q2.out
          have t3 := Q3.out
          have t4 := Q4.out
          clear hpt htk
          go_wp2_with (first
            | (at_builtin; ((refine OwnRow.append (R := fun p cs => cs = opCells p) (w0 := w1) w1.heap.size rfl (.tmp 44) (.tmp 46) 27 50 _ 5 48 rfl Tryz.underlying27 opInfo rfl (by decide) (by decide) _ _ o [.int .i64 o.n, .int .i64 o.r, .int .i64 o.node, .int .i64 o.par, .string o.name] (by rfl) (by simp [Act.eval]) rfl rfl (by simp [Value.oneCell']) HQ.out HBV.out HBV.out.size ?hl ?_; (case hl => first | omega | (simp only [List.length_append, List.length_singleton]; omega)); intro v5 w5 ho hb hg hat; have HO5 := Lib.hid ho; have HB5 := Lib.hid hb; clear ho hb hg hat)))
            | (fail "no arm"))
          have hQ := HO5.out
          rw [HS.out] at hQ
          obtain ⟨A7, c7, rfl, _, hr7⟩ := OwnO.ops hQ
          have HG7 := Lib.hid (fun a e => And.intro (Nat.le_trans HBW.out.size (own_orig hQ a e).1) (own_orig hQ a e).2)
          have HR7 := Lib.hid hr7
          clear hr7 hQ
          go_ret
          exact ⟨_, _, rfl, HR7.out, below_step HBW.out HB5.out, .inr HG7.out⟩
theorem rwith_calls (A : Option Addr) (n c : Nat) (l : List OpR) (o : OpR) (w : World) (h : OpsAt w A n l) (ha : AscO l) (hn : n ≤ 1000) :
    Calls Tryz.prog 38 #[.slice A n c, opV o] w fun e w' => ∃ A' c', e = .returned (.slice A' (joinO l [o]).length c') ∧ OpsAt w' A' (joinO l [o]).length (joinO l [o]) ∧ Below w.heap.size w w' :=
  (rwith_callsX A n c l o w h ha hn).mono fun _ _ ⟨A', c', e, h1, h2, _⟩ => ⟨A', c', e, h1, h2⟩
end Go.Proofs.YtkmdmjlepmmejaaGreatDoor.Ol
