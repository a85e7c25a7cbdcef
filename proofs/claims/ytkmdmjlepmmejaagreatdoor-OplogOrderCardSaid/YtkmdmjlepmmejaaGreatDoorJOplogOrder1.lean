/-
  The row and the card of the law OplogOrder, out of its walk.
-/
import Derived.Test.YtkmdmjlepmmejaaGreatDoorB9
import Derived.Deep.Cut
import Derived.Deep.RegionHeld3
import Derived.Test.YtkmdmjlepmmejaaGreatDoorRows
import Derived.Test.YtkmdmjlepmmejaaGreatDoorCards
import Derived.Test.YtkmdmjlepmmejaaGreatDoorTie
import Derived.WalkKit
import Derived.ProofKit
import Derived.OpenShut
import Derived.ShutString
import Derived.ChangeOld
import Derived.Below
import Derived.SizedLaws
import Derived.SevenTiedAt
import Derived.Deep.DeepHandedRow
import Derived.Deep.DeepWitnessRowRef
/- append(v, x...) at lists of operations, x wherever it lies, empty or not. -/
namespace Go.Proofs.YtkmdmjlepmmejaaGreatDoor.Ol
open Go.RowKit Go.Sort Go.Proofs.YtkmdmjlepmmejaaGreatDoorW.PrintWords Tr

def opRKd : Kd OpR where
  sz := 5
  E := []
  K := fun _ p cs => cs = opCells p
  M := fun _ _ _ p cs => cs = opCells p
  K_len := fun h => by rw [h]; rfl
  K_one := fun h u hu => opCells_one _ u (by rw [← h]; exact hu)
  K_below := fun _ h => h
  K_of_M := fun h => h
  M_mono := fun _ h => h
  M_bound := fun h => h
  M_move := fun _ h => h
  M_lower := fun _ h => h
theorem row_of_ops {w : World} {A : Option Addr} {n : Nat} {os : List OpR} (h : OpsAt w A n os) : ReadsRow (fun p cs => cs = opCells p) 5 w A n os := by
  refine ⟨h.1, h.2.1, fun hn => ?_⟩
  obtain ⟨b, o, rfl, hc⟩ := h.2.2 hn
  refine ⟨_, rfl, fun j p hp => ⟨opCells p, rfl, rfl, fun i u hu => ?_⟩⟩
  obtain ⟨hj, rfl⟩ := List.getElem?_eq_some_iff.1 hp
  obtain ⟨k0, k1, k2, k3, k4⟩ := hc j hj
  rw [addO, ← Nat.add_assoc]
  match i, hu with
  | 0, hu => cases hu; exact k0
  | 1, hu => cases hu; exact k1
  | 2, hu => cases hu; exact k2
  | 3, hu => cases hu; exact k3
  | 4, hu => cases hu; exact k4
theorem own_empty (W : World) {B : Nat} (hB : B ≤ W.heap.size) : OwnO (W.alloc (.cells #[] 50)) B (.slice (some ⟨W.heap.size, 0, none⟩) 0 0) [] :=
  ⟨[], ⟨rfl, .inr ⟨W.heap.size, 0, #[], rfl, hB, blk_new _ _, Nat.le_refl _, by unfold maxLen; omega, rfl, rfl⟩⟩, Reps.none _ _⟩
theorem appO {w0 W : World} {ops : Array Oper} {rest : List Oper} {o : Oper} {a : Act} {Q : Exit → Act → World → Prop} (base : Nat) (hgd : o.guard = none) (s x : Operand)
    (ho : o.op = .call { callee := .builtin .append, args := #[s, x], argTypes := #[27, 27] }) (v : Value) (l news : List OpR) (A : Option Addr) (m c : Nat) (hs : a.eval s = v) (hx : a.eval x = .slice A m c)
    (HO : OwnO W base v l) (HR : OpsAt W A m news) (HB : Below base w0 W) (hbase : base ≤ W.heap.size) (hl : l.length + m ≤ 1000000)
    (h : ∀ v1 w1, OwnO w1 base v1 (l ++ news) → Below base w0 w1 → W.grownBy w1 v.ownBlock → (v1.ownBlock = v.ownBlock ∨ ∃ b, v1.ownBlock = some b ∧ W.heap.size ≤ b) → wpList Tryz.prog ops Q rest (a.put o.dst v1) w1) :
    wpList Tryz.prog ops Q (o :: rest) a W :=
  Kd.R_append_rows opRKd (Rr := fun p cs => cs = opCells p) base hgd s x 27 50 _ 48 ho Tryz.underlying27 opInfo rfl (by decide) (by decide) v l news A m c (fun _ => True) (fun _ => False) hs hx ⟨fun _ _ => trivial, HO⟩ (row_of_ops HR) (fun _ _ h => h) (fun _ hk => hk.elim) (fun _ _ => trivial) HB hbase (by omega)
    (fun v1 w1 ho hb hg hat => h v1 w1 ho.2 hb hg hat)
theorem appO_step {w0 W : World} {ops : Array Oper} {o : Oper} {a : Act} {Q : Exit → Act → World → Prop} {Kc : Act → World → Prop} (base : Nat) (hw : Region.wanted o (yielded ops a.tmps) = true) (s x : Operand)
    (ho : o.op = .call { callee := .builtin .append, args := #[s, x], argTypes := #[27, 27] }) (v : Value) (l news : List OpR) (A : Option Addr) (m c : Nat) (hs : a.eval s = v) (hx : a.eval x = .slice A m c)
    (HO : OwnO W base v l) (HR : OpsAt W A m news) (HB : Below base w0 W) (hbase : base ≤ W.heap.size) (hl : l.length + m ≤ 1000000)
    (h : ∀ v1 w1, OwnO w1 base v1 (l ++ news) → Below base w0 w1 → W.grownBy w1 v.ownBlock → (v1.ownBlock = v.ownBlock ∨ ∃ b, v1.ownBlock = some b ∧ W.heap.size ≤ b) → Kc (a.put o.dst v1) w1) :
    if Region.wanted o (yielded ops a.tmps) = true then Oper.wp Tryz.prog o a W Kc Q else Kc (a.put o.dst undef) W :=
  Kd.R_append_rows_step opRKd (Rr := fun p cs => cs = opCells p) base hw s x 27 50 _ 48 ho Tryz.underlying27 opInfo rfl (by decide) (by decide) v l news A m c (fun _ => True) (fun _ => False) hs hx ⟨fun _ _ => trivial, HO⟩ (row_of_ops HR) (fun _ _ h => h) (fun _ hk => hk.elim) (fun _ _ => trivial) HB hbase (by omega)
    (fun v1 w1 ho hb hg hat => h v1 w1 ho.2 hb hg hat)
theorem ops_take {w : World} {A : Option Addr} {n k : Nat} {os : List OpR} (h : OpsAt w A n os) (hk : k ≤ n) : OpsAt w A k (os.take k) := by
  refine ⟨by rw [List.length_take, h.1]; omega, Nat.le_trans hk h.2.1, fun hn => ?_⟩
  obtain ⟨b, o, rfl, hc⟩ := h.2.2 (by omega)
  refine ⟨b, o, rfl, fun i hi => ?_⟩
  rw [List.length_take] at hi
  rw [List.getElem_take]
  exact hc i (by omega)
theorem ops_drop {w : World} {A : Option Addr} {n k c : Nat} {os : List OpR} (h : OpsAt w A n os) (hk : k ≤ n) (hc : n ≤ c) : OpsAt w (if c = k then A else A.map (·.add (k * 5))) (n - k) (os.drop k) := by
  refine ⟨by rw [List.length_drop, h.1], by have := h.2.1; omega, fun hn => ?_⟩
  obtain ⟨b, o, rfl, hcell⟩ := h.2.2 (by omega)
  rw [if_neg (by omega)]
  refine ⟨b, o + k * 5, by rw [Option.map_some, addO], fun i hi => ?_⟩
  rw [List.length_drop] at hi
  have := hcell (k + i) (by omega)
  rw [List.getElem_drop]
  rwa [show o + (k + i) * 5 = o + k * 5 + i * 5 by omega] at this
end Go.Proofs.YtkmdmjlepmmejaaGreatDoor.Ol
/- Two logs side by side; a Put of one operation; rows that lie apart. -/
namespace Go.Proofs.YtkmdmjlepmmejaaGreatDoor.Ol
open Go.RowKit Go.Sort Go.Proofs.YtkmdmjlepmmejaaGreatDoorW.PrintWords Tr

theorem put_ok_ex {most : Int} {l ops m : List OpR} (h : ops.all opRight = true) (hm : (l.length : Int) + (newOf l ops).length ≤ most) (e : joinO l ops = m) : ∃ k c, putR most l ops = ⟨k, c, 0, m⟩ := ⟨(newOf l ops).length, chgsO l m, by rw [put_ok h hm, e]⟩
/-- A Put of one operation. -/
abbrev Put1C (w : World) (most : Int) (l : List OpR) (o : OpR) (k : Int) (nc : Nat) (er : Int) (l' : List OpR) : Prop := ∀ (W : World) (F : Nat → Prop) (p g : Nat), LogAt W F p most l → OpIn g 0 o W → Below w.heap.size w W → (∀ b, F b → w.heap.size ≤ b) →
    Calls Tryz.prog 10 #[.pointer (some ⟨p, 0, none⟩), .slice (some ⟨g, 0, none⟩) 1 1] W fun e w' => ∃ (Ac : Option Addr) (cc : Nat) (F' : Nat → Prop), e = .returned (.tuple #[.int .i64 k, .slice Ac nc cc, .int .i64 er]) ∧
      LogAt w' F' p most l' ∧ (∀ b, F' b → F b ∨ W.heap.size ≤ b) ∧ (∀ b, F' b → w.heap.size ≤ b) ∧ Tr.Touch F W w' ∧ Below w.heap.size w w'
theorem put_1 {w : World} {most : Int} {l : List OpR} {o : OpR} {k : Int} {nc : Nat} {er : Int} {l' : List OpR} (h : PutC w most l [o] k nc er l') : Put1C w most l o k nc er l' := fun W F p _ H ho hB hF => h W F p _ 1 H (OpsAt.one ho) hB hF
/-- Two logs that stand side by side. -/
structure Two (V W : World) (F : Nat → Prop) (p : Nat) (l : List OpR) (F' : Nat → Prop) (p' : Nat) (l' : List OpR) : Prop where
  bel : Below V.heap.size V W
  one : LogAt W F p 1000 l
  two : LogAt W F' p' 1000 l'
  f1 : ∀ b, F b → V.heap.size ≤ b
  f2 : ∀ b, F' b → V.heap.size ≤ b
  off : ∀ b, F b → ¬ F' b
theorem Two.below {V W W' : World} {F F' : Nat → Prop} {p p' : Nat} {l l' : List OpR} (h : Two V W F p l F' p' l') (hb : Below W.heap.size W W') : Two V W' F p l F' p' l' :=
  ⟨below_step h.bel hb, h.one.below hb, h.two.below hb, h.f1, h.f2, h.off⟩
theorem Two.left {V W W' : World} {F F' G : Nat → Prop} {p p' : Nat} {l l' m : List OpR} (h : Two V W F p l F' p' l') (hl : LogAt W' G p 1000 m) (hG : ∀ b, G b → F b ∨ W.heap.size ≤ b) (hG2 : ∀ b, G b → V.heap.size ≤ b) (ht : Tr.Touch F W W') (hb : Below V.heap.size V W') : Two V W' G p m F' p' l' :=
  ⟨hb, hl, h.two.touch ht (fun b e k => h.off b k e), hG2, h.f2, fun b e k => (hG b e).elim (fun x => h.off b x k) (fun x => by have := h.two.lt b k; omega)⟩
theorem Two.right {V W W' : World} {F F' G : Nat → Prop} {p p' : Nat} {l l' m : List OpR} (h : Two V W F p l F' p' l') (hl : LogAt W' G p' 1000 m) (hG : ∀ b, G b → F' b ∨ W.heap.size ≤ b) (hG2 : ∀ b, G b → V.heap.size ≤ b) (ht : Tr.Touch F' W W') (hb : Below V.heap.size V W') : Two V W' F p l G p' m :=
  ⟨hb, h.one.touch ht (fun b e k => h.off b e k), hl, h.f1, hG2, fun b e k => (hG b k).elim (fun x => h.off b e x) (fun x => by have := h.one.lt b e; omega)⟩
theorem fresh_row {w W : World} {v : Value} {l : List OpR} {F : Nat → Prop} (h : OwnO w W.heap.size v l) (hF : ∀ b, F b → b < W.heap.size) : ∀ b, v.ownBlock = some b → ¬ F b := fun b e hb => by
  obtain ⟨inner, hrow, _⟩ := h
  have := own_base hrow b e
  have := hF b hb
  omega
theorem row_off {W : World} {B : Nat} {v : Value} {l : List OpR} {F F' : Nat → Prop} (h : OwnO W B v l) (hn : ∀ b, v.ownBlock = some b → ¬ F b) (hF : ∀ b, F' b → F b ∨ W.heap.size ≤ b) : ∀ b, v.ownBlock = some b → ¬ F' b := fun b e hb => by
  obtain ⟨inner, hrow, _⟩ := h
  have := own_lt hrow b e
  rcases hF b hb with h1 | h1
  · exact hn b e h1
  · omega
theorem row_lt {W : World} {B : Nat} {v : Value} {l : List OpR} (h : OwnO W B v l) : ∀ b, v.ownBlock = some b → b < W.heap.size := fun b e => by
  obtain ⟨inner, hrow, _⟩ := h
  exact own_lt hrow b e
theorem rows_apart {W W' : World} {B : Nat} {v v' : Value} {l l' : List OpR} (h : OwnO W B v l) (k : OwnO W' W.heap.size v' l') : ∀ b, v.ownBlock = some b → v'.ownBlock ≠ some b := fun b e e' => by
  obtain ⟨inner, hrow, _⟩ := h
  obtain ⟨inner', hrow', _⟩ := k
  have := own_lt hrow b e
  have := own_base hrow' b e'
  omega
theorem ops_of_own {W : World} {B : Nat} {A : Option Addr} {c a : Nat} {l : List OpR} (e : l.length = a) (h : OwnO W B (.slice A a c) l) : OpsAt W A a l := by
  obtain ⟨A', c', he, _, hr⟩ := OwnO.ops h
  cases he
  exact hr
theorem kids_of_own {W : World} {B : Nat} {A : Option Addr} {c a : Nat} {l : List KidR} (e : l.length = a) (h : OwnK W B (.slice A a c) l) : KidsAt W A a l := by
  obtain ⟨A', c', he, _, hr⟩ := OwnK.kids h
  cases he
  exact hr
theorem own_rowB {W : World} {B : Nat} {v : Value} {l : List OpR} (h : OwnO W B v l) : ∀ g, v.ownBlock = some g → RowB W g l.length := fun g e => by
  obtain ⟨inner, hrow, _⟩ := h
  rcases hrow.2 with ⟨rfl, _⟩ | ⟨g', cap, cur, rfl, _, hg, h1, _, h3, _⟩
  · cases e
  · cases e
    exact ⟨cur, hg, by rw [h3]; exact Nat.mul_le_mul_right 5 h1⟩
theorem own_addr {W : World} {B n c : Nat} {A : Option Addr} {l : List OpR} (h : OwnO W B (.slice A n c) l) (hl : 0 < n) : ∃ g, A = some ⟨g, 0, none⟩ ∧ B ≤ g := by
  obtain ⟨inner, hrow, _⟩ := h
  rcases hrow.2 with ⟨h', _⟩ | ⟨g, cap, cur, h', hb, _⟩
  · cases h'; omega
  · cases h'
    exact ⟨g, rfl, hb⟩
theorem same_self {us : List OpR} : sameO us us = true := by simp [sameO]
theorem samek_self {us : List KidR} : sameK us us = true := by simp [sameK]
end Go.Proofs.YtkmdmjlepmmejaaGreatDoor.Ol
/- The walk of the law OplogOrder. -/
namespace Go.Proofs.YtkmdmjlepmmejaaGreatDoor.Ol
open Go.RowKit Go.Sort Go.Proofs.YtkmdmjlepmmejaaGreatDoorW.PrintWords Tr

/-- What is known of the log while operations come one by one: X all, lf left, Lh there. -/
structure LhK (X lf Lh : List OpR) : Prop where
  ok : LogOk 1000 Lh
  from_ : ∀ o ∈ Lh, o ∈ X
  all : ∀ o ∈ X, o ∈ lf ∨ o ∈ Lh
  left : ∀ o ∈ lf, o ∈ X
  len : Lh.length + lf.length ≤ 48
theorem LhK.start {X : List OpR} (hx : X.length ≤ 24) (hr : X.all opRight = true) (m : Nat) : LhK X X (joinO [] (X.drop m)) := by
  have hl := join0_length (X.drop m)
  rw [List.length_drop] at hl
  refine ⟨⟨joinO_asc asc_nil _, fun o ho => List.all_eq_true.1 hr o (List.mem_of_mem_drop (mem_join0.1 ho)), by omega⟩, fun o ho => List.mem_of_mem_drop (mem_join0.1 ho), fun o ho => .inl ho, fun o ho => ho, by omega⟩
theorem LhK.put {X lf Lh : List OpR} (h : LhK X lf Lh) (hr : X.all opRight = true) {at' : Nat} (ha : at' < lf.length) : LhK X (lf.take at' ++ lf.drop (at' + 1)) (joinO Lh [lf[at']]) := by
  have hro : [lf[at']].all opRight = true := by rw [List.all_cons, List.all_eq_true.1 hr _ (h.left _ (List.getElem_mem ha))]; rfl
  have hlen := joinO_length Lh [lf[at']]
  have hn := newOf_length Lh [lf[at']]
  have h48 := h.len
  have hq : (lf.take at' ++ lf.drop (at' + 1)).length + 1 = lf.length := by rw [List.length_append, List.length_take, List.length_drop]; omega
  rw [List.length_singleton] at hn
  refine ⟨⟨joinO_asc h.ok.asc _, fun o ho => (mem_joinO.1 ho).elim (h.ok.right o) (List.all_eq_true.1 hro o), by omega⟩, fun o ho => ?_, fun o ho => ?_, fun o ho => ?_, by omega⟩
  · rcases mem_joinO.1 ho with h1 | h1
    · exact h.from_ o h1
    · rw [List.mem_singleton.1 h1]; exact h.left _ (List.getElem_mem ha)
  · rcases h.all o ho with h1 | h1
    · obtain ⟨i, hi, rfl⟩ := List.getElem_of_mem h1
      rcases Nat.lt_trichotomy i at' with h2 | h2 | h2
      · refine .inl (List.mem_append.2 (.inl ?_))
        rw [List.mem_take_iff_getElem]
        exact ⟨i, by omega, rfl⟩
      · subst h2
        exact .inr (mem_joinO.2 (.inr (List.mem_singleton.2 rfl)))
      · refine .inl (List.mem_append.2 (.inr ?_))
        rw [List.mem_drop_iff_getElem]
        exact ⟨i - (at' + 1), by omega, by congr 1; omega⟩
    · exact .inr (mem_joinO.2 (.inl h1))
  · rcases List.mem_append.1 ho with h1 | h1
    · exact h.left o (List.mem_of_mem_take h1)
    · exact h.left o (List.mem_of_mem_drop h1)
theorem LhK.fin {X Lh : List OpR} (h : LhK X [] Lh) : Lh = joinO [] X :=
  asc_ext opOrd h.ok.asc (joinO_asc asc_nil _) fun o => by
    rw [mem_join0]
    exact ⟨h.from_ o, fun ho => (h.all o ho).elim (fun k => by simp at k) id⟩
theorem one_ok {X lf Lh : List OpR} (h : LhK X lf Lh) {o : OpR} (ho : opRight o = true) : ∃ k c, putR 1000 Lh [o] = ⟨k, c, 0, joinO Lh [o]⟩ := by
  have hn := newOf_length Lh [o]
  rw [List.length_singleton] at hn
  have := h.len
  exact put_ok_ex (by rw [List.all_cons, ho]; rfl) (by omega) rfl
theorem own_empty2 (w V : World) (h : V.heap = w.heap) : OwnO (V.alloc (.cells #[] 50)) w.heap.size (.slice (some ⟨w.heap.size, 0, none⟩) 0 0) [] := by
  have := own_empty V (Nat.le_refl _)
  rw [h] at this
  exact this
theorem opIn_mk {g : Nat} {w : World} {q : OpR} (h0 : w.cell? ⟨g, 0, none⟩ = some (.int .i64 q.n)) (h1 : w.cell? ⟨g, 1, none⟩ = some (.int .i64 q.r)) (h2 : w.cell? ⟨g, 2, none⟩ = some (.int .i64 q.node)) (h3 : w.cell? ⟨g, 3, none⟩ = some (.int .i64 q.par)) (h4 : w.cell? ⟨g, 4, none⟩ = some (.string q.name)) : OpIn g 0 q w := ⟨h0, h1, h2, h3, h4⟩
set_option maxRecDepth 100000 in
set_option maxHeartbeats 4000000 in
theorem order_walk (A : Option Addr) (n c : Nat) (KA : Option Addr) (kn kc : Nat) (zs : List Int) (first again : Int) (kk ka : Nat) (w : World) (X L : List OpR) (a m : Nat) (hn : n ≤ 24) (hxn : X.length = n) (hkn : kn ≤ 9223372036854775807) (hz : ReadsInt w .u8 KA kn zs) (hzr : ∀ z ∈ zs, 0 ≤ z ∧ z < 256)
    (hkk : Int.tmod first ((n : Int) + 1) = (kk : Int)) (hkk2 : kk ≤ n) (hka : 0 < n → Int.tmod again (n : Int) = (ka : Int) ∧ ka < n) (hf : 0 ≤ first ∧ first < 256) (hg : 0 ≤ again ∧ again < 256) (hsx : ∀ o ∈ X, o.name.size ≤ 9223372036854775807) (hr : X.all opRight = true) (hL : L = joinO [] X) (ha : L.length = a) (hm : (srt kidCmp (treeO L)).length = m) (hT : Tabs w)
    (h1 : ∀ W : World, Below w.heap.size w W → Calls Tryz.prog 24 #[.slice A n c] W fun e w' => ∃ v, e = .returned v ∧ OwnO w' W.heap.size v X ∧ Below W.heap.size W w') :
    Calls Tryz.prog 4 #[.slice A n c, .slice KA kn kc, .int .u8 first, .int .u8 again] w fun e w' => e = .returned (.bool true) ∧ Below w.heap.size w w' := by
  have hl0 := join0_length X
  have hnl : (newOf [] X).length ≤ X.length := newOf_length [] X
  obtain ⟨k1, c1, e1⟩ := put_ok_ex (most := 1000) (l := []) hr (by simp; omega) hL.symm
  have hsd : ∀ o ∈ X.drop (n - kk), o.name.size ≤ 9223372036854775807 := fun o h => hsx o (List.mem_of_mem_drop h)
  have hdl : (newOf [] (X.drop (n - kk))).length ≤ 24 := by
    have := newOf_length [] (X.drop (n - kk))
    rw [List.length_drop] at this
    omega
  obtain ⟨k2, c2', e2⟩ := put_ok_ex (most := 1000) (l := []) (ops := X.drop (n - kk)) (by rw [List.all_eq_true]; exact fun o h => List.all_eq_true.1 hr o (List.mem_of_mem_drop h)) (by simp; omega) rfl
  have p1 := fun (V : World) (h : Tabs V) => put_c e1 (log0 (by decide)) hsx h (by simp; omega) (by decide)
  have p2 := fun (V : World) (h : Tabs V) => put_c e2 (log0 (by decide)) hsd h (by rw [List.length_drop]; simp; omega) (by decide)
  have hdn : (X.drop (n - kk)).length = kk := by rw [List.length_drop]; omega
  simp only [PutC, hdn] at p2
  simp only [PutC, hxn] at p1
  have h1' : ∀ W : World, Below w.heap.size w W → Calls Tryz.prog 24 #[.slice A n c] W fun e w' => ∃ A c, e = .returned (.slice A n c) ∧ OwnO w' W.heap.size (.slice A n c) X ∧ Below W.heap.size W w' := fun W h => (h1 W h).mono fun e w' ⟨v, he, ho, hb⟩ => by
    obtain ⟨A', c', rfl, _, _⟩ := OwnO.ops ho
    rw [hxn] at he ho
    exact ⟨A', c', he, ho, hb⟩
  have hst := LhK.start (by omega) hr (n - kk)
  have p3 := fun (V : World) (h : Tabs V) (lf Lh : List OpR) (hk : LhK X lf Lh) (o : OpR) (ho : o ∈ X) => (show ∃ k nc, Put1C V 1000 Lh o k nc 0 (joinO Lh [o]) from by
    obtain ⟨k, c, e⟩ := one_ok hk (List.all_eq_true.1 hr o ho)
    exact ⟨k, _, put_1 (put_c e hk.ok (fun q h => by rw [List.mem_singleton.1 h]; exact hsx o ho) h (by have := hk.len; simp; omega) (by decide))⟩)
  have hLk : ∀ lf Lh, LhK X lf Lh → lf.length = 0 → Lh = L := fun lf Lh h e => by
    have : lf = [] := List.eq_nil_of_length_eq_zero e
    subst this
    rw [h.fin, hL]
  have hokL : LogOk 1000 L := by rw [hL]; exact ⟨joinO_asc asc_nil _, join0_right hr, by omega⟩
  have p4 := fun (V : World) (h : Tabs V) (o : OpR) (ho : o ∈ X) => put_1 (put_c (w := V) (cs := []) (put_again (ops := [o]) hokL (by rw [List.all_cons, List.all_eq_true.1 hr o ho]; rfl) (fun q hq => by rw [List.mem_singleton.1 hq, hL]; exact mem_join0.2 ho)) hokL (fun q h => by rw [List.mem_singleton.1 h]; exact hsx o ho) h (by rw [hL]; simp; omega) (by decide))
  have htr := fun (W : World) (F : Nat → Prop) (p : Nat) (H : LogAt W F p 1000 L) => log_tree W F p 1000 L H (by rw [hL]; omega)
  have al1 : ∀ (W : World) (F : Nat → Prop) (p : Nat), LogAt W F p 1000 L → Calls Tryz.prog 15 #[.pointer (some ⟨p, 0, none⟩)] W fun e w' => ∃ A c, e = .returned (.slice A a c) ∧ OwnO w' W.heap.size (.slice A a c) L ∧ Below W.heap.size W w' := fun W F p H =>
    (log_all W F p 1000 L H (by rw [hL]; omega)).mono fun e w' ⟨v', he, ho, hb⟩ => by
      obtain ⟨A', c', rfl, _, _⟩ := OwnO.ops ho
      rw [ha] at he ho
      exact ⟨A', c', he, ho, hb⟩
  have hta : ∀ (W : World) (F : Nat → Prop) (p : Nat), TreeAt W F p L → Calls Tryz.prog 19 #[.pointer (some ⟨p, 0, none⟩)] W fun e w' => ∃ A c, e = .returned (.slice A m c) ∧ OwnK w' W.heap.size (.slice A m c) (srt kidCmp (treeO L)) ∧ Below W.heap.size W w' := fun W F p H =>
    (treeall_calls W F p L H hokL.right (by rw [hL]; omega)).mono fun e w' ⟨v', he, ho, hb⟩ => by
      obtain ⟨A', c', rfl, _⟩ := OwnRow.slice_ ho
      rw [hm] at he ho
      exact ⟨A', c', he, ho, hb⟩
  have hs := fun (A : Option Addr) (c : Nat) (B : Option Addr) (d : Nat) (W : World) (h : OpsAt W A a L) (k : OpsAt W B a L) => sameO_calls A _ c L B _ d L W h k
  have hsk := fun (A : Option Addr) (c : Nat) (B : Option Addr) (d : Nat) (W : World) (h : KidsAt W A m (srt kidCmp (treeO L))) (k : KidsAt W B m (srt kidCmp (treeO L))) => sameK_calls A _ c (srt kidCmp (treeO L)) B _ d (srt kidCmp (treeO L)) W h k
  rw [same_self] at hs
  rw [samek_self] at hsk
  generalize c1.length = nc1 at p1
  generalize c2'.length = nc2 at p2
  generalize joinO [] (X.drop (n - kk)) = Ld at *
  have HXL := Lib.hid (show X.length ≤ 24 by omega)
  have HXN := Lib.hid hxn
  have HAL1 := Lib.hid al1
  have HTR := Lib.hid htr
  have HTA := Lib.hid hta
  have HSO := Lib.hid hs
  have HSK := Lib.hid hsk
  have HEA := Lib.hid ha
  have HEM := Lib.hid hm
  have HLK := Lib.hid hLk
  have HST0 := Lib.hid hst
  have HXR := Lib.hid hr
  have P1 := Lib.hid p1
  have P2 := Lib.hid p2
  have P3 := Lib.hid p3
  have P4 := Lib.hid p4
  have HZ := Lib.hid hz
  have HZR := Lib.hid hzr
  have HKA := Lib.hid hka
  have H1 := Lib.hid h1'
  have HT := Lib.hid hT
  have HB := Lib.hid (Below.refl w.heap.size w)
  clear h1' al1 htr hta hs hsk ha hm hLk hst hr p1 p2 p3 p4 hz hzr hka h1 hT hsx hsd hdl hl0 hnl e1 e2 hdn hokL hxn hL
  go_enter Tryz.func4, Tryz.ntmps4
  go_upto_region 5 with (first
    | (go_at_call 7; (with_reducible refine Calls.mono (awake_calls _ HT.out) ?_); rintro e w1 ⟨rfl, hb⟩; have HBn := Lib.hid (below_step (by repeat (first | (with_reducible exact HB.out) | apply below_alloc | apply pw_below_drewN | apply below_drew1 | exact HB.out)) hb); clear hb HB; have HB := HBn; clear HBn) | (go_at_call 24; (with_reducible refine Calls.mono (H1.out _ HB.out) ?_); rintro e w2 ⟨A2, c2, rfl, ho, hb⟩; have HR2 := Lib.hid (ops_of_own HXN.out ho); clear ho; have HBn := Lib.hid (below_step (by repeat (first | (with_reducible exact HB.out) | apply below_alloc | apply pw_below_drewN | apply below_drew1 | exact HB.out)) hb); clear hb HB; have HB := HBn; clear HBn)
    | (fail "no arm"))
  have HV2 := HB
  clear HB
  have HB := Lib.hid (Below.refl w2.heap.size w2)
  have HT2 := Lib.hid (HT.out.below HV2.out)
  have HP1 := Lib.hid (P1.out w2 HT2.out)
  have HP2 := Lib.hid (P2.out w2 HT2.out)
  have HST := Lib.hid trivial
  go_upto_region 11 with (first
    | (go_at_call 8; have hst := HST.out; (with_reducible refine Calls.mono (log_new _ 1000 (by decide)) ?_); rintro e w3 ⟨p, F, rfl, hlog, hF, hb⟩; have HL := Lib.hid hlog; have HF := Lib.hid (fun b hb' => Nat.le_trans HB.out.size (hF b hb')); clear HST hst hlog hF; have HBn := Lib.hid (below_step (by repeat (first | (with_reducible exact HB.out) | apply below_alloc | apply pw_below_drewN | apply below_drew1 | exact HB.out)) hb); clear hb HB; have HB := HBn; clear HBn) | (go_at_call 8; (with_reducible refine Calls.mono (log_new _ 1000 (by decide)) ?_); rintro e w4 ⟨p', F', rfl, hlog, hF, hb⟩; have HBn := Lib.hid (below_step HB.out hb); have H4 := Lib.hid (show Two w2 w4 F p [] F' p' [] from ⟨HBn.out, HL.out.below hb, hlog, HF.out, fun b hb' => Nat.le_trans HB.out.size (hF b hb'), fun b e k => by have := HL.out.lt b e; have := hF b k; omega⟩); clear HB HL HF hlog hF hb; have HB := HBn; clear HBn) | (go_at_call 10; (with_reducible refine Calls.mono (HP1.out _ F p A2 c2 H4.out.one (HR2.out.below H4.out.bel) H4.out.bel H4.out.f1) ?_); rintro e w5 ⟨A5, c5, G5, rfl, hlog, hG, hG2, ht, hb⟩; have HBn := Lib.hid hb; have H5 := Lib.hid (H4.out.left hlog hG hG2 ht hb); clear hlog hG hG2 ht hb H4 HB; have HB := HBn; clear HBn) | (at_builtin; (refine appO (w0 := w5) (W := w5.alloc (.cells #[] 50)) w5.heap.size (by rfl) (.tmp 53) (.tmp 54) (by rfl) _ [] X A2 n c2 (by rfl) (by rfl) (own_empty w5 (Nat.le_refl _)) (HR2.out.below (below_alloc H5.out.bel _)) (below_alloc (Below.refl _ _) _) (by simp) (by simp; omega) ?_); intro v6 w6 ho hb hg hat; rw [List.nil_append] at ho; obtain ⟨A6, c6, e6, hc6, hr6⟩ := OwnO.ops ho; rw [HXN.out] at e6 hc6 hr6; subst e6; have HO6 := Lib.hid ho; have H6 := Lib.hid (H5.out.below hb); have HN6 := Lib.hid (fresh_row ho H5.out.two.lt); have HBn := Lib.hid (below_step HB.out hb); have HR6 := Lib.hid hr6; have HC6 := Lib.hid hc6; have HB5 := Lib.hid H5.out.bel.size; clear H5 ho hb hg hat hr6 hc6 HB; have HB := HBn; clear HBn)
    | (fail "no arm"))
  obtain ⟨A8, hA8, hcut⟩ := cut_ops A6 n c6 (n - kk) (by omega)
  have HR8 := Lib.hid (show OpsAt w6 A8 kk (X.drop (n - kk)) from by
    have := ops_drop (k := n - kk) HR6.out (by omega) HC6.out
    rw [← hA8, show n - (n - kk) = kk by omega] at this
    exact this)
  rw [show (((n - kk : Nat)) : Int) = (n : Int) - (kk : Int) by omega, show n - (n - kk) = kk by omega] at hcut
  have hf1 : ((n : Int) + 1) ≠ 0 := by omega
  have hn0 : (0 : Int) ≤ (n : Int) - (kk : Int) := by omega
  clear hA8
  go_upto_region 13 with (first
    | (go_at_call 10; (with_reducible refine Calls.mono (HP2.out _ F' p' A8 _ H6.out.two HR8.out H6.out.bel H6.out.f2) ?_); rintro e w9 ⟨A9, c9, G9, rfl, hlog, hG, hG2, ht, hb⟩; have HBn := Lib.hid hb; have HO9 := Lib.hid (OwnRow.lower (ht.row HO6.out HN6.out) HB5.out); have HN9 := Lib.hid (row_off HO6.out HN6.out hG); have H9 := Lib.hid (H6.out.right hlog hG hG2 ht hb); clear hlog hG hG2 ht hb H6 HB HO6 HN6 HR8 HR6; have HB := HBn; clear HBn)
    | (fail "no arm"))
  clear hcut hf1 hn0 hkk hf
  go_wp2
  go_loopw [16, 21] (fun vl vi V => ∃ (A' : Option Addr) (ln c' i : Nat) (lf Lh : List OpR) (G : Nat → Prop), vl = .slice A' ln c' ∧ vi = .int .i64 i ∧ i + ln = n ∧ Hid (lf.length = ln) ∧ Hid (OwnO V w2.heap.size (.slice A' ln c') lf) ∧ Hid (∀ b, (Value.slice A' ln c').ownBlock = some b → ¬ G b) ∧ Hid (Two w2 V G5 p L G p' Lh) ∧ Hid (LhK X lf Lh)) (fun _ vi _ => (n - (RowKit.intOf vi).toNat))
  case atStart => exact ⟨A6, n, c6, 0, X, _, G9, rfl, rfl, by omega, HXN, HO9, HN9, H9, HST0⟩
  case round =>
    clear HB HO9 HN9 H9
    obtain ⟨A', ln, c', i, lf, Lh, G, rfl, rfl, hin, HLN, HO, HN, H2, HK⟩ := hrel
    by_cases h0 : 0 < ln
    · have hl1 : (0 : Int) < (ln : Int) := by omega
      have hl2 : (ln : Int) ≠ 0 := by omega
      have hi0 : (0 : Int) ≤ (i : Int) := by omega
      go_upto_if 82 with fail
      go_cut [22] from 79 to 90 (fun v V => ∃ at' : Nat, v = .int .i64 at' ∧ at' < ln ∧ V = wr)
      case first =>
        by_cases hik : i < kn
        · obtain ⟨ad, rfl, hc⟩ := HZ.out.2.2 (show 0 < kn by omega)
          have hc0 := pw_cell_below (below_step HV2.out H2.out.bel) (hc i hik)
          have hzi : 0 ≤ zs.getD i 0 ∧ zs.getD i 0 < 256 := by
            by_cases h : i < zs.length
            · rw [List.getD_eq_getElem?_getD, List.getElem?_eq_getElem h]; exact HZR.out _ (List.getElem_mem h)
            · rw [List.getD_eq_getElem?_getD, List.getElem?_eq_none (by omega)]; exact ⟨Int.le_refl _, by decide⟩
          obtain ⟨ab, ao, sx⟩ := ad
          have had := spotO (show w.cell? ⟨ab, ao, sx⟩ = _ from hc 0 (by omega))
          obtain rfl : sx = none := by injection had
          clear had
          rw [addO] at hc0
          have hik2 : (i : Int) < (kn : Int) := by omega
          generalize zs.getD i 0 = z at *
          have hm0 : Int.tmod z (ln : Int) = ((z % (ln : Int)).toNat : Int) := by
            rw [Int.tmod_eq_emod_of_nonneg hzi.1, Int.toNat_of_nonneg (Int.emod_nonneg _ hl2)]
          have hm1 : (z % (ln : Int)).toNat < ln := by
            have := Int.emod_lt_of_pos z hl1
            have := Int.emod_nonneg z hl2
            omega
          generalize (z % (ln : Int)).toNat = at' at *
          clear hc
          go_wp2
          go_meet
          exact ⟨at', rfl, hm1, rfl⟩
        · have hik2 : ¬ (i : Int) < (kn : Int) := by omega
          go_wp2
          go_meet
          exact ⟨0, by simp, h0, rfl⟩
      case rest =>
        obtain ⟨at', rfl, hat, rfl⟩ := hcut
        have hat2 : at' < lf.length := by rw [HLN.out]; exact hat
        obtain ⟨k11, nc11, hput⟩ := P3.out w2 HT2.out lf Lh HK.out lf[at'] (HK.out.left _ (List.getElem_mem hat2))
        have HPUT := Lib.hid hput
        obtain ⟨b0, o0, rfl, hcell⟩ := (ops_of_own HLN.out HO.out).2.2 h0
        obtain ⟨m0, m1, m2, m3, m4⟩ := hcell at' hat2
        have HKN := Lib.hid (HK.out.put HXR.out hat2)
        have hai0 : (0 : Int) ≤ (at' : Int) := by omega
        have hai1 : (at' : Int) < (ln : Int) := by omega
        clear hput hcell
        generalize lf[at'] = q at *
        have H3 := Lib.hid (H2.out.below (below_alloc (Below.refl wc.heap.size wc) (Obj.cells #[.int .i64 q.n, .int .i64 q.r, .int .i64 q.node, .int .i64 q.par, .string q.name] 50)))
        have HO3 := Lib.hid (OwnRow.below HO.out (below_alloc (Below.refl wc.heap.size wc) (Obj.cells #[.int .i64 q.n, .int .i64 q.r, .int .i64 q.node, .int .i64 q.par, .string q.name] 50)))
        clear H2 HO
        go_upto_region 22 with (first
          | (go_at_call 10; (with_reducible refine Calls.mono (HPUT.out _ G p' wc.heap.size H3.out.two (opIn_mk (by go_cell) (by go_cell) (by go_cell) (by go_cell) (by go_cell)) H3.out.bel H3.out.f2) ?_); rintro e w11 ⟨A11, c11, G11, rfl, hlog, hG, hG2, ht, hb⟩; have HO11 := Lib.hid (ht.row HO3.out HN.out); have HN11 := Lib.hid (row_off HO3.out HN.out hG); have H11 := Lib.hid (H3.out.right hlog hG hG2 ht hb); clear hlog hG hG2 ht hb H3 HO3 HN m0 m1 m2 m3 m4)
          | (fail "no arm"))
        obtain ⟨A12, hA12, hcut2⟩ := cut_ops (some ⟨b0, o0, none⟩) ln c' (at' + 1) (by omega)
        have hcc : ln ≤ c' := by
          obtain ⟨_, _, e, hc, _⟩ := OwnO.ops HO11.out
          injection e with _ e1 e2
          omega
        have HR12 := Lib.hid (show OpsAt w11 A12 (ln - (at' + 1)) (lf.drop (at' + 1)) from by
          have := ops_drop (k := at' + 1) (ops_of_own HLN.out HO11.out) (by omega) hcc
          rw [← hA12] at this
          exact this)
        have HR13 := Lib.hid (show OpsAt w11 (some ⟨b0, o0, none⟩) at' (lf.take at') from ops_take (ops_of_own HLN.out HO11.out) (by omega))
        have e1 : ((at' + 1 : Nat) : Int) = (at' : Int) + 1 := by omega
        rw [e1] at hcut2
        have hac : (at' : Int) ≤ (c' : Int) := by omega
        have HL1 := Lib.hid (show (lf.take at').length = at' from by rw [List.length_take]; omega)
        clear hA12 e1
        have hw1 : IntKind.i64.wrap ((at' : Int) + 1) = (at' : Int) + 1 := by rw [IntKind.wrap_i64]; omega
        have hl24 : ln ≤ 24 := by omega
        have HL2 := Lib.hid (show ([] ++ lf.take at').length + (ln - (at' + 1)) ≤ 1000000 from by rw [List.nil_append, HL1.out]; omega)
        have HL0 := Lib.hid (show ([] : List OpR).length + at' ≤ 1000000 from by rw [List.length_nil]; omega)
        have HB := Lib.hid (Below.refl w11.heap.size w11)
        go_region_held3 (fun _ => True) (trivial)
          (first
            | ((refine appO_step (w0 := w11) w11.heap.size (by rfl) (.tmp 104) (.tmp 107) (by rfl) _ [] (lf.take at') (some ⟨b0, o0, none⟩) at' c' (by rfl) (by rfl) (own_empty2 w11 _ rfl) (HR13.out.below (by repeat (first | (with_reducible exact HB.out) | apply below_alloc | apply pw_below_drewN | apply below_drew1 | exact HB.out))) (by repeat (first | (with_reducible exact HB.out) | apply below_alloc | apply pw_below_drewN | apply below_drew1 | exact HB.out)) (Below.size (by repeat (first | (with_reducible exact HB.out) | apply below_alloc | apply pw_below_drewN | apply below_drew1 | exact HB.out))) HL0.out ?_); intro v13 w13 ho hb hg hat; have HO13 := Lib.hid ho; clear HB ho hg hat; have HB := Lib.hid hb; clear hb)
            | ((refine appO_step (w0 := w11) w11.heap.size (by rfl) (.tmp 108) (.tmp 112) (by rfl) v13 ([] ++ lf.take at') (lf.drop (at' + 1)) A12 (ln - (at' + 1)) (c' - (at' + 1)) (by rfl) (by rfl) HO13.out (HR12.out.below HB.out) HB.out (Below.size HB.out) HL2.out ?_); intro v14 w14 ho hb hg hat; have HO14 := Lib.hid ho; clear HB HO13 ho hg hat; have HB := Lib.hid hb; clear hb)
            | (fail "no arm"))
        obtain ⟨A14, c14, e14, _, _⟩ := OwnO.ops HO14.out
        have hlen : ([] ++ lf.take at' ++ lf.drop (at' + 1)).length = ln - 1 := by rw [List.nil_append, List.length_append, HL1.out, List.length_drop, HLN.out]; omega
        rw [hlen] at e14
        subst e14
        have HO15 := Lib.hid (OwnRow.lower HO14.out H11.out.bel.size)
        have HN15 := Lib.hid (show ∀ b, (Value.slice A14 (ln - 1) c14).ownBlock = some b → ¬ G11 b from fun b e k => by
          obtain ⟨inner, hrow, _⟩ := HO14.out
          have := own_base hrow b e
          have := H11.out.two.lt b k
          omega)
        have H15 := Lib.hid (H11.out.below HB.out)
        rw [List.nil_append] at hlen HO15
        have HLN15 := Lib.hid hlen
        clear hlen HO14 H11 HB HL2 HL0 HR12 HR13 hcut2 hw1 HO11 HN11
        go_wp2
        go_roundw
        case rel => exact ⟨A14, ln - 1, c14, i + 1, _, _, G11, rfl, by go_num, by omega, HLN15, HO15, HN15, H15, HKN⟩
        case measure => simp [RowKit.intOf] <;> omega
    · have hz : ln = 0 := by omega
      have hLL := HLK.out lf Lh HK.out (by rw [HLN.out]; exact hz)
      subst hLL hz
      have hin0 : i = n := by omega
      clear hin HK HO HN HLN
      have ST1 := Lib.hid trivial
      by_cases hn0 : 0 < n
      · obtain ⟨hka1, hka2⟩ := HKA.out hn0
        obtain ⟨b0, o0, rfl, hcell⟩ := (HR2.out.below H2.out.bel).2.2 hn0
        have hkx : ka < X.length := by rw [HXN.out]; exact hka2
        obtain ⟨m0, m1, m2, m3, m4⟩ := hcell ka hkx
        have HP4 := Lib.hid (P4.out w2 HT2.out X[ka] (List.getElem_mem hkx))
        generalize X[ka] = q at *
        have H6 := Lib.hid (H2.out.below (below_alloc (Below.refl wr.heap.size wr) (Obj.cells #[.int .i64 q.n, .int .i64 q.r, .int .i64 q.node, .int .i64 q.par, .string q.name] 50)))
        have hn1 : (0 : Int) < (n : Int) := by omega
        have hn2 : (n : Int) ≠ 0 := by omega
        have hka3 : (0 : Int) ≤ (ka : Int) := by omega
        have hka4 : (ka : Int) < (n : Int) := by omega
        clear hcell hkx H2
        go_wp2_with (first
          | (go_at_call 10; (with_reducible refine Calls.mono (HP4.out _ G p' wr.heap.size H6.out.two (opIn_mk (by go_cell) (by go_cell) (by go_cell) (by go_cell) (by go_cell)) H6.out.bel H6.out.f2) ?_); rintro e x0 ⟨A20, c20, G20, rfl, hlog, hG, hG2, ht, hb⟩; have H2 := Lib.hid (H6.out.right hlog hG hG2 ht hb); clear hlog hG hG2 ht hb H6 m0 m1 m2 m3 m4)
          | (go_at_call 12; have hst := ST1.out; (with_reducible refine Calls.mono (HTR.out _ G5 p H2.out.one) ?_); rintro e x1 ⟨t, rfl, ht, hb⟩; have HT1 := Lib.hid ht; have H3 := Lib.hid (H2.out.below hb); clear ST1 hst H2 ht hb) | (go_at_call 12; (with_reducible refine Calls.mono (HTR.out _ _ p' H3.out.two) ?_); rintro e x2 ⟨u, rfl, ht, hb⟩; have HU2 := Lib.hid ht; have HT2' := Lib.hid (HT1.out.below hb); have H4 := Lib.hid (H3.out.below hb); clear H3 HT1 ht hb) | (go_at_call 15; (with_reducible refine Calls.mono (HAL1.out _ G5 p H4.out.one) ?_); rintro e x3 ⟨A23, c23, rfl, ho, hb⟩; have HR3 := Lib.hid (ops_of_own HEA.out ho); have HU3 := Lib.hid (HU2.out.below hb); have HT3 := Lib.hid (HT2'.out.below hb); have H5 := Lib.hid (H4.out.below hb); clear H4 HT2' HU2 ho hb) | (go_at_call 15; (with_reducible refine Calls.mono (HAL1.out _ _ p' H5.out.two) ?_); rintro e x4 ⟨A24, c24, rfl, ho, hb⟩; have HR4 := Lib.hid (ops_of_own HEA.out ho); have HR34 := Lib.hid (HR3.out.below hb); have HU4 := Lib.hid (HU3.out.below hb); have HT4 := Lib.hid (HT3.out.below hb); have HB4 := Lib.hid ((H5.out.below hb).bel); clear H5 HT3 HU3 HR3 ho hb) | (go_at_call 14; (with_reducible refine Calls.mono (HSO.out _ _ _ _ _ HR34.out HR4.out) ?_); rintro e x5 ⟨rfl, q5, rfl⟩; have hb := pw_below_drewN (Below.refl x4.heap.size x4) q5; have HU5 := Lib.hid (HU4.out.below hb); have HT5 := Lib.hid (HT4.out.below hb); have HB5' := Lib.hid (below_step HB4.out hb); clear HB4 HT4 HU4 HR34 HR4 hb) | (go_at_call 19; (with_reducible refine Calls.mono (HTA.out _ _ t HT5.out) ?_); rintro e x6 ⟨A26, c26, rfl, ho, hb⟩; have HK6 := Lib.hid (kids_of_own HEM.out ho); have HU6 := Lib.hid (HU5.out.below hb); have HB6 := Lib.hid (below_step HB5'.out hb); clear HB5' HT5 HU5 ho hb) | (go_at_call 19; (with_reducible refine Calls.mono (HTA.out _ _ u HU6.out) ?_); rintro e x7 ⟨A27, c27, rfl, ho, hb⟩; have HK7 := Lib.hid (kids_of_own HEM.out ho); have HK67 := Lib.hid (HK6.out.below hb); have HB7 := Lib.hid (below_step HB6.out hb); clear HB6 HK6 HU6 ho hb) | (go_at_call 18; (with_reducible refine Calls.mono (HSK.out _ _ _ _ _ HK67.out HK7.out) ?_); rintro e x8 ⟨rfl, q8, rfl⟩; have HB8 := Lib.hid (below_step HB7.out (pw_below_drewN (Below.refl x7.heap.size x7) q8)); clear HB7 HK67 HK7)
          | (fail "no arm"))
        go_ret
        exact ⟨by simp, below_step HV2.out HB8.out⟩
      · have hn1 : n = 0 := by omega
        subst hn1
        go_wp2_with (first
          | (go_at_call 12; have hst := ST1.out; (with_reducible refine Calls.mono (HTR.out _ G5 p H2.out.one) ?_); rintro e x1 ⟨t, rfl, ht, hb⟩; have HT1 := Lib.hid ht; have H3 := Lib.hid (H2.out.below hb); clear ST1 hst H2 ht hb) | (go_at_call 12; (with_reducible refine Calls.mono (HTR.out _ _ p' H3.out.two) ?_); rintro e x2 ⟨u, rfl, ht, hb⟩; have HU2 := Lib.hid ht; have HT2' := Lib.hid (HT1.out.below hb); have H4 := Lib.hid (H3.out.below hb); clear H3 HT1 ht hb) | (go_at_call 15; (with_reducible refine Calls.mono (HAL1.out _ G5 p H4.out.one) ?_); rintro e x3 ⟨A23, c23, rfl, ho, hb⟩; have HR3 := Lib.hid (ops_of_own HEA.out ho); have HU3 := Lib.hid (HU2.out.below hb); have HT3 := Lib.hid (HT2'.out.below hb); have H5 := Lib.hid (H4.out.below hb); clear H4 HT2' HU2 ho hb) | (go_at_call 15; (with_reducible refine Calls.mono (HAL1.out _ _ p' H5.out.two) ?_); rintro e x4 ⟨A24, c24, rfl, ho, hb⟩; have HR4 := Lib.hid (ops_of_own HEA.out ho); have HR34 := Lib.hid (HR3.out.below hb); have HU4 := Lib.hid (HU3.out.below hb); have HT4 := Lib.hid (HT3.out.below hb); have HB4 := Lib.hid ((H5.out.below hb).bel); clear H5 HT3 HU3 HR3 ho hb) | (go_at_call 14; (with_reducible refine Calls.mono (HSO.out _ _ _ _ _ HR34.out HR4.out) ?_); rintro e x5 ⟨rfl, q5, rfl⟩; have hb := pw_below_drewN (Below.refl x4.heap.size x4) q5; have HU5 := Lib.hid (HU4.out.below hb); have HT5 := Lib.hid (HT4.out.below hb); have HB5' := Lib.hid (below_step HB4.out hb); clear HB4 HT4 HU4 HR34 HR4 hb) | (go_at_call 19; (with_reducible refine Calls.mono (HTA.out _ _ t HT5.out) ?_); rintro e x6 ⟨A26, c26, rfl, ho, hb⟩; have HK6 := Lib.hid (kids_of_own HEM.out ho); have HU6 := Lib.hid (HU5.out.below hb); have HB6 := Lib.hid (below_step HB5'.out hb); clear HB5' HT5 HU5 ho hb) | (go_at_call 19; (with_reducible refine Calls.mono (HTA.out _ _ u HU6.out) ?_); rintro e x7 ⟨A27, c27, rfl, ho, hb⟩; have HK7 := Lib.hid (kids_of_own HEM.out ho); have HK67 := Lib.hid (HK6.out.below hb); have HB7 := Lib.hid (below_step HB6.out hb); clear HB6 HK6 HU6 ho hb) | (go_at_call 18; (with_reducible refine Calls.mono (HSK.out _ _ _ _ _ HK67.out HK7.out) ?_); rintro e x8 ⟨rfl, q8, rfl⟩; have HB8 := Lib.hid (below_step HB7.out (pw_below_drewN (Below.refl x7.heap.size x7) q8)); clear HB7 HK67 HK7)
          | (fail "no arm"))
        go_ret
        exact ⟨by simp, below_step HV2.out HB8.out⟩
set_option maxRecDepth 100000 in
theorem order_far (A : Option Addr) (n c : Nat) (B : Option Addr) (m dd : Nat) (x y : Int) (w : World) (hT : Tabs w) (h : 24 < n) (hm1 : n ≤ 9223372036854775807) :
    Calls Tryz.prog 4 #[.slice A n c, .slice B m dd, .int .u8 x, .int .u8 y] w fun e w' => e = .returned (.bool true) ∧ Below w.heap.size w w' := by
  have HT := Lib.hid hT
  have HB := Lib.hid (Below.refl w.heap.size w)
  clear hT
  go_enter Tryz.func4, Tryz.ntmps4
  go_wp2_with (first
    | (go_at_call 7; (with_reducible refine Calls.mono (awake_calls _ HT.out) ?_); rintro e w1 ⟨rfl, hb⟩; have HBn := Lib.hid (below_step (by repeat (first | (with_reducible exact HB.out) | apply below_alloc | apply pw_below_drewN | apply below_drew1 | exact HB.out)) hb); clear hb HB; have HB := HBn; clear HBn)
    | (fail "no arm"))
  all_goals (go_ret; exact ⟨rfl, (by repeat (first | (with_reducible exact HB.out) | apply below_alloc | apply pw_below_drewN | apply below_drew1 | exact HB.out))⟩)
end Go.Proofs.YtkmdmjlepmmejaaGreatDoor.Ol
namespace Go.Proofs.YtkmdmjlepmmejaaGreatDoor
open Go.RowKit Go.Proofs.YtkmdmjlepmmejaaGreatDoorW.PrintWords Ol Tr
theorem oplogOrder_walk (A : Option Addr) (c : Nat) (ts : List TinyT) (B : Option Addr) (d : Nat) (zs : List Int) (a2 a3 : Int) (W : World) (h0 : ReadsRow (tinyKd.K W) 5 W A ts.length ts) (_ : ts.length ≤ c) (k0 : ts.length ≤ maxLen ∧ ∀ x ∈ ts, tinyOk x) (h1 : (Kd.int .u8).C W B zs.length zs) (_ : zs.length ≤ d) (k1 : zs.length ≤ maxLen ∧ ∀ x ∈ zs, (Lit.int .u8 x).wf = true) (w2 : (Lit.int .u8 a2).wf = true) (w3 : (Lit.int .u8 a3).wf = true) (hT : Tabs W) :
    Calls Tryz.prog 4 #[.slice A ts.length c, .slice B zs.length d, .int .u8 a2, .int .u8 a3] W fun e w' => e = .returned (.bool true) ∧ Below W.heap.size W w' := by
  have ha := tinys_of_row h0
  have hz : ReadsInt W .u8 B zs.length zs := Kd.reads_of_C (enc := Value.int .u8) (d := (0 : Int)) (h1 := fun _ => rfl) h1
  have hf := byte_wf w2
  have hg := byte_wf w3
  by_cases c1 : ts.length ≤ 24
  · have hl0 := join0_length (ts.map ofT)
    rw [List.length_map] at hl0
    have hpos : (0 : Int) < (ts.length : Int) + 1 := by omega
    have e1 : Int.tmod a2 ((ts.length : Int) + 1) = ((a2 % ((ts.length : Int) + 1)).toNat : Int) := by
      rw [Int.tmod_eq_emod_of_nonneg hf.1, Int.toNat_of_nonneg (Int.emod_nonneg _ (by omega))]
    have e2 : (a2 % ((ts.length : Int) + 1)).toNat ≤ ts.length := by
      have := Int.emod_lt_of_pos a2 hpos
      have := Int.emod_nonneg a2 (show (ts.length : Int) + 1 ≠ 0 by omega)
      omega
    exact order_walk A _ c B _ d zs a2 a3 _ (a3 % (ts.length : Int)).toNat W (ts.map ofT) (joinO [] (ts.map ofT)) _ _ c1 (by rw [List.length_map]) (by have := k1.1; unfold maxLen at this; omega) hz (fun z h => byte_wf (k1.2 z h)) e1 e2 (fun h => by
      have hp : (0 : Int) < (ts.length : Int) := by omega
      refine ⟨?_, ?_⟩
      · rw [Int.tmod_eq_emod_of_nonneg hg.1, Int.toNat_of_nonneg (Int.emod_nonneg _ (by omega))]
      · have := Int.emod_lt_of_pos a3 hp
        have := Int.emod_nonneg a3 (show (ts.length : Int) ≠ 0 by omega)
        omega) hf hg ofs_small (ofs_right ts) rfl rfl rfl hT (fun V h => Ol.all_calls A _ c ts V (ha.below h) (fun x h => tinyIn (k0.2 x h)) (by omega))
  · exact order_far A _ c B _ d a2 a3 W hT (by omega) ha.2.1
end Go.Proofs.YtkmdmjlepmmejaaGreatDoor
/- The row and the card of the law OplogOrder, out of its walk. -/
namespace Go.Proofs.YtkmdmjlepmmejaaGreatDoor.oplogOrder
open Go.ChangeShapes Go.WideShapes Go.ChangeAt Go.RowKit Go.Lib
open Go.ChangeMaps (open_string shut_string)
open Go.Proofs.YtkmdmjlepmmejaaGreatDoorW.Open Go.Proofs.YtkmdmjlepmmejaaGreatDoorW.PrintWords
theorem own : ownKnob Tryz.prog.godebug = none := by kernel_rfl
theorem laidOut : laidOutB Tryz.prog = true := by kernel_rfl
theorem op0 : Opens Tryz.prog 53 (Kd.slice 58 tinyKd) (fun xs => xs.length ≤ maxLen ∧ ∀ x ∈ xs, tinyOk x) := Opens.slice Tryz.underlying53 (by kernel_rfl) tinyOpens
theorem op1 : Opens Tryz.prog 54 (Kd.slice 5 (Kd.int .u8)) (fun xs => xs.length ≤ maxLen ∧ ∀ x ∈ xs, (Lit.int .u8 x).wf = true) := Opens.slice Tryz.underlying54 (by kernel_rfl) (Opens.int Tryz.underlying5 (by kernel_rfl))
theorem witness_row (os : Os) {H : Type} (enc : TypeId × Value → H) :
    (OpenSpec.ofChange Rows.oplogOrderSpec).preRow enc Tryz.prog Tryz.f4 Rows.oplogOrderRow.domain false Rows.oplogOrderRow.laid ((laidWorld os).forCall (fun _ _ => 0) ⟨#[], #[.slice none 0 0, .slice none 0 0, .int .u8 0, .int .u8 0], []⟩).memory #[.slice none 0 0, .slice none 0 0, .int .u8 0, .int .u8 0] := by
  have hw : (DataW.whole enc Tryz.prog ((laidWorld os).forCall (fun _ _ => 0) ⟨#[], #[.slice none 0 0, .slice none 0 0, .int .u8 0, .int .u8 0], []⟩).memory Tryz.f4.params.toList (OpenSpec.ofChange Rows.oplogOrderSpec).vars false (#[.slice none 0 0, .slice none 0 0, .int .u8 0, .int .u8 0] : Array Value).toList 8).map (fun x => (x.1, x.2.1)) =
      some ([.nil, .nil, .lit (.int .u8 0), .lit (.int .u8 0)], []) := by kernel_rfl
  obtain ⟨⟨x1, x2, x3⟩, hx, hx1⟩ := Option.map_eq_some_iff.1 hw
  simp only [Prod.mk.injEq] at hx1
  obtain ⟨rfl, rfl⟩ := hx1
  exact OpenSpec.preRow_of_cond 8 hx (by kernel_rfl) (fun k hk => by cases hk) (by kernel_rfl) (laid_met os _)
set_option maxRecDepth 100000 in
set_option maxHeartbeats 2000000 in
theorem lifted (os : Os) (started : os.Started) (H : Type) (enc : TypeId × Value → H) (F : Stop.Interp) :
    ReturnsInHanded {} Tryz.checked os 4 .any ((OpenSpec.ofChange Rows.oplogOrderSpec).preRow enc Tryz.prog Tryz.f4 Rows.oplogOrderRow.domain false Rows.oplogOrderRow.laid) (((OpenSpec.ofChange Rows.oplogOrderSpec).at F).post enc Tryz.prog Tryz.f4 false true false false) := by
  refine returnsInHanded_of_row (C := Tryz.checked) (s := OpenSpec.ofChange Rows.oplogOrderSpec) own started (by kernel_rfl) Tryz.func4
    (witness_row_atRef (enc := enc) (C := Tryz.checked) false (laidWorld os) #[.slice none 0 0, .slice none 0 0, .int .u8 0, .int .u8 0] rfl (by kernel_rfl) (by kernel_rfl) (by kernel_rfl) (witness_row os enc)) ?_
  intro W base args ds gs before hval0 hW _ _ _ hL _ _
  have hval : ∀ (j : Nat) t v, Tryz.f4.params[j]? = some t → args[j]? = some v → Value.okWide Tryz.prog W .any base t v := hval0
  have hW' := hW
  obtain ⟨p, q, hA0, hV, rfl, hfz, hnd⟩ := hW
  have hA : DataW.TrodAll enc Tryz.prog W 0 (fun _ => true) true Tryz.f4.params.toList args.toList ds p := hA0
  rw [Tryz.params4] at hA hval
  obtain ⟨v0, vs0, d0, ds0, p0, q0, hargs, rfl, rfl, h0, r0⟩ := trodAll_cons hA
  obtain ⟨v1, vs1, d1, ds1, p1, q1, rfl, rfl, rfl, h1, r1⟩ := trodAll_cons r0
  obtain ⟨v2, vs2, d2, ds2, p2, q2, rfl, rfl, rfl, h2, r2⟩ := trodAll_cons r1
  obtain ⟨v3, vs3, d3, ds3, p3, q3, rfl, rfl, rfl, h3, r3⟩ := trodAll_cons r2
  obtain ⟨rfl, rfl, rfl⟩ := trodAll_nil r3
  obtain rfl : args = #[v0, v1, v2, v3] := by cases args; simp_all
  obtain ⟨rfl, rfl⟩ := trodVars_none hV
  have k0 := h0
  have lt0 : ∀ x ∈ p0, x.block < W.heap.size := by obtain ⟨m, hm⟩ := k0; exact DataW.trod_lt m _ _ _ hm
  obtain ⟨a0, len0, cap0, rfl⟩ := okWide_slice Tryz.underlying53 (hval 0 53 v0 rfl rfl)
  obtain ⟨l0, hK0, ok0⟩ := Opens.arg op0 h0
  obtain ⟨A0, c0, e0, hc0, hr0⟩ := hK0
  simp only [Value.cells, List.cons.injEq, Value.slice.injEq, and_true] at e0
  obtain ⟨rfl, rfl, rfl⟩ := e0
  have k1 := h1
  have lt1 : ∀ x ∈ p1, x.block < W.heap.size := by obtain ⟨m, hm⟩ := k1; exact DataW.trod_lt m _ _ _ hm
  obtain ⟨a1, len1, cap1, rfl⟩ := okWide_slice Tryz.underlying54 (hval 1 54 v1 rfl rfl)
  obtain ⟨l1, hK1, ok1⟩ := Opens.arg op1 h1
  obtain ⟨A1, c1, e1, hc1, hr1⟩ := hK1
  simp only [Value.cells, List.cons.injEq, Value.slice.injEq, and_true] at e1
  obtain ⟨rfl, rfl, rfl⟩ := e1
  obtain ⟨a2, rfl, rfl, rfl, w2⟩ := open_int Tryz.underlying5 (hval 2 5 v2 rfl rfl) h2
  obtain ⟨a3, rfl, rfl, rfl, w3⟩ := open_int Tryz.underlying5 (hval 3 5 v3 rfl rfl) h3
  clear hA0 hval0
  have htab : Tabs W := tabs_of (Lib.laidMet.reads hL (.tail _ (.head _))) (Lib.laidMet.reads hL (.head _))
  refine (oplogOrder_walk a0 cap0 l0 a1 cap1 l1 a2 a3 W hr0 hc0 ok0 hr1 hc1 ok1 w2 w3 htab).mono fun e W' ⟨he, bel⟩ => ?_
  subst he
  exact ⟨_, rfl, _, _, _, [], _, [], hW', trodAll_mk1 (shut_bool Tryz.underlying4 _), (trodAll_cons_mk (Below.trod laidOut (by kernel_rfl) (of_decide_eq_true (by kernel_rfl)) k0 bel lt0) (trodAll_cons_mk (Below.trod laidOut (by kernel_rfl) (of_decide_eq_true (by kernel_rfl)) k1 bel lt1) (trodAll_cons_mk (shut_int Tryz.underlying5 w2) (trodAll_cons_mk (shut_int Tryz.underlying5 w3) trodAll_mk0)))), rfl, bel.frame _, fun h => by cases h⟩
theorem row_holds : Rows.OplogOrderSaid :=
  OpenClaim.holds_of_cond 4 Tryz.f4 rfl rfl rfl rfl rfl rfl rfl ⟨rfl, rfl, rfl, rfl, rfl⟩ rfl rfl rfl rfl rfl (by kernel_rfl) Tryz.func4 (by kernel_rfl)
    (of_decide_eq_true (by kernel_rfl)) (by unfold Func.isWrapper; first | (rw [if_pos (by decide +kernel)]; kernel_rfl) | (rw [if_neg (by decide +kernel)]; exact ⟨rfl, rfl⟩))
    (fun os started H enc _ F0 => by rw [OpenClaim.pre_eq_preRow]; exact lifted os started H enc F0)
end Go.Proofs.YtkmdmjlepmmejaaGreatDoor.oplogOrder
namespace Go.Proofs.YtkmdmjlepmmejaaGreatDoor
open Go
theorem oplogOrder_holds : Rows.OplogOrderCardSaid :=
  Claim7.holds_tied_plain_at .later [] [.data, .pinned] true (true, "acf5eca2cb5093371479f917fe907b11aa1863b483ffc0a3005077727b692803") true
    oplogOrder.row_holds (fun _ h => by cases h) (by kernel_rfl) (fun _ h => by cases h) oplogOrder_row_tie rfl ⟨rfl, rfl⟩ (by kernel_rfl) rfl
    (fun f fn hf hfn => by
      obtain rfl : f = 4 := Option.some.inj ((show Tryz.prog.funcNamed "holt/holtlaw08.OplogOrder" = some 4 by kernel_rfl).symm.trans hf) |>.symm
      obtain rfl : fn = Tryz.f4 := (Option.some.inj (Tryz.func4.symm.trans hfn)).symm
      exact ⟨by kernel_rfl, fun j t ht => by
        have hm : t ∈ Tryz.f4.params.toList := List.mem_of_getElem? (by rw [Array.getElem?_toList]; exact ht)
        rw [Tryz.params4] at hm
        have hall : (Tryz.f4.params.toList.all fun t => !Tryz.prog.wantsStandIn t) = true := by kernel_rfl
        rw [Tryz.params4] at hall
        have := List.all_eq_true.1 hall t hm
        have h2 : Tryz.prog.wantsStandIn t = false := by simpa using this
        exact h2⟩)
    (by kernel_rfl)
#print axioms oplogOrder_holds
end Go.Proofs.YtkmdmjlepmmejaaGreatDoor
