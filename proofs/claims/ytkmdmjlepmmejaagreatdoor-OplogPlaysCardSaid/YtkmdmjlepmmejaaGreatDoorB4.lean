/-
  Trees in memory: Apply, Undo, Clone, New as package tree has them; Trees in memory: what Apply comes to
-/
import Derived.Test.YtkmdmjlepmmejaaGreatDoorB3
import Derived.Deep.RegionLaw
import Derived.Test.YtkmdmjlepmmejaaGreatDoorShelg
/- Trees in memory: Apply, Undo, Clone, New as package tree has them. -/
namespace Go.Proofs.YtkmdmjlepmmejaaGreatDoor.Tr
open Go.RowKit Go.Maps Go.Proofs.YtkmdmjlepmmejaaGreatDoorW.PrintWords

def chgC (c : ChgR) : List Value := .int .i64 c.node :: (osC c.old ++ osC c.new)
theorem chgC_length (c : ChgR) : (chgC c).length = 7 := by
  obtain ⟨n, o, o'⟩ := c
  cases o <;> cases o' <;> rfl
theorem chgC_one (c : ChgR) : ∀ u ∈ chgC c, u.oneCell' = true := by
  obtain ⟨n, o, o'⟩ := c
  cases o <;> cases o' <;> simp [chgC, osC, Value.oneCell']
abbrev OwnC (W : World) (v : Value) (cs : List ChgR) : Prop := OwnRow (fun c xs => xs = chgC c) 76 7 W 0 v cs
/-- A tree in memory, after these operations; F: blocks that are its own. -/
def TreeAt (W : World) (F : Nat → Prop) (p : Nat) (os : List OpR) : Prop :=
  ∃ mb dv, TB W p mb dv (treeO os) ∧ OwnC W dv (traceT os) ∧ F p ∧ F mb ∧ ∀ b, dv.ownBlock = some b → F b
theorem TreeAt.touch {G : Nat → Prop} {W W' : World} {F : Nat → Prop} {p : Nat} {os : List OpR} (h : TreeAt W F p os) (ht : Touch G W W') (hn : ∀ b, F b → ¬ G b) : TreeAt W' F p os := by
  obtain ⟨mb, dv, h1, h2, h3, h4, h5⟩ := h
  exact ⟨mb, dv, ⟨ht.blk h1.hp (hn _ h3), h1.hm.touch ht (hn _ h4)⟩, ht.row h2 (fun b e => hn b (h5 b e)), h3, h4, h5⟩
theorem TreeAt.below {W W' : World} {F : Nat → Prop} {p : Nat} {os : List OpR} (h : TreeAt W F p os) (hb : Below W.heap.size W W') : TreeAt W' F p os := h.touch (Touch.below (F := fun _ => False) hb) (fun _ _ h => h)
theorem TreeAt.mono {W : World} {F G : Nat → Prop} {p : Nat} {os : List OpR} (h : TreeAt W F p os) (hF : ∀ b, F b → G b) : TreeAt W G p os := by
  obtain ⟨mb, dv, h1, h2, h3, h4, h5⟩ := h
  exact ⟨mb, dv, h1, h2, hF _ h3, hF _ h4, fun b e => hF b (h5 b e)⟩
theorem right_wf {o : OpR} (h : opRight o = true) : Wf o.node ∧ Wf o.par ∧ o.name.size ≤ 20 := by
  unfold opRight at h
  simp only [Bool.and_eq_true] at h
  obtain ⟨_, h2, h3, h4⟩ := h
  have hn : 256 ≤ o.node ∧ o.node ≤ 4294967295 := by simpa [nodeR] using h2
  have hp : 0 ≤ o.par ∧ o.par ≤ 4294967295 := by
    unfold toR nodeR at h3
    simp at h3
    omega
  refine ⟨wf_of (by omega), wf_of (by omega), ?_⟩
  unfold nameB at h4
  simp only [Bool.and_eq_true, decide_eq_true_eq] at h4
  have := h4.1.2
  rwa [data_length] at this
theorem treeO_wf {os : List OpR} (h : ∀ o ∈ os, opRight o = true) : ∀ k ∈ treeO os, Wf k.par := by
  intro k hk
  obtain ⟨o, ho, rfl⟩ := mem_treeO hk
  exact (right_wf (h o ho)).2.1
theorem osV_cells (o : Option Sp) : ∃ i t nm, osV o = .agg #[.bool i, .int .i64 t, .string nm] ∧ osC o = [.bool i, .int .i64 t, .string nm] := by
  cases o with
  | none => exact ⟨_, _, _, rfl, rfl⟩
  | some s => exact ⟨_, _, _, rfl, rfl⟩
theorem set_any (W : World) (p mb : Nat) (dv : Value) (l l' : List KidR) (n : Int) (o : Option Sp) (H : TB W p mb dv l) (hn : Wf n) (hlen : l.length < maxLen) (hl' : ∀ y, lookT l' y = if y = n then o else lookT l y) :
    Calls Tryz.prog 50 #[.pointer (some ⟨p, 0, none⟩), .int .i64 n, osV o] W fun e w' => e = .returned (.tuple #[]) ∧ TB w' p mb dv l' ∧ Touch (fun b => b = mb) W w' := by
  cases o with
  | none => exact set_none W p mb dv l l' n H hn hl'
  | some s => exact set_some W p mb dv l l' n s H hn hlen hl'
theorem chgInfo : (Tryz.prog.info? 76).map (fun i => (i.zero, i.size, i.bytes)) = some (some (.agg #[.int .i64 0, .bool false, .int .i64 0, .string ⟨#[]⟩, .bool false, .int .i64 0, .string ⟨#[]⟩]), 7, 72) := by kernel_rfl
set_option maxRecDepth 20000 in
set_option maxHeartbeats 4000000 in
theorem apply_A (W : World) (p mb : Nat) (dv : Value) (n r node par : Int) (name : ByteArray) (i : Bool) (t : Int) (nm : ByteArray) (os : List OpR) (c : ChgR) (l' : List KidR) (hlt : p < W.heap.size)
    (HP0 : Hid (∀ V, Below W.heap.size W V → V.cell? ⟨p, 0, none⟩ = some (.map (some mb)))) (HTB : Hid (∀ V, Below W.heap.size W V → OwnC V dv (traceT os)))
    (HR : Hid (∀ V, Below W.heap.size W V → Calls Tryz.prog 32 #[.agg #[.int .i64 n, .int .i64 r, .int .i64 node, .int .i64 par, .string name]] V fun e w' => e = .returned (.bool true) ∧ Below V.heap.size V w'))
    (HL : Hid (∀ V, Below W.heap.size W V → (Instr.lookup 91 (.map (some mb)) (.int .i64 node) false).run Tryz.prog V = .ok (.agg #[.bool i, .int .i64 t, .string nm]) V))
    (HK : Hid (∀ V, Below W.heap.size W V → Calls Tryz.prog 48 #[.pointer (some ⟨p, 0, none⟩), .int .i64 par] V fun e w' => e = .returned (.bool false) ∧ Below V.heap.size V w'))
    (HS : Hid (∀ V, Below W.heap.size W V → Calls Tryz.prog 50 #[.pointer (some ⟨p, 0, none⟩), .int .i64 node, .agg #[.bool i, .int .i64 t, .string nm]] V fun e w' => e = .returned (.tuple #[]) ∧ TB w' p mb dv l' ∧ Touch (fun b => b = mb) V w'))
    (hmb : mb < W.heap.size) (hdv : ∀ b, dv.ownBlock = some b → b ≠ mb ∧ b < W.heap.size) (hlen : os.length ≤ 1000000) (hc : chgC c = [.int .i64 node, .bool i, .int .i64 t, .string nm, .bool i, .int .i64 t, .string nm]) :
    Calls Tryz.prog 25 #[.pointer (some ⟨p, 0, none⟩), .agg #[.int .i64 n, .int .i64 r, .int .i64 node, .int .i64 par, .string name]] W fun e w' => e = .returned (.bool false) ∧ ∃ dv', TB w' p mb dv' l' ∧ OwnC w' dv' (traceT os ++ [c]) ∧ (dv'.ownBlock = dv.ownBlock ∨ ∃ b, dv'.ownBlock = some b ∧ W.heap.size ≤ b) ∧ Touch (fun b => b = p ∨ b = mb ∨ dv.ownBlock = some b) W w' := by
  have HB := Lib.hid (Below.refl W.heap.size W)
  have HLN := Lib.hid (show ((traceT os).length + 1) * 72 ≤ 140737488355328 by rw [traceT_length]; omega)
  have HC := Lib.hid hc
  have HDV := Lib.hid hdv
  have hmbl := hmb
  clear hlen hc hdv
  go_enter Tryz.func25, Tryz.ntmps25
  go_wp2_with (first
    | (go_at_call 32; go_loud ((refine (HR.out _ (by repeat (first | (with_reducible exact HB.out) | apply below_alloc | apply pw_below_drewN | apply below_drew1 | exact HB.out))).mono ?_); rintro e w1 ⟨rfl, hb⟩; have po0 : w1.cell? ⟨W.heap.size, 0, none⟩ = some (.int .i64 n) := pw_cell_below hb (by go_cell); have po1 : w1.cell? ⟨W.heap.size, 1, none⟩ = some (.int .i64 r) := pw_cell_below hb (by go_cell); have po2 : w1.cell? ⟨W.heap.size, 2, none⟩ = some (.int .i64 node) := pw_cell_below hb (by go_cell); have po3 : w1.cell? ⟨W.heap.size, 3, none⟩ = some (.int .i64 par) := pw_cell_below hb (by go_cell); have po4 : w1.cell? ⟨W.heap.size, 4, none⟩ = some (.string name) := pw_cell_below hb (by go_cell); have hsz1 : W.heap.size < w1.heap.size := (by have := hb.size; simp at this; omega); have HBn := Lib.hid (below_step (by repeat (first | (with_reducible exact HB.out) | apply below_alloc | apply pw_below_drewN | apply below_drew1 | exact HB.out)) hb); clear hb HB; have HB := HBn; clear HBn; have HB1 := HB; have hr := HL.out _ (below_drew1 HB.out); have hr2 := HL.out _ (below_drew1 (below_alloc HB.out (.cells #[.bool false, .int .i64 0, .string ⟨#[]⟩] 73))); have qp0 := HP0.out _ HB.out; have hpl1 : p < w1.heap.size := (by omega)))
    | (fail "no arm"))
  go_region
  all_goals go_wp2_with (first
    | (go_at_call 48; go_loud ((refine (HK.out _ (by repeat (first | (with_reducible exact HB.out) | apply below_alloc | apply pw_below_drewN | apply below_drew1 | exact HB.out))).mono ?_); rintro e w2 ⟨rfl, hb⟩; have p2o0 : w2.cell? ⟨W.heap.size, 0, none⟩ = some (.int .i64 n) := pw_cell_below hb (by go_cell); have p2o1 : w2.cell? ⟨W.heap.size, 1, none⟩ = some (.int .i64 r) := pw_cell_below hb (by go_cell); have p2o2 : w2.cell? ⟨W.heap.size, 2, none⟩ = some (.int .i64 node) := pw_cell_below hb (by go_cell); have p2o3 : w2.cell? ⟨W.heap.size, 3, none⟩ = some (.int .i64 par) := pw_cell_below hb (by go_cell); have p2o4 : w2.cell? ⟨W.heap.size, 4, none⟩ = some (.string name) := pw_cell_below hb (by go_cell); have p2c0 : w2.cell? ⟨w1.heap.size + 1, 0, none⟩ = some (.int .i64 node) := pw_cell_below hb (by go_cell); have p2c1 : w2.cell? ⟨w1.heap.size + 1, 1, none⟩ = some (.bool i) := pw_cell_below hb (by go_cell); have p2c2 : w2.cell? ⟨w1.heap.size + 1, 2, none⟩ = some (.int .i64 t) := pw_cell_below hb (by go_cell); have p2c3 : w2.cell? ⟨w1.heap.size + 1, 3, none⟩ = some (.string nm) := pw_cell_below hb (by go_cell); have p2c4 : w2.cell? ⟨w1.heap.size + 1, 4, none⟩ = some (.bool i) := pw_cell_below hb (by go_cell); have p2c5 : w2.cell? ⟨w1.heap.size + 1, 5, none⟩ = some (.int .i64 t) := pw_cell_below hb (by go_cell); have p2c6 : w2.cell? ⟨w1.heap.size + 1, 6, none⟩ = some (.string nm) := pw_cell_below hb (by go_cell); have p2h : w1.heap.size + 1 < w2.heap.size := World.block_lt_of_cell? w2 ⟨w1.heap.size + 1, 0, none⟩ p2c0; have p2z4 : w2.frozen? ⟨w1.heap.size + 1, 4, none⟩ = false := (hb.frozen (p := ⟨w1.heap.size + 1, 4, none⟩) (by first | assumption | (simp; done) | (simp; omega))).trans (by go_cell); have p2z5 : w2.frozen? ⟨w1.heap.size + 1, 5, none⟩ = false := (hb.frozen (p := ⟨w1.heap.size + 1, 5, none⟩) (by first | assumption | (simp; done) | (simp; omega))).trans (by go_cell); have p2z6 : w2.frozen? ⟨w1.heap.size + 1, 6, none⟩ = false := (hb.frozen (p := ⟨w1.heap.size + 1, 6, none⟩) (by first | assumption | (simp; done) | (simp; omega))).trans (by go_cell); have HBn := Lib.hid (below_step (by repeat (first | (with_reducible exact HB.out) | apply below_alloc | apply pw_below_drewN | apply below_drew1 | exact HB.out)) hb); clear hb HB; have HB := HBn; clear HBn))
    | (go_at_call 50; go_loud ((refine (HS.out _ (by repeat (first | (with_reducible exact HB.out) | apply below_alloc | apply pw_below_drewN | apply below_drew1 | exact HB.out))).mono ?_); rintro e w4 ⟨rfl, htb, ht⟩; have HT4 := Lib.hid ht; have HTB4 := Lib.hid htb; have HNE := Lib.hid (show ¬ (w1.heap.size + 1 = mb) from fun e => by have := HB1.out.size; omega); have s0 : w4.cell? ⟨w1.heap.size + 1, 0, none⟩ = some (.int .i64 node) := HT4.out.cell (by go_cell) (by simpa using HNE.out); have s1 : w4.cell? ⟨w1.heap.size + 1, 1, none⟩ = some (.bool i) := HT4.out.cell (by go_cell) (by simpa using HNE.out); have s2 : w4.cell? ⟨w1.heap.size + 1, 2, none⟩ = some (.int .i64 t) := HT4.out.cell (by go_cell) (by simpa using HNE.out); have s3 : w4.cell? ⟨w1.heap.size + 1, 3, none⟩ = some (.string nm) := HT4.out.cell (by go_cell) (by simpa using HNE.out); have s4 : w4.cell? ⟨w1.heap.size + 1, 4, none⟩ = some (.bool i) := HT4.out.cell (by go_cell) (by simpa using HNE.out); have s5 : w4.cell? ⟨w1.heap.size + 1, 5, none⟩ = some (.int .i64 t) := HT4.out.cell (by go_cell) (by simpa using HNE.out); have s6 : w4.cell? ⟨w1.heap.size + 1, 6, none⟩ = some (.string nm) := HT4.out.cell (by go_cell) (by simpa using HNE.out); have hcb4 : w1.heap.size + 1 < w4.heap.size := World.block_lt_of_cell? w4 ⟨w1.heap.size + 1, 0, none⟩ s0; have HTA := Lib.hid (Touch.trans (Touch.below (F := fun b => b = mb) (by repeat (first | (with_reducible exact HB.out) | apply below_alloc | apply pw_below_drewN | apply below_drew1 | exact HB.out))) ht (fun _ _ h => h)); have HO4 := Lib.hid (show OwnC w4 dv (traceT os) from ht.row (HTB.out _ (by repeat (first | (with_reducible exact HB.out) | apply below_alloc | apply pw_below_drewN | apply below_drew1 | exact HB.out))) (fun b e => (HDV.out b e).1)); have d1 := blk_cell htb.hp 1; have HNB := Lib.hid (OwnRow.ne_block HO4.out htb.hp (by decide)); have hlt4 : p < w4.heap.size := blk_lt htb.hp; clear htb ht))
    | (fail "no arm"))
  all_goals
   simp at d1
   go_region_law (first
     | (go_loud ((refine OwnRow.append_step (R := fun c xs => xs = chgC c) (w0 := w4.drew) (W := w4.drew) 0 (by rfl) (.tmp 53) (.tmp 55) 31 76 _ 7 72 rfl Tryz.underlying31 chgInfo rfl (by decide) (by decide) dv (traceT os) c [.int .i64 node, .bool i, .int .i64 t, .string nm, .bool i, .int .i64 t, .string nm] rfl (by simp [Act.eval]) HC.out.symm rfl (by simp [Value.oneCell']) HO4.out (Below.refl _ _) (Nat.zero_le _) HLN.out ?_); intro v8 w8 ho hb8 hg hat; obtain ⟨A8, c8, rfl, _⟩ := OwnRow.slice_ ho; rw [List.length_append, List.length_singleton] at ho hat; have HO8 := Lib.hid ho; have HG8 := Lib.hid (show w4.grownBy w8 dv.ownBlock from ⟨hg.os, hg.tape, hg.output, hg.size, hg.block⟩); have HAT := Lib.hid hat; have HE8 := Lib.hid (show w8.heap[p]? = _ from (hg.block p hlt4 HNB.out).trans HTB4.out.hp); have z1 := blk_frozen HE8.out 1; have k1 := blk_cell HE8.out 1; simp at k1; have hlt8 : p < w8.heap.size := blk_lt HE8.out; have hne8 : some (w1.heap.size + 1) ≠ dv.ownBlock := (fun e => by have := (HDV.out _ e.symm).2; have := HB1.out.size; omega); have e0 := (World.cell?_of_block (a := ⟨w1.heap.size + 1, 0, none⟩) (hg.block _ hcb4 hne8)).trans s0; have e1 := (World.cell?_of_block (a := ⟨w1.heap.size + 1, 1, none⟩) (hg.block _ hcb4 hne8)).trans s1; have e2 := (World.cell?_of_block (a := ⟨w1.heap.size + 1, 2, none⟩) (hg.block _ hcb4 hne8)).trans s2; have e3 := (World.cell?_of_block (a := ⟨w1.heap.size + 1, 3, none⟩) (hg.block _ hcb4 hne8)).trans s3; have e4 := (World.cell?_of_block (a := ⟨w1.heap.size + 1, 4, none⟩) (hg.block _ hcb4 hne8)).trans s4; have e5 := (World.cell?_of_block (a := ⟨w1.heap.size + 1, 5, none⟩) (hg.block _ hcb4 hne8)).trans s5; have e6 := (World.cell?_of_block (a := ⟨w1.heap.size + 1, 6, none⟩) (hg.block _ hcb4 hne8)).trans s6; clear ho hb8 hg hat))
     | (fail "no law"))
   all_goals
    go_wp2
    go_ret
    have HM8 := HTB4.out.hm.touch (F := fun b => dv.ownBlock = some b) (Touch.grown HG8.out (fun b e => e)) (fun e => (HDV.out mb e).1 rfl)
    refine ⟨rfl, _, ⟨blk_put HE8.out 1 _ rfl, HM8.touch (Touch.set_ (F := fun b => b = p) rfl 1 _) (fun e => (HTB4.out.hm.ne_cells HTB4.out.hp) e.symm)⟩, OwnRow.set_ HO8.out HE8.out (by decide) 1 _, ?_, ?_⟩
    · rcases HAT.out with h | ⟨b, h1, h2⟩
      · exact .inl h
      · exact .inr ⟨b, h1, Nat.le_trans HTA.out.size h2⟩
    · exact (((HTA.out.mono (fun b e => .inr (.inl e))).trans (Touch.grown (F := fun b => dv.ownBlock = some b) HG8.out (fun b e => e)) (fun b _ e => .inr (.inr e))).trans (Touch.set_ (F := fun b => b = p) rfl 1 _) (fun b _ e => .inl e))
set_option maxRecDepth 20000 in
set_option maxHeartbeats 4000000 in
theorem apply_B (W : World) (p mb : Nat) (dv : Value) (n r node par : Int) (name : ByteArray) (i : Bool) (t : Int) (nm : ByteArray) (os : List OpR) (c : ChgR) (l' : List KidR) (hlt : p < W.heap.size)
    (HP0 : Hid (∀ V, Below W.heap.size W V → V.cell? ⟨p, 0, none⟩ = some (.map (some mb)))) (HTB : Hid (∀ V, Below W.heap.size W V → OwnC V dv (traceT os)))
    (HR : Hid (∀ V, Below W.heap.size W V → Calls Tryz.prog 32 #[.agg #[.int .i64 n, .int .i64 r, .int .i64 node, .int .i64 par, .string name]] V fun e w' => e = .returned (.bool true) ∧ Below V.heap.size V w'))
    (HL : Hid (∀ V, Below W.heap.size W V → (Instr.lookup 91 (.map (some mb)) (.int .i64 node) false).run Tryz.prog V = .ok (.agg #[.bool i, .int .i64 t, .string nm]) V))
    (HK : Hid (∀ V, Below W.heap.size W V → Calls Tryz.prog 48 #[.pointer (some ⟨p, 0, none⟩), .int .i64 par] V fun e w' => e = .returned (.bool true) ∧ Below V.heap.size V w'))
    (HA : Hid (∀ V, Below W.heap.size W V → Calls Tryz.prog 49 #[.pointer (some ⟨p, 0, none⟩), .int .i64 node, .int .i64 par] V fun e w' => e = .returned (.bool true) ∧ Below V.heap.size V w'))
    (HS : Hid (∀ V, Below W.heap.size W V → Calls Tryz.prog 50 #[.pointer (some ⟨p, 0, none⟩), .int .i64 node, .agg #[.bool i, .int .i64 t, .string nm]] V fun e w' => e = .returned (.tuple #[]) ∧ TB w' p mb dv l' ∧ Touch (fun b => b = mb) V w'))
    (hmb : mb < W.heap.size) (hdv : ∀ b, dv.ownBlock = some b → b ≠ mb ∧ b < W.heap.size) (hlen : os.length ≤ 1000000) (hc : chgC c = [.int .i64 node, .bool i, .int .i64 t, .string nm, .bool i, .int .i64 t, .string nm]) :
    Calls Tryz.prog 25 #[.pointer (some ⟨p, 0, none⟩), .agg #[.int .i64 n, .int .i64 r, .int .i64 node, .int .i64 par, .string name]] W fun e w' => e = .returned (.bool false) ∧ ∃ dv', TB w' p mb dv' l' ∧ OwnC w' dv' (traceT os ++ [c]) ∧ (dv'.ownBlock = dv.ownBlock ∨ ∃ b, dv'.ownBlock = some b ∧ W.heap.size ≤ b) ∧ Touch (fun b => b = p ∨ b = mb ∨ dv.ownBlock = some b) W w' := by
  have HB := Lib.hid (Below.refl W.heap.size W)
  have HLN := Lib.hid (show ((traceT os).length + 1) * 72 ≤ 140737488355328 by rw [traceT_length]; omega)
  have HC := Lib.hid hc
  have HDV := Lib.hid hdv
  have hmbl := hmb
  clear hlen hc hdv
  go_enter Tryz.func25, Tryz.ntmps25
  go_wp2_with (first
    | (go_at_call 32; go_loud ((refine (HR.out _ (by repeat (first | (with_reducible exact HB.out) | apply below_alloc | apply pw_below_drewN | apply below_drew1 | exact HB.out))).mono ?_); rintro e w1 ⟨rfl, hb⟩; have po0 : w1.cell? ⟨W.heap.size, 0, none⟩ = some (.int .i64 n) := pw_cell_below hb (by go_cell); have po1 : w1.cell? ⟨W.heap.size, 1, none⟩ = some (.int .i64 r) := pw_cell_below hb (by go_cell); have po2 : w1.cell? ⟨W.heap.size, 2, none⟩ = some (.int .i64 node) := pw_cell_below hb (by go_cell); have po3 : w1.cell? ⟨W.heap.size, 3, none⟩ = some (.int .i64 par) := pw_cell_below hb (by go_cell); have po4 : w1.cell? ⟨W.heap.size, 4, none⟩ = some (.string name) := pw_cell_below hb (by go_cell); have hsz1 : W.heap.size < w1.heap.size := (by have := hb.size; simp at this; omega); have HBn := Lib.hid (below_step (by repeat (first | (with_reducible exact HB.out) | apply below_alloc | apply pw_below_drewN | apply below_drew1 | exact HB.out)) hb); clear hb HB; have HB := HBn; clear HBn; have HB1 := HB; have hr := HL.out _ (below_drew1 HB.out); have hr2 := HL.out _ (below_drew1 (below_alloc HB.out (.cells #[.bool false, .int .i64 0, .string ⟨#[]⟩] 73))); have qp0 := HP0.out _ HB.out; have hpl1 : p < w1.heap.size := (by omega)))
    | (fail "no arm"))
  go_region
  all_goals go_wp2_with (first
    | (go_at_call 48; go_loud ((refine (HK.out _ (by repeat (first | (with_reducible exact HB.out) | apply below_alloc | apply pw_below_drewN | apply below_drew1 | exact HB.out))).mono ?_); rintro e w2 ⟨rfl, hb⟩; have p2o0 : w2.cell? ⟨W.heap.size, 0, none⟩ = some (.int .i64 n) := pw_cell_below hb (by go_cell); have p2o1 : w2.cell? ⟨W.heap.size, 1, none⟩ = some (.int .i64 r) := pw_cell_below hb (by go_cell); have p2o2 : w2.cell? ⟨W.heap.size, 2, none⟩ = some (.int .i64 node) := pw_cell_below hb (by go_cell); have p2o3 : w2.cell? ⟨W.heap.size, 3, none⟩ = some (.int .i64 par) := pw_cell_below hb (by go_cell); have p2o4 : w2.cell? ⟨W.heap.size, 4, none⟩ = some (.string name) := pw_cell_below hb (by go_cell); have p2c0 : w2.cell? ⟨w1.heap.size + 1, 0, none⟩ = some (.int .i64 node) := pw_cell_below hb (by go_cell); have p2c1 : w2.cell? ⟨w1.heap.size + 1, 1, none⟩ = some (.bool i) := pw_cell_below hb (by go_cell); have p2c2 : w2.cell? ⟨w1.heap.size + 1, 2, none⟩ = some (.int .i64 t) := pw_cell_below hb (by go_cell); have p2c3 : w2.cell? ⟨w1.heap.size + 1, 3, none⟩ = some (.string nm) := pw_cell_below hb (by go_cell); have p2c4 : w2.cell? ⟨w1.heap.size + 1, 4, none⟩ = some (.bool i) := pw_cell_below hb (by go_cell); have p2c5 : w2.cell? ⟨w1.heap.size + 1, 5, none⟩ = some (.int .i64 t) := pw_cell_below hb (by go_cell); have p2c6 : w2.cell? ⟨w1.heap.size + 1, 6, none⟩ = some (.string nm) := pw_cell_below hb (by go_cell); have p2h : w1.heap.size + 1 < w2.heap.size := World.block_lt_of_cell? w2 ⟨w1.heap.size + 1, 0, none⟩ p2c0; have p2z4 : w2.frozen? ⟨w1.heap.size + 1, 4, none⟩ = false := (hb.frozen (p := ⟨w1.heap.size + 1, 4, none⟩) (by first | assumption | (simp; done) | (simp; omega))).trans (by go_cell); have p2z5 : w2.frozen? ⟨w1.heap.size + 1, 5, none⟩ = false := (hb.frozen (p := ⟨w1.heap.size + 1, 5, none⟩) (by first | assumption | (simp; done) | (simp; omega))).trans (by go_cell); have p2z6 : w2.frozen? ⟨w1.heap.size + 1, 6, none⟩ = false := (hb.frozen (p := ⟨w1.heap.size + 1, 6, none⟩) (by first | assumption | (simp; done) | (simp; omega))).trans (by go_cell); have HBn := Lib.hid (below_step (by repeat (first | (with_reducible exact HB.out) | apply below_alloc | apply pw_below_drewN | apply below_drew1 | exact HB.out)) hb); clear hb HB; have HB := HBn; clear HBn))
    | (go_at_call 49; go_loud ((refine (HA.out _ (by repeat (first | (with_reducible exact HB.out) | apply below_alloc | apply pw_below_drewN | apply below_drew1 | exact HB.out))).mono ?_); rintro e w3 ⟨rfl, hb⟩; have p3o0 : w3.cell? ⟨W.heap.size, 0, none⟩ = some (.int .i64 n) := pw_cell_below hb (by go_cell); have p3o1 : w3.cell? ⟨W.heap.size, 1, none⟩ = some (.int .i64 r) := pw_cell_below hb (by go_cell); have p3o2 : w3.cell? ⟨W.heap.size, 2, none⟩ = some (.int .i64 node) := pw_cell_below hb (by go_cell); have p3o3 : w3.cell? ⟨W.heap.size, 3, none⟩ = some (.int .i64 par) := pw_cell_below hb (by go_cell); have p3o4 : w3.cell? ⟨W.heap.size, 4, none⟩ = some (.string name) := pw_cell_below hb (by go_cell); have p3c0 : w3.cell? ⟨w1.heap.size + 1, 0, none⟩ = some (.int .i64 node) := pw_cell_below hb (by go_cell); have p3c1 : w3.cell? ⟨w1.heap.size + 1, 1, none⟩ = some (.bool i) := pw_cell_below hb (by go_cell); have p3c2 : w3.cell? ⟨w1.heap.size + 1, 2, none⟩ = some (.int .i64 t) := pw_cell_below hb (by go_cell); have p3c3 : w3.cell? ⟨w1.heap.size + 1, 3, none⟩ = some (.string nm) := pw_cell_below hb (by go_cell); have p3c4 : w3.cell? ⟨w1.heap.size + 1, 4, none⟩ = some (.bool i) := pw_cell_below hb (by go_cell); have p3c5 : w3.cell? ⟨w1.heap.size + 1, 5, none⟩ = some (.int .i64 t) := pw_cell_below hb (by go_cell); have p3c6 : w3.cell? ⟨w1.heap.size + 1, 6, none⟩ = some (.string nm) := pw_cell_below hb (by go_cell); have p3h : w1.heap.size + 1 < w3.heap.size := World.block_lt_of_cell? w3 ⟨w1.heap.size + 1, 0, none⟩ p3c0; have p3z4 : w3.frozen? ⟨w1.heap.size + 1, 4, none⟩ = false := (hb.frozen (p := ⟨w1.heap.size + 1, 4, none⟩) (by first | assumption | (simp; done) | (simp; omega))).trans (by go_cell); have p3z5 : w3.frozen? ⟨w1.heap.size + 1, 5, none⟩ = false := (hb.frozen (p := ⟨w1.heap.size + 1, 5, none⟩) (by first | assumption | (simp; done) | (simp; omega))).trans (by go_cell); have p3z6 : w3.frozen? ⟨w1.heap.size + 1, 6, none⟩ = false := (hb.frozen (p := ⟨w1.heap.size + 1, 6, none⟩) (by first | assumption | (simp; done) | (simp; omega))).trans (by go_cell); have HBn := Lib.hid (below_step (by repeat (first | (with_reducible exact HB.out) | apply below_alloc | apply pw_below_drewN | apply below_drew1 | exact HB.out)) hb); clear hb HB; have HB := HBn; clear HBn))
    | (go_at_call 50; go_loud ((refine (HS.out _ (by repeat (first | (with_reducible exact HB.out) | apply below_alloc | apply pw_below_drewN | apply below_drew1 | exact HB.out))).mono ?_); rintro e w4 ⟨rfl, htb, ht⟩; have HT4 := Lib.hid ht; have HTB4 := Lib.hid htb; have HNE := Lib.hid (show ¬ (w1.heap.size + 1 = mb) from fun e => by have := HB1.out.size; omega); have s0 : w4.cell? ⟨w1.heap.size + 1, 0, none⟩ = some (.int .i64 node) := HT4.out.cell (by go_cell) (by simpa using HNE.out); have s1 : w4.cell? ⟨w1.heap.size + 1, 1, none⟩ = some (.bool i) := HT4.out.cell (by go_cell) (by simpa using HNE.out); have s2 : w4.cell? ⟨w1.heap.size + 1, 2, none⟩ = some (.int .i64 t) := HT4.out.cell (by go_cell) (by simpa using HNE.out); have s3 : w4.cell? ⟨w1.heap.size + 1, 3, none⟩ = some (.string nm) := HT4.out.cell (by go_cell) (by simpa using HNE.out); have s4 : w4.cell? ⟨w1.heap.size + 1, 4, none⟩ = some (.bool i) := HT4.out.cell (by go_cell) (by simpa using HNE.out); have s5 : w4.cell? ⟨w1.heap.size + 1, 5, none⟩ = some (.int .i64 t) := HT4.out.cell (by go_cell) (by simpa using HNE.out); have s6 : w4.cell? ⟨w1.heap.size + 1, 6, none⟩ = some (.string nm) := HT4.out.cell (by go_cell) (by simpa using HNE.out); have hcb4 : w1.heap.size + 1 < w4.heap.size := World.block_lt_of_cell? w4 ⟨w1.heap.size + 1, 0, none⟩ s0; have HTA := Lib.hid (Touch.trans (Touch.below (F := fun b => b = mb) (by repeat (first | (with_reducible exact HB.out) | apply below_alloc | apply pw_below_drewN | apply below_drew1 | exact HB.out))) ht (fun _ _ h => h)); have HO4 := Lib.hid (show OwnC w4 dv (traceT os) from ht.row (HTB.out _ (by repeat (first | (with_reducible exact HB.out) | apply below_alloc | apply pw_below_drewN | apply below_drew1 | exact HB.out))) (fun b e => (HDV.out b e).1)); have d1 := blk_cell htb.hp 1; have HNB := Lib.hid (OwnRow.ne_block HO4.out htb.hp (by decide)); have hlt4 : p < w4.heap.size := blk_lt htb.hp; clear htb ht))
    | (fail "no arm"))
  all_goals
   simp at d1
   go_region_law (first
     | (go_loud ((refine OwnRow.append_step (R := fun c xs => xs = chgC c) (w0 := w4.drew) (W := w4.drew) 0 (by rfl) (.tmp 53) (.tmp 55) 31 76 _ 7 72 rfl Tryz.underlying31 chgInfo rfl (by decide) (by decide) dv (traceT os) c [.int .i64 node, .bool i, .int .i64 t, .string nm, .bool i, .int .i64 t, .string nm] rfl (by simp [Act.eval]) HC.out.symm rfl (by simp [Value.oneCell']) HO4.out (Below.refl _ _) (Nat.zero_le _) HLN.out ?_); intro v8 w8 ho hb8 hg hat; obtain ⟨A8, c8, rfl, _⟩ := OwnRow.slice_ ho; rw [List.length_append, List.length_singleton] at ho hat; have HO8 := Lib.hid ho; have HG8 := Lib.hid (show w4.grownBy w8 dv.ownBlock from ⟨hg.os, hg.tape, hg.output, hg.size, hg.block⟩); have HAT := Lib.hid hat; have HE8 := Lib.hid (show w8.heap[p]? = _ from (hg.block p hlt4 HNB.out).trans HTB4.out.hp); have z1 := blk_frozen HE8.out 1; have k1 := blk_cell HE8.out 1; simp at k1; have hlt8 : p < w8.heap.size := blk_lt HE8.out; have hne8 : some (w1.heap.size + 1) ≠ dv.ownBlock := (fun e => by have := (HDV.out _ e.symm).2; have := HB1.out.size; omega); have e0 := (World.cell?_of_block (a := ⟨w1.heap.size + 1, 0, none⟩) (hg.block _ hcb4 hne8)).trans s0; have e1 := (World.cell?_of_block (a := ⟨w1.heap.size + 1, 1, none⟩) (hg.block _ hcb4 hne8)).trans s1; have e2 := (World.cell?_of_block (a := ⟨w1.heap.size + 1, 2, none⟩) (hg.block _ hcb4 hne8)).trans s2; have e3 := (World.cell?_of_block (a := ⟨w1.heap.size + 1, 3, none⟩) (hg.block _ hcb4 hne8)).trans s3; have e4 := (World.cell?_of_block (a := ⟨w1.heap.size + 1, 4, none⟩) (hg.block _ hcb4 hne8)).trans s4; have e5 := (World.cell?_of_block (a := ⟨w1.heap.size + 1, 5, none⟩) (hg.block _ hcb4 hne8)).trans s5; have e6 := (World.cell?_of_block (a := ⟨w1.heap.size + 1, 6, none⟩) (hg.block _ hcb4 hne8)).trans s6; clear ho hb8 hg hat))
     | (fail "no law"))
   all_goals
    go_wp2
    go_ret
    have HM8 := HTB4.out.hm.touch (F := fun b => dv.ownBlock = some b) (Touch.grown HG8.out (fun b e => e)) (fun e => (HDV.out mb e).1 rfl)
    refine ⟨rfl, _, ⟨blk_put HE8.out 1 _ rfl, HM8.touch (Touch.set_ (F := fun b => b = p) rfl 1 _) (fun e => (HTB4.out.hm.ne_cells HTB4.out.hp) e.symm)⟩, OwnRow.set_ HO8.out HE8.out (by decide) 1 _, ?_, ?_⟩
    · rcases HAT.out with h | ⟨b, h1, h2⟩
      · exact .inl h
      · exact .inr ⟨b, h1, Nat.le_trans HTA.out.size h2⟩
    · exact (((HTA.out.mono (fun b e => .inr (.inl e))).trans (Touch.grown (F := fun b => dv.ownBlock = some b) HG8.out (fun b e => e)) (fun b _ e => .inr (.inr e))).trans (Touch.set_ (F := fun b => b = p) rfl 1 _) (fun b _ e => .inl e))
set_option maxRecDepth 20000 in
set_option maxHeartbeats 4000000 in
theorem apply_C (W : World) (p mb : Nat) (dv : Value) (n r node par : Int) (name : ByteArray) (i : Bool) (t : Int) (nm : ByteArray) (os : List OpR) (c : ChgR) (l' : List KidR) (hlt : p < W.heap.size)
    (HP0 : Hid (∀ V, Below W.heap.size W V → V.cell? ⟨p, 0, none⟩ = some (.map (some mb)))) (HTB : Hid (∀ V, Below W.heap.size W V → OwnC V dv (traceT os)))
    (HR : Hid (∀ V, Below W.heap.size W V → Calls Tryz.prog 32 #[.agg #[.int .i64 n, .int .i64 r, .int .i64 node, .int .i64 par, .string name]] V fun e w' => e = .returned (.bool true) ∧ Below V.heap.size V w'))
    (HL : Hid (∀ V, Below W.heap.size W V → (Instr.lookup 91 (.map (some mb)) (.int .i64 node) false).run Tryz.prog V = .ok (.agg #[.bool i, .int .i64 t, .string nm]) V))
    (HK : Hid (∀ V, Below W.heap.size W V → Calls Tryz.prog 48 #[.pointer (some ⟨p, 0, none⟩), .int .i64 par] V fun e w' => e = .returned (.bool true) ∧ Below V.heap.size V w'))
    (HA : Hid (∀ V, Below W.heap.size W V → Calls Tryz.prog 49 #[.pointer (some ⟨p, 0, none⟩), .int .i64 node, .int .i64 par] V fun e w' => e = .returned (.bool false) ∧ Below V.heap.size V w'))
    (HS : Hid (∀ V, Below W.heap.size W V → Calls Tryz.prog 50 #[.pointer (some ⟨p, 0, none⟩), .int .i64 node, .agg #[.bool true, .int .i64 par, .string name]] V fun e w' => e = .returned (.tuple #[]) ∧ TB w' p mb dv l' ∧ Touch (fun b => b = mb) V w'))
    (hmb : mb < W.heap.size) (hdv : ∀ b, dv.ownBlock = some b → b ≠ mb ∧ b < W.heap.size) (hlen : os.length ≤ 1000000) (hc : chgC c = [.int .i64 node, .bool i, .int .i64 t, .string nm, .bool true, .int .i64 par, .string name]) :
    Calls Tryz.prog 25 #[.pointer (some ⟨p, 0, none⟩), .agg #[.int .i64 n, .int .i64 r, .int .i64 node, .int .i64 par, .string name]] W fun e w' => e = .returned (.bool true) ∧ ∃ dv', TB w' p mb dv' l' ∧ OwnC w' dv' (traceT os ++ [c]) ∧ (dv'.ownBlock = dv.ownBlock ∨ ∃ b, dv'.ownBlock = some b ∧ W.heap.size ≤ b) ∧ Touch (fun b => b = p ∨ b = mb ∨ dv.ownBlock = some b) W w' := by
  have HB := Lib.hid (Below.refl W.heap.size W)
  have HLN := Lib.hid (show ((traceT os).length + 1) * 72 ≤ 140737488355328 by rw [traceT_length]; omega)
  have HC := Lib.hid hc
  have HDV := Lib.hid hdv
  have hmbl := hmb
  clear hlen hc hdv
  go_enter Tryz.func25, Tryz.ntmps25
  go_wp2_with (first
    | (go_at_call 32; go_loud ((refine (HR.out _ (by repeat (first | (with_reducible exact HB.out) | apply below_alloc | apply pw_below_drewN | apply below_drew1 | exact HB.out))).mono ?_); rintro e w1 ⟨rfl, hb⟩; have po0 : w1.cell? ⟨W.heap.size, 0, none⟩ = some (.int .i64 n) := pw_cell_below hb (by go_cell); have po1 : w1.cell? ⟨W.heap.size, 1, none⟩ = some (.int .i64 r) := pw_cell_below hb (by go_cell); have po2 : w1.cell? ⟨W.heap.size, 2, none⟩ = some (.int .i64 node) := pw_cell_below hb (by go_cell); have po3 : w1.cell? ⟨W.heap.size, 3, none⟩ = some (.int .i64 par) := pw_cell_below hb (by go_cell); have po4 : w1.cell? ⟨W.heap.size, 4, none⟩ = some (.string name) := pw_cell_below hb (by go_cell); have hsz1 : W.heap.size < w1.heap.size := (by have := hb.size; simp at this; omega); have HBn := Lib.hid (below_step (by repeat (first | (with_reducible exact HB.out) | apply below_alloc | apply pw_below_drewN | apply below_drew1 | exact HB.out)) hb); clear hb HB; have HB := HBn; clear HBn; have HB1 := HB; have hr := HL.out _ (below_drew1 HB.out); have hr2 := HL.out _ (below_drew1 (below_alloc HB.out (.cells #[.bool false, .int .i64 0, .string ⟨#[]⟩] 73))); have qp0 := HP0.out _ HB.out; have hpl1 : p < w1.heap.size := (by omega)))
    | (fail "no arm"))
  go_region
  all_goals go_wp2_with (first
    | (go_at_call 48; go_loud ((refine (HK.out _ (by repeat (first | (with_reducible exact HB.out) | apply below_alloc | apply pw_below_drewN | apply below_drew1 | exact HB.out))).mono ?_); rintro e w2 ⟨rfl, hb⟩; have p2o0 : w2.cell? ⟨W.heap.size, 0, none⟩ = some (.int .i64 n) := pw_cell_below hb (by go_cell); have p2o1 : w2.cell? ⟨W.heap.size, 1, none⟩ = some (.int .i64 r) := pw_cell_below hb (by go_cell); have p2o2 : w2.cell? ⟨W.heap.size, 2, none⟩ = some (.int .i64 node) := pw_cell_below hb (by go_cell); have p2o3 : w2.cell? ⟨W.heap.size, 3, none⟩ = some (.int .i64 par) := pw_cell_below hb (by go_cell); have p2o4 : w2.cell? ⟨W.heap.size, 4, none⟩ = some (.string name) := pw_cell_below hb (by go_cell); have p2c0 : w2.cell? ⟨w1.heap.size + 1, 0, none⟩ = some (.int .i64 node) := pw_cell_below hb (by go_cell); have p2c1 : w2.cell? ⟨w1.heap.size + 1, 1, none⟩ = some (.bool i) := pw_cell_below hb (by go_cell); have p2c2 : w2.cell? ⟨w1.heap.size + 1, 2, none⟩ = some (.int .i64 t) := pw_cell_below hb (by go_cell); have p2c3 : w2.cell? ⟨w1.heap.size + 1, 3, none⟩ = some (.string nm) := pw_cell_below hb (by go_cell); have p2c4 : w2.cell? ⟨w1.heap.size + 1, 4, none⟩ = some (.bool i) := pw_cell_below hb (by go_cell); have p2c5 : w2.cell? ⟨w1.heap.size + 1, 5, none⟩ = some (.int .i64 t) := pw_cell_below hb (by go_cell); have p2c6 : w2.cell? ⟨w1.heap.size + 1, 6, none⟩ = some (.string nm) := pw_cell_below hb (by go_cell); have p2h : w1.heap.size + 1 < w2.heap.size := World.block_lt_of_cell? w2 ⟨w1.heap.size + 1, 0, none⟩ p2c0; have p2z4 : w2.frozen? ⟨w1.heap.size + 1, 4, none⟩ = false := (hb.frozen (p := ⟨w1.heap.size + 1, 4, none⟩) (by first | assumption | (simp; done) | (simp; omega))).trans (by go_cell); have p2z5 : w2.frozen? ⟨w1.heap.size + 1, 5, none⟩ = false := (hb.frozen (p := ⟨w1.heap.size + 1, 5, none⟩) (by first | assumption | (simp; done) | (simp; omega))).trans (by go_cell); have p2z6 : w2.frozen? ⟨w1.heap.size + 1, 6, none⟩ = false := (hb.frozen (p := ⟨w1.heap.size + 1, 6, none⟩) (by first | assumption | (simp; done) | (simp; omega))).trans (by go_cell); have HBn := Lib.hid (below_step (by repeat (first | (with_reducible exact HB.out) | apply below_alloc | apply pw_below_drewN | apply below_drew1 | exact HB.out)) hb); clear hb HB; have HB := HBn; clear HBn))
    | (go_at_call 49; go_loud ((refine (HA.out _ (by repeat (first | (with_reducible exact HB.out) | apply below_alloc | apply pw_below_drewN | apply below_drew1 | exact HB.out))).mono ?_); rintro e w3 ⟨rfl, hb⟩; have p3o0 : w3.cell? ⟨W.heap.size, 0, none⟩ = some (.int .i64 n) := pw_cell_below hb (by go_cell); have p3o1 : w3.cell? ⟨W.heap.size, 1, none⟩ = some (.int .i64 r) := pw_cell_below hb (by go_cell); have p3o2 : w3.cell? ⟨W.heap.size, 2, none⟩ = some (.int .i64 node) := pw_cell_below hb (by go_cell); have p3o3 : w3.cell? ⟨W.heap.size, 3, none⟩ = some (.int .i64 par) := pw_cell_below hb (by go_cell); have p3o4 : w3.cell? ⟨W.heap.size, 4, none⟩ = some (.string name) := pw_cell_below hb (by go_cell); have p3c0 : w3.cell? ⟨w1.heap.size + 1, 0, none⟩ = some (.int .i64 node) := pw_cell_below hb (by go_cell); have p3c1 : w3.cell? ⟨w1.heap.size + 1, 1, none⟩ = some (.bool i) := pw_cell_below hb (by go_cell); have p3c2 : w3.cell? ⟨w1.heap.size + 1, 2, none⟩ = some (.int .i64 t) := pw_cell_below hb (by go_cell); have p3c3 : w3.cell? ⟨w1.heap.size + 1, 3, none⟩ = some (.string nm) := pw_cell_below hb (by go_cell); have p3c4 : w3.cell? ⟨w1.heap.size + 1, 4, none⟩ = some (.bool i) := pw_cell_below hb (by go_cell); have p3c5 : w3.cell? ⟨w1.heap.size + 1, 5, none⟩ = some (.int .i64 t) := pw_cell_below hb (by go_cell); have p3c6 : w3.cell? ⟨w1.heap.size + 1, 6, none⟩ = some (.string nm) := pw_cell_below hb (by go_cell); have p3h : w1.heap.size + 1 < w3.heap.size := World.block_lt_of_cell? w3 ⟨w1.heap.size + 1, 0, none⟩ p3c0; have p3z4 : w3.frozen? ⟨w1.heap.size + 1, 4, none⟩ = false := (hb.frozen (p := ⟨w1.heap.size + 1, 4, none⟩) (by first | assumption | (simp; done) | (simp; omega))).trans (by go_cell); have p3z5 : w3.frozen? ⟨w1.heap.size + 1, 5, none⟩ = false := (hb.frozen (p := ⟨w1.heap.size + 1, 5, none⟩) (by first | assumption | (simp; done) | (simp; omega))).trans (by go_cell); have p3z6 : w3.frozen? ⟨w1.heap.size + 1, 6, none⟩ = false := (hb.frozen (p := ⟨w1.heap.size + 1, 6, none⟩) (by first | assumption | (simp; done) | (simp; omega))).trans (by go_cell); have HBn := Lib.hid (below_step (by repeat (first | (with_reducible exact HB.out) | apply below_alloc | apply pw_below_drewN | apply below_drew1 | exact HB.out)) hb); clear hb HB; have HB := HBn; clear HBn))
    | (go_at_call 50; go_loud ((refine (HS.out _ (by repeat (first | (with_reducible exact HB.out) | apply below_alloc | apply pw_below_drewN | apply below_drew1 | (refine below_set ?_ (Nat.le_succ_of_le HB1.out.size)) | exact HB.out))).mono ?_); rintro e w4 ⟨rfl, htb, ht⟩; have HT4 := Lib.hid ht; have HTB4 := Lib.hid htb; have HNE := Lib.hid (show ¬ (w1.heap.size + 1 = mb) from fun e => by have := HB1.out.size; omega); have s0 : w4.cell? ⟨w1.heap.size + 1, 0, none⟩ = some (.int .i64 node) := HT4.out.cell (by go_cell) (by simpa using HNE.out); have s1 : w4.cell? ⟨w1.heap.size + 1, 1, none⟩ = some (.bool i) := HT4.out.cell (by go_cell) (by simpa using HNE.out); have s2 : w4.cell? ⟨w1.heap.size + 1, 2, none⟩ = some (.int .i64 t) := HT4.out.cell (by go_cell) (by simpa using HNE.out); have s3 : w4.cell? ⟨w1.heap.size + 1, 3, none⟩ = some (.string nm) := HT4.out.cell (by go_cell) (by simpa using HNE.out); have s4 : w4.cell? ⟨w1.heap.size + 1, 4, none⟩ = some (.bool true) := HT4.out.cell (by go_cell) (by simpa using HNE.out); have s5 : w4.cell? ⟨w1.heap.size + 1, 5, none⟩ = some (.int .i64 par) := HT4.out.cell (by go_cell) (by simpa using HNE.out); have s6 : w4.cell? ⟨w1.heap.size + 1, 6, none⟩ = some (.string name) := HT4.out.cell (by go_cell) (by simpa using HNE.out); have hcb4 : w1.heap.size + 1 < w4.heap.size := World.block_lt_of_cell? w4 ⟨w1.heap.size + 1, 0, none⟩ s0; have HTA := Lib.hid (Touch.trans (Touch.below (F := fun b => b = mb) (by repeat (first | (with_reducible exact HB.out) | apply below_alloc | apply pw_below_drewN | apply below_drew1 | (refine below_set ?_ (Nat.le_succ_of_le HB1.out.size)) | exact HB.out))) ht (fun _ _ h => h)); have HO4 := Lib.hid (show OwnC w4 dv (traceT os) from ht.row (HTB.out _ (by repeat (first | (with_reducible exact HB.out) | apply below_alloc | apply pw_below_drewN | apply below_drew1 | (refine below_set ?_ (Nat.le_succ_of_le HB1.out.size)) | exact HB.out))) (fun b e => (HDV.out b e).1)); have d1 := blk_cell htb.hp 1; have HNB := Lib.hid (OwnRow.ne_block HO4.out htb.hp (by decide)); have hlt4 : p < w4.heap.size := blk_lt htb.hp; clear htb ht))
    | (fail "no arm"))
  all_goals
   simp at d1
   go_region_law (first
     | (go_loud ((refine OwnRow.append_step (R := fun c xs => xs = chgC c) (w0 := w4.drew) (W := w4.drew) 0 (by rfl) (.tmp 53) (.tmp 55) 31 76 _ 7 72 rfl Tryz.underlying31 chgInfo rfl (by decide) (by decide) dv (traceT os) c [.int .i64 node, .bool i, .int .i64 t, .string nm, .bool true, .int .i64 par, .string name] rfl (by simp [Act.eval]) HC.out.symm rfl (by simp [Value.oneCell']) HO4.out (Below.refl _ _) (Nat.zero_le _) HLN.out ?_); intro v8 w8 ho hb8 hg hat; obtain ⟨A8, c8, rfl, _⟩ := OwnRow.slice_ ho; rw [List.length_append, List.length_singleton] at ho hat; have HO8 := Lib.hid ho; have HG8 := Lib.hid (show w4.grownBy w8 dv.ownBlock from ⟨hg.os, hg.tape, hg.output, hg.size, hg.block⟩); have HAT := Lib.hid hat; have HE8 := Lib.hid (show w8.heap[p]? = _ from (hg.block p hlt4 HNB.out).trans HTB4.out.hp); have z1 := blk_frozen HE8.out 1; have k1 := blk_cell HE8.out 1; simp at k1; have hlt8 : p < w8.heap.size := blk_lt HE8.out; have hne8 : some (w1.heap.size + 1) ≠ dv.ownBlock := (fun e => by have := (HDV.out _ e.symm).2; have := HB1.out.size; omega); have e0 := (World.cell?_of_block (a := ⟨w1.heap.size + 1, 0, none⟩) (hg.block _ hcb4 hne8)).trans s0; have e1 := (World.cell?_of_block (a := ⟨w1.heap.size + 1, 1, none⟩) (hg.block _ hcb4 hne8)).trans s1; have e2 := (World.cell?_of_block (a := ⟨w1.heap.size + 1, 2, none⟩) (hg.block _ hcb4 hne8)).trans s2; have e3 := (World.cell?_of_block (a := ⟨w1.heap.size + 1, 3, none⟩) (hg.block _ hcb4 hne8)).trans s3; have e4 := (World.cell?_of_block (a := ⟨w1.heap.size + 1, 4, none⟩) (hg.block _ hcb4 hne8)).trans s4; have e5 := (World.cell?_of_block (a := ⟨w1.heap.size + 1, 5, none⟩) (hg.block _ hcb4 hne8)).trans s5; have e6 := (World.cell?_of_block (a := ⟨w1.heap.size + 1, 6, none⟩) (hg.block _ hcb4 hne8)).trans s6; clear ho hb8 hg hat))
     | (fail "no law"))
   all_goals
    go_wp2
    go_ret
    have HM8 := HTB4.out.hm.touch (F := fun b => dv.ownBlock = some b) (Touch.grown HG8.out (fun b e => e)) (fun e => (HDV.out mb e).1 rfl)
    refine ⟨rfl, _, ⟨blk_put HE8.out 1 _ rfl, HM8.touch (Touch.set_ (F := fun b => b = p) rfl 1 _) (fun e => (HTB4.out.hm.ne_cells HTB4.out.hp) e.symm)⟩, OwnRow.set_ HO8.out HE8.out (by decide) 1 _, ?_, ?_⟩
    · rcases HAT.out with h | ⟨b, h1, h2⟩
      · exact .inl h
      · exact .inr ⟨b, h1, Nat.le_trans HTA.out.size h2⟩
    · exact (((HTA.out.mono (fun b e => .inr (.inl e))).trans (Touch.grown (F := fun b => dv.ownBlock = some b) HG8.out (fun b e => e)) (fun b _ e => .inr (.inr e))).trans (Touch.set_ (F := fun b => b = p) rfl 1 _) (fun b _ e => .inl e))
end Go.Proofs.YtkmdmjlepmmejaaGreatDoor.Tr
/- Trees in memory: what Apply comes to. -/
namespace Go.Proofs.YtkmdmjlepmmejaaGreatDoor.Tr
open Go.RowKit Go.Maps Go.Proofs.YtkmdmjlepmmejaaGreatDoorW.PrintWords
theorem wf_len {os : List OpR} (h : os.length ≤ 1000000) : (treeO os).length < maxLen := by
  have := length_treeO os
  unfold maxLen
  omega
/-- What package tree's Apply comes to. -/
theorem apply_calls (w0 W : World) (F : Nat → Prop) (p : Nat) (os : List OpR) (o : OpR) (H : TreeAt W F p os) (ho : opRight o = true) (hos : ∀ x ∈ os, opRight x = true) (hT : Tabs w0) (hB : Below w0.heap.size w0 W) (hlen : os.length ≤ 1000000) :
    Calls Tryz.prog 25 #[.pointer (some ⟨p, 0, none⟩), opV o] W fun e w' => e = .returned (.bool (fits (treeO os) o)) ∧ ∃ F', TreeAt w' F' p (os ++ [o]) ∧ (∀ b, F' b → F b ∨ W.heap.size ≤ b) ∧ Touch F W w' := by
  obtain ⟨mb, dv, hTB, hD, hFp, hFm, hFd⟩ := H
  obtain ⟨hwn, hwp, hsz⟩ := right_wf ho
  obtain ⟨q, hq⟩ := rank_run os
  obtain ⟨i, t, nm, he, hc⟩ := osV_cells (lookT (treeO os) o.node)
  have hmb := hTB.hm.lt
  have hlt := blk_lt hTB.hp
  have hdv : ∀ b, dv.ownBlock = some b → b ≠ mb ∧ b < W.heap.size := by
    obtain ⟨inner, hrow, _⟩ := hD
    exact fun b e => ⟨fun e' => hTB.hm.ne_row hrow (by rw [e, e']), own_lt hrow b e⟩
  have HP0 := Lib.hid (fun (V : World) (h : Below W.heap.size W V) => by have := blk_cell (hTB.below h).hp 0; simpa using this : ∀ V, Below W.heap.size W V → V.cell? ⟨p, 0, none⟩ = some (.map (some mb)))
  have HTB := Lib.hid (fun (V : World) (h : Below W.heap.size W V) => OwnRow.below hD h : ∀ V, Below W.heap.size W V → OwnC V dv (traceT os))
  have HR := Lib.hid (fun (V : World) (h : Below W.heap.size W V) => by have := right_calls o V (by omega) (hT.below (below_step hB h)); rw [ho] at this; exact this : ∀ V, Below W.heap.size W V → Calls Tryz.prog 32 #[opV o] V fun e w' => e = .returned (.bool true) ∧ Below V.heap.size V w')
  have HL := Lib.hid (fun (V : World) (h : Below W.heap.size W V) => by have := (hTB.below h).hm.look hwn; rw [he] at this; exact this : ∀ V, Below W.heap.size W V → (Instr.lookup 91 (.map (some mb)) (.int .i64 o.node) false).run Tryz.prog V = .ok (.agg #[.bool i, .int .i64 t, .string nm]) V)
  have hS : ∀ V, Below W.heap.size W V → Calls Tryz.prog 50 #[.pointer (some ⟨p, 0, none⟩), .int .i64 o.node, osV (chgOf (treeO os) o).new] V fun e w' => e = .returned (.tuple #[]) ∧ TB w' p mb dv (treeO (os ++ [o])) ∧ Touch (fun b => b = mb) V w' := fun V h =>
    set_any V p mb dv _ _ o.node _ (hTB.below h) hwn (wf_len hlen) (fun y => by rw [treeO_snoc]; exact lookT_step _ _ _)
  have fin : ∀ (e : Ending) (w' : World) (ok : Bool), ok = fits (treeO os) o → (e = .returned (.bool ok) ∧ ∃ dv', TB w' p mb dv' (treeO (os ++ [o])) ∧ OwnC w' dv' (traceT os ++ [chgOf (treeO os) o]) ∧ (dv'.ownBlock = dv.ownBlock ∨ ∃ b, dv'.ownBlock = some b ∧ W.heap.size ≤ b) ∧ Touch (fun b => b = p ∨ b = mb ∨ dv.ownBlock = some b) W w') →
      e = .returned (.bool (fits (treeO os) o)) ∧ ∃ F', TreeAt w' F' p (os ++ [o]) ∧ (∀ b, F' b → F b ∨ W.heap.size ≤ b) ∧ Touch F W w' := by
    rintro e w' ok hok ⟨rfl, dv', h1, h2, h3, h4⟩
    refine ⟨by rw [hok], fun b => F b ∨ W.heap.size ≤ b, ⟨mb, dv', h1, by rw [traceT_snoc]; exact h2, .inl hFp, .inl hFm, fun b e => ?_⟩, fun b h => h, h4.mono ?_⟩
    · rcases h3 with h3 | ⟨b', h3, h5⟩
      · exact .inl (hFd b (by rw [← h3]; exact e))
      · rw [h3] at e; injection e with e; exact .inr (by omega)
    · rintro b (rfl | rfl | h)
      · exact hFp
      · exact hFm
      · exact hFd b h
  have HK0 : ∀ V, Below W.heap.size W V → Calls Tryz.prog 48 #[.pointer (some ⟨p, 0, none⟩), .int .i64 o.par] V fun e w' => e = .returned (.bool (known (treeO os) o.par)) ∧ Below V.heap.size V w' := fun V h => known_calls V p mb dv _ o.par (hTB.below h) hwp
  have HA0 : ∀ V, Below W.heap.size W V → Calls Tryz.prog 49 #[.pointer (some ⟨p, 0, none⟩), .int .i64 o.node, .int .i64 o.par] V fun e w' => e = .returned (.bool (above (treeO os) o.node o.par)) ∧ Below V.heap.size V w' := fun V h => above_calls V p mb dv _ o.node o.par q (hTB.below h) hwp (treeO_wf hos) hq
  have hf : fits (treeO os) o = (known (treeO os) o.par && !above (treeO os) o.node o.par) := rfl
  have hcc : chgC (chgOf (treeO os) o) = .int .i64 o.node :: (osC (lookT (treeO os) o.node) ++ osC (chgOf (treeO os) o).new) := rfl
  have hnew : (chgOf (treeO os) o).new = if fits (treeO os) o then some (o.par, o.name) else lookT (treeO os) o.node := rfl
  cases hk : known (treeO os) o.par with
  | false =>
    have hff : fits (treeO os) o = false := by rw [hf, hk]; rfl
    rw [hff, if_neg (by decide)] at hnew
    rw [hnew, he] at hS
    rw [hnew, hc] at hcc
    rw [hk] at HK0
    exact (apply_A W p mb dv o.n o.r o.node o.par o.name i t nm os _ _ hlt HP0 HTB HR HL (Lib.hid HK0) (Lib.hid hS) hmb hdv hlen hcc).mono fun e w' h => fin e w' false hff.symm h
  | true =>
    rw [hk] at HK0
    cases ha : above (treeO os) o.node o.par with
    | true =>
      have hff : fits (treeO os) o = false := by rw [hf, hk, ha]; rfl
      rw [hff, if_neg (by decide)] at hnew
      rw [hnew, he] at hS
      rw [hnew, hc] at hcc
      rw [ha] at HA0
      exact (apply_B W p mb dv o.n o.r o.node o.par o.name i t nm os _ _ hlt HP0 HTB HR HL (Lib.hid HK0) (Lib.hid HA0) (Lib.hid hS) hmb hdv hlen hcc).mono fun e w' h => fin e w' false hff.symm h
    | false =>
      have hff : fits (treeO os) o = true := by rw [hf, hk, ha]; rfl
      rw [hff, if_pos rfl] at hnew
      rw [hnew] at hS
      rw [hnew, hc] at hcc
      rw [ha] at HA0
      exact (apply_C W p mb dv o.n o.r o.node o.par o.name i t nm os _ _ hlt HP0 HTB HR HL (Lib.hid HK0) (Lib.hid HA0) (Lib.hid hS) hmb hdv hlen hcc).mono fun e w' h => fin e w' true hff.symm h
end Go.Proofs.YtkmdmjlepmmejaaGreatDoor.Tr
