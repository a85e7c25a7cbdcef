/-
  Trees in memory: Undo, Clone, New as package tree has them; Lists of operations in memory; whether all of a batch are right; Where an operation is in a list in order: slices.BinarySearchFunc; whether a log has it; A row of structs sorted by the library: between the row as it is owned and the sort's own words; the sort of operations, and of a tree's nodes; Operations in order, each once: slices.Compact
-/
import Derived.Test.YtkmdmjlepmmejaaGreatDoorB4
import Derived.Shelf.SlicesE.Clone
import Derived.Deep.RegionHeld3
import Derived.Shelf.SlMaps.Clone
import Derived.Outline
import Derived.Shelf.SlSortCmp.NoneTotal
import Derived.Test.YtkmdmjlepmmejaaGreatDoorWEqStruct
import Derived.Deep.QuietTactic
import Derived.Lib.SliceRun
/- Trees in memory: Undo, Clone, New as package tree has them. -/
namespace Go.Proofs.YtkmdmjlepmmejaaGreatDoor.Tr
open Go.RowKit Go.Maps Go.Proofs.YtkmdmjlepmmejaaGreatDoorW.PrintWords

/-- The last of a row cut off. -/
theorem row_cut {α : Type} {R : α → List Value → Prop} {e : TypeId} {size : Nat} {W : World} {B g c : Nat} {ps : List α} {p : α} (h : OwnRow R e size W B (.slice (some ⟨g, 0, none⟩) (ps.length + 1) c) (ps ++ [p])) :
    OwnRow R e size W B (.slice (some ⟨g, 0, none⟩) ps.length c) ps ∧ ∃ cs, R p cs ∧ cs.length = size ∧ ∀ k u, cs[k]? = some u → W.cell? ⟨g, ps.length * size + k, none⟩ = some u := by
  obtain ⟨inner, ho, hr⟩ := h
  rw [List.length_append, List.length_singleton] at ho
  have hlen : inner.length = (ps.length + 1) * size := ho.1
  have hcell := fun (j : Nat) (hj : j < (ps.length + 1) * size) => World.ownsRow.cellAt ho j hj
  refine ⟨⟨inner.take (ps.length * size), ?_, ?_, ?_⟩, (inner.drop (ps.length * size)).take size, ?_, ?_, ?_⟩
  · obtain ⟨h1, h2⟩ := ho
    refine ⟨by rw [List.length_take, h1, Nat.add_mul]; omega, ?_⟩
    rcases h2 with ⟨h2, _⟩ | ⟨g', cap, cur, e1, hb, hg, hc, hm, hs, ht⟩
    · simp at h2
    · injection e1 with e1 e2 e3
      injection e1 with e1
      injection e1 with e1
      subst e1 e3
      refine .inr ⟨g, c, cur, rfl, hb, hg, by omega, hm, hs, ?_⟩
      rw [← ht, List.take_take, Nat.min_eq_left (by rw [Nat.add_mul]; omega)]
  · rw [List.length_take, hlen, Nat.add_mul]; omega
  · intro j q hq
    have hj : j < ps.length := (List.getElem?_eq_some_iff.1 hq).1
    have hq' := hr.2 j q (by rw [List.getElem?_append_left hj]; exact hq)
    have hle : j * size + size ≤ ps.length * size := by rw [← Nat.succ_mul]; exact Nat.mul_le_mul_right _ hj
    rw [List.drop_take, List.take_take, Nat.min_eq_left (by omega)]
    exact hq'
  · have := hr.2 ps.length p (by simp)
    exact this
  · rw [List.length_take, List.length_drop, hlen, Nat.add_mul]; omega
  · intro k u hk
    have hk' : k < size := by
      have := (List.getElem?_eq_some_iff.1 hk).1
      rw [List.length_take] at this
      omega
    rw [hcell _ (by rw [Nat.add_mul]; omega)]
    rw [List.getElem?_take_of_lt hk', List.getElem?_drop] at hk
    exact hk
theorem chgC_cells (c : ChgR) : ∃ i t nm i' t' nm', chgC c = [.int .i64 c.node, .bool i, .int .i64 t, .string nm, .bool i', .int .i64 t', .string nm'] ∧ osV c.old = .agg #[.bool i, .int .i64 t, .string nm] := by
  obtain ⟨i, t, nm, h1, h2⟩ := osV_cells c.old
  obtain ⟨i', t', nm', _, h4⟩ := osV_cells c.new
  exact ⟨i, t, nm, i', t', nm', by unfold chgC; rw [h2, h4]; rfl, h1⟩
set_option maxHeartbeats 4000000 in
theorem undo_calls (W : World) (F : Nat → Prop) (p : Nat) (os : List OpR) (o : OpR) (H : TreeAt W F p (os ++ [o])) (ho : opRight o = true) (hlen : os.length + 1 ≤ 1000000) :
    Calls Tryz.prog 27 #[.pointer (some ⟨p, 0, none⟩)] W fun e w' => e = .returned (.bool true) ∧ TreeAt w' F p os ∧ Touch F W w' := by
  obtain ⟨mb, dv, hTB, hD, hFp, hFm, hFd⟩ := H
  rw [traceT_snoc] at hD
  obtain ⟨g, c, rfl⟩ : ∃ g c, dv = .slice (some ⟨g, 0, none⟩) ((traceT os).length + 1) c := by
    obtain ⟨inner, hrow, _⟩ := hD
    rw [List.length_append, List.length_singleton] at hrow
    rcases hrow.2 with ⟨_, h⟩ | ⟨g, c, _, h, _⟩
    · omega
    · exact ⟨g, c, h⟩
  have hlt := blk_lt hTB.hp
  have hmb := hTB.hm.lt
  have hgc : (traceT os).length + 1 ≤ c := by
    obtain ⟨inner, hrow, _⟩ := hD
    rw [List.length_append, List.length_singleton] at hrow
    exact own_le hrow
  have hne : g ≠ mb := by
    obtain ⟨inner, hrow, _⟩ := hD
    intro e
    exact hTB.hm.ne_row hrow (by simp [Value.ownBlock, e])
  have hgl : g < W.heap.size := by
    obtain ⟨inner, hrow, _⟩ := hD
    exact own_lt hrow g rfl
  obtain ⟨hcut, cs, hcs, hcl, hcc⟩ := row_cut hD
  obtain ⟨i, t, nm, i', t', nm', hch, hov⟩ := chgC_cells (chgOf (treeO os) o)
  subst hcs
  rw [hch] at hcc
  have n0 := hcc 0 _ rfl
  have n1 := hcc 1 _ rfl
  have n2 := hcc 2 _ rfl
  have n3 := hcc 3 _ rfl
  have n4 := hcc 4 _ rfl
  have n5 := hcc 5 _ rfl
  have n6 := hcc 6 _ rfl
  rw [Nat.add_zero] at n0
  have hwn := (right_wf ho).1
  have HS := Lib.hid (fun (V : World) (h : Below W.heap.size W V) => by
    have := set_any V p mb _ _ (treeO os) o.node (chgOf (treeO os) o).old (hTB.below h) hwn (wf_len (by rw [List.length_append]; exact hlen)) (fun y => by rw [treeO_snoc]; exact (lookT_undo _ _ _).symm)
    rw [hov] at this
    exact this : ∀ V, Below W.heap.size W V → Calls Tryz.prog 50 #[.pointer (some ⟨p, 0, none⟩), .int .i64 o.node, .agg #[.bool i, .int .i64 t, .string nm]] V fun e w' => e = .returned (.tuple #[]) ∧ TB w' p mb (.slice (some ⟨g, 0, none⟩) ((traceT os).length + 1) c) (treeO os) ∧ Touch (fun b => b = mb) V w')
  have HCUT := Lib.hid hcut
  have c1 := blk_cell hTB.hp 1
  simp at c1
  have HTB := Lib.hid hTB
  have htl : (traceT os).length ≤ 1000000 := by rw [traceT_length]; omega
  have hnode : (chgOf (treeO os) o).node = o.node := rfl
  rw [hnode] at n0
  clear hcc hch hov hcl hTB hD hcut hnode hlen ho
  generalize (traceT os).length = N at *
  have e1 : IntKind.i64.wrap (((N + 1 : Nat) : Int) - 1) = (N : Int) := by rw [IntKind.wrap_i64]; omega
  have q1 : ((((N + 1 : Nat) : Int)) == 0) = false := by rw [Bool.eq_false_iff]; simp; omega
  have HB := Lib.hid (Below.refl W.heap.size W)
  go_enter Tryz.func27, Tryz.ntmps27
  go_wp2_with (first
    | (go_at_call 50; go_loud ((refine (HS.out _ (by repeat (first | (with_reducible exact HB.out) | apply below_alloc | apply pw_below_drewN | apply below_drew1 | exact HB.out))).mono ?_); rintro e w4 ⟨rfl, htb, ht⟩; have HTA := Lib.hid (Touch.trans (Touch.below (F := fun b => b = mb) (by repeat (first | (with_reducible exact HB.out) | apply below_alloc | apply pw_below_drewN | apply below_drew1 | exact HB.out))) ht (fun _ _ h => h)); have HTB4 := Lib.hid htb; have k1 := blk_cell HTB4.out.hp 1; have z1 := blk_frozen HTB4.out.hp 1; simp at k1; clear htb ht))
    | (fail "no arm"))
  go_ret
  have HM8 := HTB4.out.hm.touch (Touch.set_ (F := fun b => b = p) rfl 1 (.slice (some ⟨g, 0, none⟩) N c)) (fun e => (HTB4.out.hm.ne_cells HTB4.out.hp) e.symm)
  refine ⟨rfl, ⟨mb, _, ⟨blk_put HTB4.out.hp 1 _ rfl, HM8⟩, OwnRow.set_ (HTA.out.row HCUT.out (fun b e h => hne ((Option.some.inj (show some g = some b from e)).trans h))) HTB4.out.hp (by decide) 1 _, hFp, hFm, fun b e => hFd b e⟩, ?_⟩
  exact (HTA.out.mono (fun b e => by subst e; exact hFm)).trans (Touch.set_ (F := fun b => b = p) rfl 1 _) (fun b _ e => by subst e; exact hFp)
theorem MapAt.copied {W : World} {b : Nat} {l : List KidR} (h : MapAt W b l) : ∃ es clock, W.heap[b]? = some (.map es clock) ∧ MapAt (W.alloc (.map es clock)) W.heap.size l := by
  obtain ⟨D, ⟨es, clock, h1, h2⟩, hv⟩ := h
  exact ⟨es, clock, h1, D, ⟨es, clock, heap_alloc_new W _, h2⟩, hv⟩
theorem clmap_calls (W : World) (b : Nat) (l : List KidR) (H : MapAt W b l) :
    Calls Tryz.prog 67 #[.map (some b)] W fun e w' => e = .returned (.map (some W.heap.size)) ∧ MapAt w' W.heap.size l ∧ W.heap.size < w'.heap.size ∧ Below W.heap.size W w' := by
  obtain ⟨es, clock, hb, hm⟩ := H.copied
  exact (AnyW.maps_Clone Tryz.laysCloneMap b es clock W hb).mono fun e w' ⟨he, hw⟩ => by subst hw; exact ⟨he, hm, by simp, below_alloc (Below.refl _ _) _⟩
/-- A row's cells, one behind the other. -/
theorem row_cells {α : Type} {R : α → List Value → Prop} {e : TypeId} {size : Nat} {W : World} {B : Nat} {v : Value} {ps : List α} (h : OwnRow R e size W B v ps) : ∃ inner, Reps R size ps inner ∧ ((v = .slice none 0 0 ∧ ps = []) ∨ ∃ g c, v = .slice (some ⟨g, 0, none⟩) ps.length c ∧ ∀ j u, inner[j]? = some u → W.cell? ⟨g, j, none⟩ = some u) := by
  obtain ⟨inner, ho, hr⟩ := h
  refine ⟨inner, hr, ?_⟩
  rcases ho.2 with ⟨rfl, h2⟩ | ⟨g, cap, cur, rfl, _⟩
  · exact .inl ⟨rfl, List.eq_nil_of_length_eq_zero h2⟩
  · refine .inr ⟨g, cap, rfl, fun j u hj => ?_⟩
    rw [World.ownsRow.cellAt ho j (by rw [← ho.1]; exact (List.getElem?_eq_some_iff.1 hj).1)]
    exact hj
theorem reps_one {α : Type} {R : α → List Value → Prop} {size : Nat} {ps : List α} {cs : List Value} (h : Reps R size ps cs) (hs : 0 < size) (h1 : ∀ p c, R p c → ∀ u ∈ c, u.oneCell' = true) : ∀ u ∈ cs, u.oneCell' = true := by
  intro u hu
  obtain ⟨k, hk, rfl⟩ := List.getElem_of_mem hu
  have hkd : k / size < ps.length := Nat.div_lt_of_lt_mul (by rw [Nat.mul_comm, ← h.1]; exact hk)
  have hR := h.2 (k / size) _ (List.getElem?_eq_getElem hkd)
  refine h1 _ _ hR _ ?_
  have e : k = k / size * size + k % size := by rw [Nat.mul_comm]; exact (Nat.div_add_mod k size).symm
  have hm := Nat.mod_lt k hs
  rw [List.mem_iff_getElem]
  refine ⟨k % size, by rw [List.length_take, List.length_drop]; omega, ?_⟩
  rw [List.getElem_take, List.getElem_drop]
  congr 1
  omega
theorem clchg_calls (W : World) (v : Value) (cs : List ChgR) (H : OwnC W v cs) (hl : cs.length ≤ 1000000) :
    Calls Tryz.prog 68 #[v] W fun e w' => ∃ v', e = .returned v' ∧ OwnC w' v' cs ∧ (∀ b, v'.ownBlock = some b → W.heap.size ≤ b) ∧ Below W.heap.size W w' := by
  obtain ⟨inner, hr, h⟩ := row_cells H
  rcases h with ⟨rfl, rfl⟩ | ⟨g, c, rfl, hc⟩
  · exact (AnyE.slices_Clone_nil Tryz.laysCloneChg 0 0 W).mono fun e w' ⟨he, hw⟩ => by subst hw; exact ⟨_, he, OwnRow.none_ _ _ _ _ _, fun b e => by simp [Value.ownBlock] at e, Below.refl _ _⟩
  · obtain ⟨i0, hi, hz0, hz1, hz2⟩ := info_parts chgInfo
    refine (AnyE.slices_Clone Tryz.laysCloneChg i0 _ 7 72 hi hz0 hz1 hz2 rfl (by decide) (fun w => by kernel_rfl) g 0 cs.length c inner W hr.1 (by unfold maxLen; omega) (by omega) (fun j u hj => by rw [Nat.zero_add]; exact hc j u hj) (reps_one hr (by decide) (fun p c hp => by subst hp; exact chgC_one p))).mono ?_
    rintro e w' ⟨v', he, ho, _, hb⟩
    exact ⟨v', he, OwnRow.lower ⟨inner, ho, hr⟩ (Nat.zero_le _), fun b e => own_base ho b e, hb⟩
set_option maxHeartbeats 2000000 in
/-- What package tree's Clone comes to. -/
theorem treeclone_calls (W : World) (F : Nat → Prop) (p : Nat) (os : List OpR) (H : TreeAt W F p os) (hlen : os.length ≤ 1000000) :
    Calls Tryz.prog 40 #[.pointer (some ⟨p, 0, none⟩)] W fun e w' => ∃ p', e = .returned (.pointer (some ⟨p', 0, none⟩)) ∧ TreeAt w' (fun b => W.heap.size ≤ b) p' os ∧ Below W.heap.size W w' := by
  obtain ⟨mb, dv, hTB, hD, hFp, hFm, hFd⟩ := H
  have HM := Lib.hid (fun (V : World) (h : Below W.heap.size W V) => clmap_calls V mb _ (hTB.below h).hm)
  have HC := Lib.hid (fun (V : World) (h : Below W.heap.size W V) => clchg_calls V dv _ (OwnRow.below hD h) (by rw [traceT_length]; exact hlen))
  have HP := Lib.hid (fun (V : World) (h : Below W.heap.size W V) => (hTB.below h).hp)
  have c0 := blk_cell hTB.hp 0
  have c1 := blk_cell hTB.hp 1
  simp at c0 c1
  have C0 := Lib.hid c0
  have C1 := Lib.hid c1
  have hlt := blk_lt hTB.hp
  have HB := Lib.hid (Below.refl W.heap.size W)
  clear hTB hD hlen c0 c1
  go_enter Tryz.func40, Tryz.ntmps40
  go_wp2
  go_region_held3 (fun V => V.cell? ⟨p, 0, none⟩ = some (.map (some mb)) ∧ V.cell? ⟨p, 1, none⟩ = some dv) (exact ⟨pw_cell_below (by repeat (first | (with_reducible exact HB.out) | apply below_alloc | apply pw_below_drewN | apply below_drew1 | exact HB.out)) C0.out, pw_cell_below (by repeat (first | (with_reducible exact HB.out) | apply below_alloc | apply pw_below_drewN | apply below_drew1 | exact HB.out)) C1.out⟩)
    (first
      | (go_at_call 67; go_loud ((refine (HM.out _ (by repeat (first | (with_reducible exact HB.out) | apply below_alloc | apply pw_below_drewN | apply below_drew1 | exact HB.out))).mono ?_); rintro e w1 ⟨rfl, hm, hs, hb⟩; have HM1 := Lib.hid hm; have hs1 := hs; have HBn := Lib.hid (below_step (by repeat (first | (with_reducible exact HB.out) | apply below_alloc | apply pw_below_drewN | apply below_drew1 | exact HB.out)) hb); clear hb HB; have HB := HBn; clear HBn; have HB1 := HB))
      | (go_at_call 68; go_loud ((refine (HC.out _ (by repeat (first | (with_reducible exact HB.out) | apply below_alloc | apply pw_below_drewN | apply below_drew1 | exact HB.out))).mono ?_); rintro e w2 ⟨v', rfl, ho, hv, hb⟩; obtain ⟨A', c', rfl, _⟩ := OwnRow.slice_ ho; have HO2 := Lib.hid ho; have HV2 := Lib.hid hv; have HB2 := Lib.hid hb; have HM2 := Lib.hid (HM1.out.below hb); have hs2 := hb.size; have HBn := Lib.hid (below_step (by repeat (first | (with_reducible exact HB.out) | apply below_alloc | apply pw_below_drewN | apply below_drew1 | exact HB.out)) hb); clear hb HB; have HB := HBn; clear HBn))
      | (fail "no arm"))
  go_wp2
  go_ret
  have h1 := HB1.out.size
  have h2 := HB.out.size
  refine ⟨_, rfl, ⟨W.heap.size, _, ⟨blk_new _ _, HM2.out.below (below_alloc (Below.refl _ _) _)⟩, OwnRow.below HO2.out (below_alloc (Below.refl _ _) _), h2, Nat.le_refl _, fun b e => Nat.le_trans h1 (HV2.out b e)⟩, (by repeat (first | (with_reducible exact HB.out) | apply below_alloc | apply pw_below_drewN | apply below_drew1 | exact HB.out))⟩
theorem treenew_calls (W : World) :
    Calls Tryz.prog 29 #[] W fun e w' => ∃ p', e = .returned (.pointer (some ⟨p', 0, none⟩)) ∧ TreeAt w' (fun b => W.heap.size ≤ b) p' [] ∧ Below W.heap.size W w' := by
  have hmm := @run_makeMap Tryz.prog
  have HM := Lib.hid (MapAt.made W)
  have HB := Lib.hid (Below.refl W.heap.size W)
  go_enter Tryz.func29, Tryz.ntmps29
  go_wp2
  go_ret
  refine ⟨_, rfl, ⟨W.heap.size, .slice none 0 0, ⟨?_, HM.out.below (below_alloc (Below.refl _ _) _)⟩, OwnRow.none_ _ _ _ _ _, by simp, Nat.le_refl _, fun b e => by simp [Value.ownBlock] at e⟩, (by repeat (first | (with_reducible exact HB.out) | apply below_alloc | apply pw_below_drewN | apply below_drew1 | exact HB.out))⟩
  have := blk_new (W.alloc (.map #[] 0)) (.cells #[.map (some W.heap.size), .slice none 0 0] 93)
  simpa using this
end Go.Proofs.YtkmdmjlepmmejaaGreatDoor.Tr
/- Lists of operations in memory; whether all of a batch are right. -/
namespace Go.Proofs.YtkmdmjlepmmejaaGreatDoor
open Go.RowKit Go.Proofs.YtkmdmjlepmmejaaGreatDoorW.PrintWords

/-- An operation's fields lie in block b from place o on. -/
def OpIn (b o : Nat) (p : OpR) (w : World) : Prop :=
  w.cell? ⟨b, o, none⟩ = some (.int .i64 p.n) ∧ w.cell? ⟨b, o + 1, none⟩ = some (.int .i64 p.r) ∧ w.cell? ⟨b, o + 2, none⟩ = some (.int .i64 p.node) ∧ w.cell? ⟨b, o + 3, none⟩ = some (.int .i64 p.par) ∧ w.cell? ⟨b, o + 4, none⟩ = some (.string p.name)
theorem OpIn.below {b o : Nat} {p : OpR} {w w1 : World} (k : OpIn b o p w) (hb : Below w.heap.size w w1) : OpIn b o p w1 :=
  ⟨pw_cell_below hb k.1, pw_cell_below hb k.2.1, pw_cell_below hb k.2.2.1, pw_cell_below hb k.2.2.2.1, pw_cell_below hb k.2.2.2.2⟩
theorem OpIn.at_ {b o : Nat} {p : OpR} {w W : World} (k : OpIn b o p w) (h : W.heap = w.heap) : OpIn b o p W :=
  ⟨(World.cell?_of_block (by rw [h])).trans k.1, (World.cell?_of_block (by rw [h])).trans k.2.1, (World.cell?_of_block (by rw [h])).trans k.2.2.1, (World.cell?_of_block (by rw [h])).trans k.2.2.2.1, (World.cell?_of_block (by rw [h])).trans k.2.2.2.2⟩
/-- A list of operations lies behind A. -/
def OpsAt (w : World) (A : Option Addr) (n : Nat) (os : List OpR) : Prop :=
  os.length = n ∧ n ≤ 9223372036854775807 ∧ (0 < n → ∃ b o, A = some ⟨b, o, none⟩ ∧ ∀ (i : Nat) (hi : i < os.length), OpIn b (o + i * 5) os[i] w)
theorem OpsAt.below {w w1 : World} {A : Option Addr} {n : Nat} {os : List OpR} (h : OpsAt w A n os) (hb : Below w.heap.size w w1) : OpsAt w1 A n os :=
  ⟨h.1, h.2.1, fun hn => by
    obtain ⟨b, o, e, hc⟩ := h.2.2 hn
    exact ⟨b, o, e, fun i hi => (hc i hi).below hb⟩⟩
theorem OpsAt.at_ {w W : World} {A : Option Addr} {n : Nat} {os : List OpR} (h : OpsAt w A n os) (hw : W.heap = w.heap) : OpsAt W A n os :=
  ⟨h.1, h.2.1, fun hn => by
    obtain ⟨b, o, e, hc⟩ := h.2.2 hn
    exact ⟨b, o, e, fun i hi => (hc i hi).at_ hw⟩⟩

set_option maxHeartbeats 1000000 in
theorem notRight_calls (o : OpR) (w : World) (hs : o.name.size ≤ 9223372036854775807) (hT : Tabs w) :
    Calls Tryz.prog 31 #[opV o] w fun e w' => e = .returned (.bool (!opRight o)) ∧ Below w.heap.size w w' := by
  have hc := fun w (h : Tabs w) => right_calls o w hs h
  generalize opRight o = R at *
  simp only [opV] at hc ⊢
  have HC := Lib.hid hc
  have HT := Lib.hid hT
  have HB := Lib.hid (Below.refl w.heap.size w)
  clear hc hT
  cases R
  all_goals
    go_enter Tryz.func31, Tryz.ntmps31
    go_wp2_with (first
      | (go_at_call 32; (refine (HC.out _ (HT.out.below (by repeat (first | (with_reducible exact HB.out) | apply below_alloc | apply pw_below_drewN | apply below_drew1 | exact HB.out)))).mono ?_); rintro e w1 ⟨rfl, hb⟩; have HBn := Lib.hid (below_step (by repeat (first | (with_reducible exact HB.out) | apply below_alloc | apply pw_below_drewN | apply below_drew1 | exact HB.out)) hb); clear hb HB; have HB := HBn; clear HBn)
      | (fail "no arm"))
    go_ret
    exact ⟨rfl, HB.out⟩

set_option maxHeartbeats 1000000 in
theorem indexFunc_calls (A : Option Addr) (n c : Nat) (os : List OpR) (w : World) (hr : OpsAt w A n os) (hs : ∀ o ∈ os, o.name.size ≤ 9223372036854775807) (hT : Tabs w) :
    Calls Tryz.prog 53 #[.slice A n c, .func (.func 31) #[] #[]] w fun e w' => ∃ r : Int, e = .returned (.int .i64 r) ∧ ((0 ≤ r ∧ os.all opRight = false) ∨ (r = -1 ∧ os.all opRight = true)) ∧ Below w.heap.size w w' := by
  have hm := hr.2.1
  have HR := Lib.hid hr
  have HS := Lib.hid hs
  have HT := Lib.hid hT
  have HL := Lib.hid hr.1
  have HB := Lib.hid (Below.refl w.heap.size w)
  clear hr hs hT
  go_enter Tryz.func53, Tryz.ntmps53
  go_wp2
  go_loopw [8] (fun vi W => ∃ i : Nat, vi = .int .i64 i ∧ i ≤ n ∧ Hid ((os.take i).all opRight = true) ∧ Hid (Below w.heap.size w W)) (fun vi _ => (n - (RowKit.intOf vi).toNat))
  case atStart => exact ⟨0, rfl, by omega, Lib.hid (by simp), HB⟩
  case round =>
    clear HB
    obtain ⟨i, rfl, hi, HA, HB⟩ := hrel
    by_cases hlt : i < n
    · have hlt2 : i < os.length := by rw [HL.out]; exact hlt
      obtain ⟨b, o, rfl, hcell⟩ := HR.out.2.2 (show 0 < n by omega)
      have hci := (hcell i hlt2).below HB.out
      have hsn : (os.take (i + 1)).all opRight = opRight os[i] := by
        rw [List.take_succ_eq_append_getElem hlt2, List.all_append, HA.out, List.all_cons]; simp
      have hno : opRight os[i] = false → os.all opRight = false := fun h => by
        rw [← Bool.not_eq_true, List.all_eq_true]
        intro hh
        have := hh _ (List.getElem_mem hlt2)
        rw [h] at this; cases this
      have hps := HS.out os[i] (List.getElem_mem hlt2)
      have hrc := fun w (h : Tabs w) => notRight_calls os[i] w hps h
      generalize os[i] = p at *
      obtain ⟨c0, c1, c2, c3, c4⟩ := hci
      simp only [opV] at hrc
      generalize opRight p = R at *
      have HRC := Lib.hid hrc
      have HSN := Lib.hid hsn
      have HNO := Lib.hid hno
      clear hrc hsn hno hcell
      cases R
      · go_wp2_with (first
          | (go_at_call 31; (refine (HRC.out _ (HT.out.below (by repeat (first | (with_reducible exact HB.out) | apply below_alloc | apply pw_below_drewN | apply below_drew1 | exact HB.out)))).mono ?_); rintro e w1 ⟨rfl, hb⟩; clear c0 c1 c2 c3 c4; have HBn := Lib.hid (below_step (by repeat (first | (with_reducible exact HB.out) | apply below_alloc | apply pw_below_drewN | apply below_drew1 | exact HB.out)) hb); clear hb HB; have HB := HBn; clear HBn)
          | (fail "no arm"))
        go_ret
        exact ⟨_, rfl, .inl ⟨by omega, HNO.out (by simp)⟩, HB.out⟩
      · go_wp2_with (first
          | (go_at_call 31; (refine (HRC.out _ (HT.out.below (by repeat (first | (with_reducible exact HB.out) | apply below_alloc | apply pw_below_drewN | apply below_drew1 | exact HB.out)))).mono ?_); rintro e w1 ⟨rfl, hb⟩; clear c0 c1 c2 c3 c4; have HBn := Lib.hid (below_step (by repeat (first | (with_reducible exact HB.out) | apply below_alloc | apply pw_below_drewN | apply below_drew1 | exact HB.out)) hb); clear hb HB; have HB := HBn; clear HBn)
          | (fail "no arm"))
        go_roundw
        case rel => exact ⟨i + 1, by go_num, by omega, HSN, HB⟩
        case measure => simp [RowKit.intOf] <;> omega
    · obtain rfl : i = n := by omega
      have hall := HA.out
      rw [List.take_of_length_le (by rw [HL.out]; exact Nat.le_refl _)] at hall
      have HALL := Lib.hid hall
      clear hall
      go_wp2
      go_ret
      exact ⟨-1, rfl, .inr ⟨rfl, HALL.out⟩, HB.out⟩
theorem containsFunc_calls (A : Option Addr) (n c : Nat) (os : List OpR) (w : World) (hr : OpsAt w A n os) (hs : ∀ o ∈ os, o.name.size ≤ 9223372036854775807) (hT : Tabs w) :
    Calls Tryz.prog 30 #[.slice A n c, .func (.func 31) #[] #[]] w fun e w' => e = .returned (.bool (!os.all opRight)) ∧ Below w.heap.size w w' := by
  have H := Lib.hid (indexFunc_calls A n c os w hr hs hT)
  have HB := Lib.hid (Below.refl w.heap.size w)
  clear hr hs hT
  generalize os.all opRight = R at *
  go_enter Tryz.func30, Tryz.ntmps30
  go_wp2_with (first
    | (go_at_call 53; (refine H.out.mono ?_); rintro e w1 ⟨r, rfl, hr, hb⟩; have HBn := Lib.hid (below_step (by repeat (first | (with_reducible exact HB.out) | apply below_alloc | apply pw_below_drewN | apply below_drew1 | exact HB.out)) hb); clear hb HB; have HB := HBn; clear HBn)
    | (fail "no arm"))
  go_ret
  rcases hr with ⟨h, rfl⟩ | ⟨rfl, rfl⟩
  · exact ⟨by simp [h], HB.out⟩
  · exact ⟨by simp, HB.out⟩
def opCells (p : OpR) : List Value := [.int .i64 p.n, .int .i64 p.r, .int .i64 p.node, .int .i64 p.par, .string p.name]
/-- A list of operations of the call's own. -/
def OwnO (w : World) (base : Nat) (v : Value) (os : List OpR) : Prop := OwnRow (fun p cs => cs = opCells p) 50 5 w base v os
theorem spotO {w : World} {a : Addr} {v : Value} (h : w.cell? a = some v) : a = ⟨a.block, a.off, none⟩ := by
  obtain ⟨b, o, s⟩ := a
  cases s with
  | none => rfl
  | some k =>
    unfold World.cell? at h
    split at h
    · simp at h
    · cases h
theorem addO (b o j : Nat) : (Addr.mk b o none).add j = ⟨b, o + j, none⟩ := by
  unfold Addr.add
  split
  · rename_i h; rw [h, Nat.add_zero]
  · rfl
theorem ops_of_row {w : World} {A : Option Addr} {n : Nat} {os : List OpR} (h : ReadsRow (fun p cs => cs = opCells p) 5 w A n os) : OpsAt w A n os := by
  refine ⟨h.1, h.2.1, fun hn => ?_⟩
  obtain ⟨ad, rfl, hc⟩ := h.2.2 hn
  have hl : 0 < os.length := by rw [h.1]; exact hn
  obtain ⟨c0, _, e0, h0⟩ := hc 0 os[0] (List.getElem?_eq_getElem hl)
  have hz := h0 0 (.int .i64 os[0].n) (by rw [e0]; rfl)
  have hs := spotO (show w.cell? ad = _ from hz)
  refine ⟨ad.block, ad.off, by rw [← hs], fun i hi => ?_⟩
  obtain ⟨c, _, e, hcell⟩ := hc i os[i] (List.getElem?_eq_getElem hi)
  have key : ∀ j u, (opCells os[i])[j]? = some u → w.cell? ⟨ad.block, ad.off + i * 5 + j, none⟩ = some u := by
    intro j u hu
    have := hcell j u (by rw [e]; exact hu)
    rw [hs, addO] at this
    rw [Nat.add_assoc]
    exact this
  exact ⟨key 0 _ rfl, key 1 _ rfl, key 2 _ rfl, key 3 _ rfl, key 4 _ rfl⟩
theorem OwnO.ops {w : World} {base : Nat} {v : Value} {os : List OpR} (h : OwnO w base v os) : ∃ A c, v = .slice A os.length c ∧ os.length ≤ c ∧ OpsAt w A os.length os := by
  obtain ⟨A, c, he, hc, hr⟩ := OwnRow.reads h
  exact ⟨A, c, he, hc, ops_of_row hr⟩

theorem opInfo : (Tryz.prog.info? 50).map (fun i => (i.zero, i.size, i.bytes)) = some (some (.agg #[.int .i64 0, .int .i64 0, .int .i64 0, .int .i64 0, .string ⟨#[]⟩]), 5, 48) := by kernel_rfl

end Go.Proofs.YtkmdmjlepmmejaaGreatDoor
/- Where an operation is in a list in order: slices.BinarySearchFunc; whether a log has it. -/
namespace Go.Proofs.YtkmdmjlepmmejaaGreatDoor.Ol
open Go.RowKit Go.Proofs.YtkmdmjlepmmejaaGreatDoorW.PrintWords

/-- Where it is, or would be. -/
def atO (l : List OpR) (o : OpR) : Nat := l.countP fun x => decide (opCmp x o < 0)
theorem atO_lt {l : List OpR} (hl : AscO l) {o : OpR} {i : Nat} (hi : i < l.length) : opCmp l[i] o < 0 ↔ i < atO l o := by
  have ht := asc_take opOrd hl o
  constructor
  · intro h
    apply Classical.byContradiction
    intro hn
    have hn : atO l o ≤ i := Nat.not_lt.1 hn
    have hm : ∀ j (hj : j < l.length), atO l o ≤ j → j ≤ i → opCmp l[j] o < 0 := fun j hj _ h2 => asc_mono opOrd hl o h2 hi h
    have h0 := hm (atO l o) (by omega) (Nat.le_refl _) hn
    -- the element at that place is less: one more than there are is less
    have hcount : atO l o + 1 ≤ atO l o := by
      have hpre : ∀ x ∈ l.take (atO l o + 1), decide (opCmp x o < 0) = true := by
        intro x hx
        obtain ⟨j, hj, rfl⟩ := List.getElem_of_mem hx
        rw [List.length_take] at hj
        rw [List.getElem_take]
        exact decide_eq_true (asc_mono opOrd hl o (i := j) (j := atO l o) (by omega) (by omega) h0)
      have h1 : (l.take (atO l o + 1)).countP (fun x => decide (opCmp x o < 0)) = (l.take (atO l o + 1)).length := List.countP_eq_length.2 hpre
      have h2 : (l.take (atO l o + 1)).countP (fun x => decide (opCmp x o < 0)) ≤ atO l o := (List.take_sublist _ _).countP_le
      rw [h1, List.length_take] at h2
      omega
    omega
  · intro h
    have hmem : l[i] ∈ l.take (atO l o) := by
      rw [List.mem_take_iff_getElem]
      exact ⟨i, by omega, rfl⟩
    unfold atO at hmem
    rw [ht, List.mem_filter] at hmem
    simpa using hmem.2
theorem atO_le (l : List OpR) (o : OpR) : atO l o ≤ l.length := List.countP_le_length
theorem hasO_at {l : List OpR} (hl : AscO l) (o : OpR) (h : atO l o < l.length) : hasO l o = decide (opCmp l[atO l o] o = 0) := by
  rw [Bool.eq_iff_iff, hasO_iff, asc_found opOrd hl o, decide_eq_true_eq, opCmp_zero]
  show l[atO l o]? = some o ↔ _
  rw [List.getElem?_eq_getElem h]
  simp
theorem hasO_none {l : List OpR} (hl : AscO l) (o : OpR) (h : ¬ atO l o < l.length) : hasO l o = false := by
  rw [← Bool.not_eq_true, hasO_iff, asc_found opOrd hl o]
  show ¬ l[atO l o]? = some o
  rw [List.getElem?_eq_none (by omega)]
  simp
set_option maxRecDepth 20000 in
set_option maxHeartbeats 4000000 in
theorem bsearch_calls (A : Option Addr) (n c : Nat) (l : List OpR) (o : OpR) (W : World) (hr : OpsAt W A n l) (hl : AscO l) (hn : n ≤ 1000000) :
    Calls Tryz.prog 46 #[.slice A n c, opV o, .func (.func 47) #[] #[]] W fun e w' => e = .returned (.tuple #[.int .i64 (atO l o), .bool (hasO l o)]) ∧ Below W.heap.size W w' := by
  have hm := hr.2.1
  have HR := Lib.hid hr
  have HL := Lib.hid hr.1
  have HA := Lib.hid hl
  have hle := atO_le l o
  rw [hr.1] at hle
  have HBW := Lib.hid (Below.refl W.heap.size W)
  have HN := Lib.hid (fun h => hasO_none hl o h)
  have HF := Lib.hid (fun h => hasO_at hl o h)
  generalize hasO l o = R at *
  clear hr hl
  simp only [opV]
  go_enter Tryz.func46, Tryz.ntmps46
  go_wp2
  go_loopw [9, 10] (fun v9 v10 V => ∃ i j : Nat, v9 = .int .i64 i ∧ v10 = .int .i64 j ∧ i ≤ atO l o ∧ atO l o ≤ j ∧ j ≤ n ∧ Hid (OpIn W.heap.size 0 o V) ∧ Hid (Below W.heap.size W V)) (fun v9 v10 _ => (RowKit.intOf v10).toNat - (RowKit.intOf v9).toNat)
  case atStart => exact ⟨0, n, rfl, rfl, Nat.zero_le _, hle, Nat.le_refl _, Lib.hid ⟨by go_cell, by go_cell, by go_cell, by go_cell, by go_cell⟩, Lib.hid (below_alloc HBW.out _)⟩
  case round =>
    clear HBW
    obtain ⟨i, j, rfl, rfl, hi, hj, hjn, KT, HBV⟩ := hrel
    have HB := Lib.hid (Below.refl wr.heap.size wr)
    by_cases hlt : i < j
    · have hh : (i + j) / 2 < l.length := by rw [HL.out]; omega
      obtain ⟨b, p, rfl, hcell⟩ := HR.out.2.2 (show 0 < n by omega)
      have KY := Lib.hid ((hcell ((i + j) / 2) hh).below HBV.out)
      have HC := Lib.hid (atO_lt HA.out (o := o) hh)
      clear hcell
      have hh2 : (i + j) / 2 < n := by omega
      have hi0 : (0 : Int) ≤ ((i : Int) + (j : Int)) / 2 := by omega
      have hi1 : ((i : Int) + (j : Int)) / 2 < (n : Int) := by omega
      have hi2 : (((i : Int) + (j : Int)) / 2).toNat = (i + j) / 2 := by omega
      generalize l[(i + j) / 2] = y at *
      have HX := Lib.hid (fun V => opcmp_calls y o V)
      simp only [opV] at HX
      by_cases hc : opCmp y o < 0
      · have hc2 := HC.out.1 hc
        have q1 : decide (opCmp y o < 0) = true := decide_eq_true hc
        clear hc HC
        generalize opCmp y o = X at *
        go_wp2
        go_region_held3 (fun V => V.cell? ⟨b, p + ((i + j) / 2) * 5, none⟩ = some (.int .i64 y.n) ∧ V.cell? ⟨b, p + ((i + j) / 2) * 5 + 1, none⟩ = some (.int .i64 y.r) ∧ V.cell? ⟨b, p + ((i + j) / 2) * 5 + 2, none⟩ = some (.int .i64 y.node) ∧ V.cell? ⟨b, p + ((i + j) / 2) * 5 + 3, none⟩ = some (.int .i64 y.par) ∧ V.cell? ⟨b, p + ((i + j) / 2) * 5 + 4, none⟩ = some (.string y.name) ∧ V.cell? ⟨W.heap.size, 0, none⟩ = some (.int .i64 o.n) ∧ V.cell? ⟨W.heap.size, 1, none⟩ = some (.int .i64 o.r) ∧ V.cell? ⟨W.heap.size, 2, none⟩ = some (.int .i64 o.node) ∧ V.cell? ⟨W.heap.size, 3, none⟩ = some (.int .i64 o.par) ∧ V.cell? ⟨W.heap.size, 4, none⟩ = some (.string o.name)) (exact ⟨pw_cell_below (by repeat (first | (with_reducible exact HB.out) | apply below_alloc | apply pw_below_drewN | apply below_drew1 | exact HB.out)) KY.out.1, pw_cell_below (by repeat (first | (with_reducible exact HB.out) | apply below_alloc | apply pw_below_drewN | apply below_drew1 | exact HB.out)) KY.out.2.1, pw_cell_below (by repeat (first | (with_reducible exact HB.out) | apply below_alloc | apply pw_below_drewN | apply below_drew1 | exact HB.out)) KY.out.2.2.1, pw_cell_below (by repeat (first | (with_reducible exact HB.out) | apply below_alloc | apply pw_below_drewN | apply below_drew1 | exact HB.out)) KY.out.2.2.2.1, pw_cell_below (by repeat (first | (with_reducible exact HB.out) | apply below_alloc | apply pw_below_drewN | apply below_drew1 | exact HB.out)) KY.out.2.2.2.2, pw_cell_below (by repeat (first | (with_reducible exact HB.out) | apply below_alloc | apply pw_below_drewN | apply below_drew1 | exact HB.out)) KT.out.1, pw_cell_below (by repeat (first | (with_reducible exact HB.out) | apply below_alloc | apply pw_below_drewN | apply below_drew1 | exact HB.out)) KT.out.2.1, pw_cell_below (by repeat (first | (with_reducible exact HB.out) | apply below_alloc | apply pw_below_drewN | apply below_drew1 | exact HB.out)) KT.out.2.2.1, pw_cell_below (by repeat (first | (with_reducible exact HB.out) | apply below_alloc | apply pw_below_drewN | apply below_drew1 | exact HB.out)) KT.out.2.2.2.1, pw_cell_below (by repeat (first | (with_reducible exact HB.out) | apply below_alloc | apply pw_below_drewN | apply below_drew1 | exact HB.out)) KT.out.2.2.2.2⟩)
          (first
            | (go_at_call 47; go_loud ((refine (HX.out _).mono ?_); rintro e w1 ⟨rfl, hb⟩; have HB0 := Lib.hid (below_step (by repeat (first | (with_reducible exact HB.out) | apply below_alloc | apply pw_below_drewN | apply below_drew1 | exact HB.out)) hb); have HBn := Lib.hid (below_step (by repeat (first | (with_reducible exact HB.out) | apply below_alloc | apply pw_below_drewN | apply below_drew1 | exact HB.out)) hb); clear hb HB; have HB := HBn; clear HBn))
            | (fail "no arm"))
        go_wp2
        go_roundw
        case rel => exact ⟨(i + j) / 2 + 1, j, by go_num, rfl, by omega, hj, hjn, Lib.hid (KT.out.below HB.out), Lib.hid (below_step HBV.out HB.out)⟩
        case measure => simp [RowKit.intOf]; omega
      · have hc2 : atO l o ≤ (i + j) / 2 := Nat.not_lt.1 fun h => hc (HC.out.2 h)
        have q1 : decide (opCmp y o < 0) = false := decide_eq_false hc
        clear hc HC
        generalize opCmp y o = X at *
        go_wp2
        go_region_held3 (fun V => V.cell? ⟨b, p + ((i + j) / 2) * 5, none⟩ = some (.int .i64 y.n) ∧ V.cell? ⟨b, p + ((i + j) / 2) * 5 + 1, none⟩ = some (.int .i64 y.r) ∧ V.cell? ⟨b, p + ((i + j) / 2) * 5 + 2, none⟩ = some (.int .i64 y.node) ∧ V.cell? ⟨b, p + ((i + j) / 2) * 5 + 3, none⟩ = some (.int .i64 y.par) ∧ V.cell? ⟨b, p + ((i + j) / 2) * 5 + 4, none⟩ = some (.string y.name) ∧ V.cell? ⟨W.heap.size, 0, none⟩ = some (.int .i64 o.n) ∧ V.cell? ⟨W.heap.size, 1, none⟩ = some (.int .i64 o.r) ∧ V.cell? ⟨W.heap.size, 2, none⟩ = some (.int .i64 o.node) ∧ V.cell? ⟨W.heap.size, 3, none⟩ = some (.int .i64 o.par) ∧ V.cell? ⟨W.heap.size, 4, none⟩ = some (.string o.name)) (exact ⟨pw_cell_below (by repeat (first | (with_reducible exact HB.out) | apply below_alloc | apply pw_below_drewN | apply below_drew1 | exact HB.out)) KY.out.1, pw_cell_below (by repeat (first | (with_reducible exact HB.out) | apply below_alloc | apply pw_below_drewN | apply below_drew1 | exact HB.out)) KY.out.2.1, pw_cell_below (by repeat (first | (with_reducible exact HB.out) | apply below_alloc | apply pw_below_drewN | apply below_drew1 | exact HB.out)) KY.out.2.2.1, pw_cell_below (by repeat (first | (with_reducible exact HB.out) | apply below_alloc | apply pw_below_drewN | apply below_drew1 | exact HB.out)) KY.out.2.2.2.1, pw_cell_below (by repeat (first | (with_reducible exact HB.out) | apply below_alloc | apply pw_below_drewN | apply below_drew1 | exact HB.out)) KY.out.2.2.2.2, pw_cell_below (by repeat (first | (with_reducible exact HB.out) | apply below_alloc | apply pw_below_drewN | apply below_drew1 | exact HB.out)) KT.out.1, pw_cell_below (by repeat (first | (with_reducible exact HB.out) | apply below_alloc | apply pw_below_drewN | apply below_drew1 | exact HB.out)) KT.out.2.1, pw_cell_below (by repeat (first | (with_reducible exact HB.out) | apply below_alloc | apply pw_below_drewN | apply below_drew1 | exact HB.out)) KT.out.2.2.1, pw_cell_below (by repeat (first | (with_reducible exact HB.out) | apply below_alloc | apply pw_below_drewN | apply below_drew1 | exact HB.out)) KT.out.2.2.2.1, pw_cell_below (by repeat (first | (with_reducible exact HB.out) | apply below_alloc | apply pw_below_drewN | apply below_drew1 | exact HB.out)) KT.out.2.2.2.2⟩)
          (first
            | (go_at_call 47; go_loud ((refine (HX.out _).mono ?_); rintro e w1 ⟨rfl, hb⟩; have HB0 := Lib.hid (below_step (by repeat (first | (with_reducible exact HB.out) | apply below_alloc | apply pw_below_drewN | apply below_drew1 | exact HB.out)) hb); have HBn := Lib.hid (below_step (by repeat (first | (with_reducible exact HB.out) | apply below_alloc | apply pw_below_drewN | apply below_drew1 | exact HB.out)) hb); clear hb HB; have HB := HBn; clear HBn))
            | (fail "no arm"))
        go_wp2
        go_roundw
        case rel => exact ⟨i, (i + j) / 2, rfl, by go_num, hi, hc2, by omega, Lib.hid (KT.out.below HB.out), Lib.hid (below_step HBV.out HB.out)⟩
        case measure => simp [RowKit.intOf]; omega
    · obtain rfl : i = atO l o := by omega
      by_cases hlt2 : atO l o < n
      · have hh : atO l o < l.length := by rw [HL.out]; exact hlt2
        obtain ⟨b, p, rfl, hcell⟩ := HR.out.2.2 (show 0 < n by omega)
        have KY := Lib.hid ((hcell (atO l o) hh).below HBV.out)
        have HE := Lib.hid (HF.out hh)
        clear hcell
        generalize l[atO l o] = y at *
        have HX := Lib.hid (fun V => opcmp_calls y o V)
        simp only [opV] at HX
        have q2 : decide ((atO l o : Int) < (n : Int)) = true := decide_eq_true (by omega)
        have q3 : (opCmp y o == 0) = R := by rw [HE.out, Bool.eq_iff_iff]; simp
        clear HE
        generalize hK : atO l o = K at *
        have HKe := Lib.hid hK
        clear hK
        go_wp2
        go_region_held3 (fun V => V.cell? ⟨b, p + K * 5, none⟩ = some (.int .i64 y.n) ∧ V.cell? ⟨b, p + K * 5 + 1, none⟩ = some (.int .i64 y.r) ∧ V.cell? ⟨b, p + K * 5 + 2, none⟩ = some (.int .i64 y.node) ∧ V.cell? ⟨b, p + K * 5 + 3, none⟩ = some (.int .i64 y.par) ∧ V.cell? ⟨b, p + K * 5 + 4, none⟩ = some (.string y.name) ∧ V.cell? ⟨W.heap.size, 0, none⟩ = some (.int .i64 o.n) ∧ V.cell? ⟨W.heap.size, 1, none⟩ = some (.int .i64 o.r) ∧ V.cell? ⟨W.heap.size, 2, none⟩ = some (.int .i64 o.node) ∧ V.cell? ⟨W.heap.size, 3, none⟩ = some (.int .i64 o.par) ∧ V.cell? ⟨W.heap.size, 4, none⟩ = some (.string o.name)) (exact ⟨pw_cell_below (by repeat (first | (with_reducible exact HB.out) | apply below_alloc | apply pw_below_drewN | apply below_drew1 | exact HB.out)) KY.out.1, pw_cell_below (by repeat (first | (with_reducible exact HB.out) | apply below_alloc | apply pw_below_drewN | apply below_drew1 | exact HB.out)) KY.out.2.1, pw_cell_below (by repeat (first | (with_reducible exact HB.out) | apply below_alloc | apply pw_below_drewN | apply below_drew1 | exact HB.out)) KY.out.2.2.1, pw_cell_below (by repeat (first | (with_reducible exact HB.out) | apply below_alloc | apply pw_below_drewN | apply below_drew1 | exact HB.out)) KY.out.2.2.2.1, pw_cell_below (by repeat (first | (with_reducible exact HB.out) | apply below_alloc | apply pw_below_drewN | apply below_drew1 | exact HB.out)) KY.out.2.2.2.2, pw_cell_below (by repeat (first | (with_reducible exact HB.out) | apply below_alloc | apply pw_below_drewN | apply below_drew1 | exact HB.out)) KT.out.1, pw_cell_below (by repeat (first | (with_reducible exact HB.out) | apply below_alloc | apply pw_below_drewN | apply below_drew1 | exact HB.out)) KT.out.2.1, pw_cell_below (by repeat (first | (with_reducible exact HB.out) | apply below_alloc | apply pw_below_drewN | apply below_drew1 | exact HB.out)) KT.out.2.2.1, pw_cell_below (by repeat (first | (with_reducible exact HB.out) | apply below_alloc | apply pw_below_drewN | apply below_drew1 | exact HB.out)) KT.out.2.2.2.1, pw_cell_below (by repeat (first | (with_reducible exact HB.out) | apply below_alloc | apply pw_below_drewN | apply below_drew1 | exact HB.out)) KT.out.2.2.2.2⟩)
          (first
            | (go_at_call 47; go_loud ((refine (HX.out _).mono ?_); rintro e w1 ⟨rfl, hb⟩; have HB0 := Lib.hid (below_step (by repeat (first | (with_reducible exact HB.out) | apply below_alloc | apply pw_below_drewN | apply below_drew1 | exact HB.out)) hb); have HBn := Lib.hid (below_step (by repeat (first | (with_reducible exact HB.out) | apply below_alloc | apply pw_below_drewN | apply below_drew1 | exact HB.out)) hb); clear hb HB; have HB := HBn; clear HBn))
            | (fail "no arm"))
        go_wp2
        go_ret2
        exact ⟨by rw [HKe.out]; rfl, below_step HBV.out (by repeat (first | (with_reducible exact HB.out) | apply below_alloc | apply pw_below_drewN | apply below_drew1 | exact HB.out))⟩
      · have HE := Lib.hid (HN.out (by rw [HL.out]; exact hlt2))
        have q2 : decide ((atO l o : Int) < (n : Int)) = false := decide_eq_false (by omega)
        generalize hK : atO l o = K at *
        have HKe := Lib.hid hK
        clear hK
        go_wp2
        go_quiet (fail)
        go_wp2
        go_ret2
        exact ⟨by rw [HKe.out, HE.out]; rfl, below_step HBV.out (by repeat (first | (with_reducible exact HB.out) | apply below_alloc | apply pw_below_drewN | apply below_drew1 | exact HB.out))⟩
end Go.Proofs.YtkmdmjlepmmejaaGreatDoor.Ol
/- A row of structs sorted by the library: between the row as it is owned and the sort's own words; the sort of operations, and of a tree's nodes. -/
namespace Go.Proofs.YtkmdmjlepmmejaaGreatDoor.Ol
open Go.RowKit Go.Sort Go.Proofs.YtkmdmjlepmmejaaGreatDoorW.PrintWords Tr

section
variable {α : Type} [Inhabited α] {enc : α → List Value} {k : Nat} {e : TypeId} {W : World} {B g c : Nat} {l ts : List α}
theorem flat_at (enc : α → List Value) (hk : ∀ x, (enc x).length = k) (l : List α) {t : Nat} (ht : t < l.length * k) : ∃ (h : t / k < l.length) (h2 : t % k < (enc l[t / k]).length), (flatK enc k l.toArray)[t]! = (enc l[t / k])[t % k] := by
  have hk0 : 0 < k := Nat.pos_of_ne_zero fun e => by subst e; simp at ht
  have h1 : t / k < l.length := Nat.div_lt_of_lt_mul (by rw [Nat.mul_comm]; exact ht)
  have h2 := Nat.mod_lt t hk0
  refine ⟨h1, by rw [hk]; exact h2, ?_⟩
  rw [get_flatK enc k _ t (by simpa using ht)]
  rw [getElem!_pos l.toArray (t / k) (by simpa using h1), List.getElem_toArray, getElem!_pos (enc l[t / k]) (t % k) (by rw [hk]; exact h2)]
theorem inner_at (hk : ∀ x, (enc x).length = k) {inner : List Value} (hr : Reps (fun p cs => cs = enc p) k l inner) {t : Nat} (ht : t < l.length * k) : inner[t]? = some ((flatK enc k l.toArray)[t]!) := by
  obtain ⟨h1, h2, he⟩ := flat_at enc hk l ht
  have hR := hr.2 (t / k) _ (List.getElem?_eq_getElem h1)
  have e1 : t = t / k * k + t % k := by rw [Nat.mul_comm]; exact (Nat.div_add_mod t k).symm
  rw [he, ← List.getElem?_eq_getElem h2, ← hR, List.getElem?_take_of_lt (by have := h2; rw [hk] at this; exact this), List.getElem?_drop, ← e1]
theorem holdsK_of_row (hk : ∀ x, (enc x).length = k) (H : OwnRow (fun p cs => cs = enc p) e k W B (.slice (some ⟨g, 0, none⟩) l.length c) l) : HoldsK enc k W g 0 l.toArray := by
  obtain ⟨inner, ho, hr⟩ := H
  rcases ho.2 with ⟨h2, _⟩ | ⟨g', cap, cur, e1, hb, hg, _⟩
  · simp at h2
  · injection e1 with e1 e2 e3
    injection e1 with e1
    injection e1 with e1
    subst e1
    intro t ht
    have ht' : t < l.length * k := by simpa using ht
    refine ⟨?_, by simp [World.frozen?, hg]⟩
    rw [Nat.zero_add, World.ownsRow.cellAt ho t ht', inner_at hk hr ht']
    rfl
theorem heap_sortedK {w : World} {n : Nat} {os : Array Obj} {cur : Array Value} {fr : Nat × Nat} (d : Array Value) (hb : w.heap[g]? = some (.cells cur e fr)) :
    (grow (putRow id (Sort.ahead w n) g 0 d) os).heap[g]? = some (.cells (putCells id 0 d cur) e fr) := by
  have hg : g < w.heap.size := (Array.getElem?_eq_some_iff.1 hb).1
  rw [heap_grow_old _ _ (by simpa using hg)]
  simp [putRow, mapBlock, Sort.ahead, Array.getElem?_modify, hb, onCells]
theorem grownBy_sortedK {w : World} {n : Nat} {os : Array Obj} (d : Array Value) : w.grownBy (grow (putRow id (Sort.ahead w n) g 0 d) os) (some g) := by
  refine ⟨rfl, rfl, rfl, by simp, fun k hk hne => ?_⟩
  rw [heap_grow_old _ _ (by simpa using hk)]
  have : g ≠ k := fun e => hne (by rw [e])
  simp [putRow, mapBlock, Sort.ahead, Array.getElem?_modify, this]
theorem take_putK (cur d : Array Value) (h : d.size ≤ cur.size) : (putCells id 0 d cur).toList.take d.size = d.toList := by
  apply List.ext_getElem?
  intro j
  by_cases hj : j < d.size
  · rw [List.getElem?_take_of_lt hj, Array.getElem?_toList, Array.getElem?_toList]
    simp [putCells, hj, show j < cur.size by omega]
  · rw [List.getElem?_take_eq_none (by omega), List.getElem?_eq_none (by simp; omega)]
theorem reps_flat (hk : ∀ x, (enc x).length = k) (l : List α) : Reps (fun p cs => cs = enc p) k l (flatK enc k l.toArray).toList := by
  refine ⟨by simp, fun j p hj => ?_⟩
  have hjl : j < l.length := (List.getElem?_eq_some_iff.1 hj).1
  have hp : l[j] = p := (List.getElem?_eq_some_iff.1 hj).2
  have hle : j * k + k ≤ l.length * k := by rw [← Nat.succ_mul]; exact Nat.mul_le_mul_right _ hjl
  apply List.ext_getElem?
  intro i
  by_cases hi : i < k
  · have ht : j * k + i < l.length * k := by omega
    obtain ⟨h1, h2, he⟩ := flat_at enc hk l ht
    have e1 : (j * k + i) / k = j := by rw [Nat.mul_comm, Nat.mul_add_div (by omega), Nat.div_eq_of_lt hi, Nat.add_zero]
    have e2 : (j * k + i) % k = i := by rw [Nat.mul_comm, Nat.mul_add_mod, Nat.mod_eq_of_lt hi]
    rw [List.getElem?_take_of_lt hi, List.getElem?_drop, Array.getElem?_toList]
    rw [getElem?_pos _ _ (by simpa using ht), ← getElem!_pos _ _ (by simpa using ht), he]
    have hpe : l[(j * k + i) / k] = p := by rw [← hp]; congr 1
    have : (enc l[(j * k + i) / k])[(j * k + i) % k]? = (enc p)[i]? := by rw [hpe, e2]
    rw [List.getElem?_eq_getElem h2] at this
    exact this
  · rw [List.getElem?_take_eq_none (by omega), List.getElem?_eq_none (by rw [hk]; omega)]
theorem sorted_row (hk : ∀ x, (enc x).length = k) (H : OwnRow (fun p cs => cs = enc p) e k W B (.slice (some ⟨g, 0, none⟩) l.length c) l) (hl : ts.length = l.length) (n : Nat) (os : Array Obj) :
    OwnRow (fun p cs => cs = enc p) e k (sortWorldK enc k W g 0 n ts.toArray os) B (.slice (some ⟨g, 0, none⟩) l.length c) ts ∧ W.grownBy (sortWorldK enc k W g 0 n ts.toArray os) (some g) := by
  refine ⟨?_, grownBy_sortedK _⟩
  obtain ⟨inner, ho, hr⟩ := H
  rcases ho.2 with ⟨h2, _⟩ | ⟨g', cap, cur, e1, hb, hg, h1, h2, h3, h4⟩
  · simp at h2
  · injection e1 with e1 e2 e3
    injection e1 with e1
    injection e1 with e1
    subst e1 e3
    have hsz : ts.length * k ≤ c * k := Nat.mul_le_mul_right _ (by omega)
    refine ⟨_, ⟨by simp, .inr ⟨g, c, _, by rw [hl], hb, heap_sortedK _ hg, by omega, h2, by simp [putCells, h3], ?_⟩⟩, reps_flat hk ts⟩
    have := take_putK cur (flatK enc k ts.toArray) (by simp; omega)
    rw [size_flatK] at this
    simpa using this
end
instance : Inhabited OpR := ⟨⟨0, 0, 0, 0, ⟨#[]⟩⟩⟩
theorem opSWO : SWO (ltOf opCmp) where
  irrefl x := by unfold ltOf; rw [opOrd.self]; rfl
  trans x y z h1 h2 := by unfold ltOf at *; simp only [decide_eq_true_eq] at *; exact opOrd.lt_trans h1 h2
  ntrans x y z h1 h2 := by
    unfold ltOf at *
    simp only [decide_eq_false_iff_not] at *
    have e1 := opOrd.neg x y
    have e2 := opOrd.neg y z
    have e3 := opOrd.neg x z
    have := opOrd.le_trans (a := z) (b := y) (d := x) (by omega) (by omega)
    omega
theorem opTot (x y : OpR) (h1 : ltOf opCmp x y = false) (h2 : ltOf opCmp y x = false) : x = y := by
  unfold ltOf at *
  simp only [decide_eq_false_iff_not] at *
  have e1 := opOrd.neg x y
  exact (opOrd.zero x y).1 (by omega)
theorem opCells_length (p : OpR) : (opCells p).length = 5 := rfl
theorem opCells_one (p : OpR) : ∀ v ∈ opCells p, v.oneCell' = true := by
  intro v hv
  simp [opCells] at hv
  rcases hv with rfl | rfl | rfl | rfl | rfl <;> rfl
theorem sortops_calls (W : World) (B : Nat) (v : Value) (l : List OpR) (H : OwnO W B v l) (hl : l.length ≤ 1000000) :
    Calls Tryz.prog 58 #[v, .func (.func 47) #[] #[]] W fun e w' => e = .returned (.tuple #[]) ∧ OwnO w' B v (srt opCmp l) ∧ Tr.Touch (fun b => v.ownBlock = some b) W w' := by
  have hnil : v = .slice none 0 0 ∧ l = [] ∨ ∃ g c, v = .slice (some ⟨g, 0, none⟩) l.length c ∧ g < W.heap.size := by
    obtain ⟨inner, ho, _⟩ := H
    rcases ho.2 with ⟨rfl, h2⟩ | ⟨g, cap, cur, rfl, _, hg, _⟩
    · exact .inl ⟨rfl, List.eq_nil_of_length_eq_zero h2⟩
    · exact .inr ⟨g, cap, rfl, blk_lt hg⟩
  rcases hnil with ⟨rfl, rfl⟩ | ⟨g, c, rfl, hg⟩
  · refine (AnyF.slices_SortFunc_none Tryz.laysSortOp none 0 (.func (.func 47) #[] #[]) W).mono ?_
    rintro e w' ⟨rfl, hw⟩
    exact ⟨rfl, by subst hw; simpa [srt] using H, by subst hw; exact Tr.Touch.refl _ _⟩
  · have eg : ∀ args w, (callFunc 47 args).run Tryz.prog w = .ok (.enter 47 args) w := enters_of Tryz.func47 (by kernel_rfl) rfl
    have hcmp : CmpLays Tryz.prog 47 #[] opCells 5 opCmp g 0 l.toArray.size W := fun m os dk _ x y => (opcmp_d x y _).mono fun e w' ⟨he, hb, hd⟩ => ⟨he, grow_of hb hd⟩
    refine (AnyQ.slices_SortFunc_total Tryz.laysSortOp 5 (fun w => by kernel_rfl) (fun w => by kernel_rfl) opCells opCells_length opCells_one opCmp opSWO 47 #[] g 0 c l.toArray W eg hcmp (holdsK_of_row opCells_length H) hg (by simp; omega) opTot).mono ?_
    rintro e w' ⟨rfl, n, os, rfl⟩
    obtain ⟨h1, h2⟩ := sorted_row opCells_length H (ts := srt opCmp l) (srt_length l) n os
    exact ⟨rfl, h1, Tr.Touch.grown h2 fun b e => e⟩
end Go.Proofs.YtkmdmjlepmmejaaGreatDoor.Ol
/- Operations in order, each once: slices.Compact. -/
namespace Go.Proofs.YtkmdmjlepmmejaaGreatDoor.Ol
open Go.RowKit Go.Proofs.YtkmdmjlepmmejaaGreatDoorW.PrintWords Tr

/-- Whether two operations' fields are the same. -/
def eqB (n r node par : Int) (name : ByteArray) (n' r' node' par' : Int) (name' : ByteArray) : Bool :=
  ((n == n') && (r == r')) && ((node == node') && ((par == par') && (name.toList == name'.toList)))
theorem eqB_iff (a b : OpR) : eqB a.n a.r a.node a.par a.name b.n b.r b.node b.par b.name = true ↔ a = b := by
  obtain ⟨n, r, node, par, name⟩ := a
  obtain ⟨n', r', node', par', name'⟩ := b
  simp only [eqB, Bool.and_eq_true, beq_iff_eq, OpR.mk.injEq, and_assoc]
  have : name.toList = name'.toList ↔ name = name' := ⟨fun h => by rw [ByteArray.toList_eq, ByteArray.toList_eq] at h; exact ByteArray.ext (Array.toList_inj.1 h), fun h => by rw [h]⟩
  rw [this]
theorem eqStamp (d : Nat) (w : World) (n r n' r' : Int) :
    (Op.equalIn (d + 2) 48 (.agg #[.int .i64 n, .int .i64 r]) (.agg #[.int .i64 n', .int .i64 r'])).run Tryz.prog w = .ok ((n == n') && (r == r')) w := by
  refine eqA_of Tryz.underlying48 (by kernel_rfl) ?_
  refine eqf_cons (by rfl) (by go_simp; rfl) (by go_simp; rfl) (by go_simp) ?_
  exact eqf_last (by rfl) (by go_simp; rfl) (by go_simp; rfl) (by go_simp)
theorem eqOp (d : Nat) (w : World) (n r node par : Int) (name : ByteArray) (n' r' node' par' : Int) (name' : ByteArray) :
    (Op.equalIn (d + 3) 50 (.agg #[.int .i64 n, .int .i64 r, .int .i64 node, .int .i64 par, .string name]) (.agg #[.int .i64 n', .int .i64 r', .int .i64 node', .int .i64 par', .string name'])).run Tryz.prog w = .ok (eqB n r node par name n' r' node' par' name') w := by
  unfold eqB
  refine eqA_of Tryz.underlying50 (by kernel_rfl) ?_
  refine eqf_cons (by rfl) (by go_simp) (by go_simp) (eqStamp d w _ _ _ _) ?_
  refine eqf_cons (by rfl) (by go_simp; rfl) (by go_simp; rfl) (by go_simp) ?_
  refine eqf_cons (by rfl) (by go_simp; rfl) (by go_simp; rfl) (by go_simp) ?_
  exact eqf_last (by rfl) (by go_simp; rfl) (by go_simp; rfl) (by go_simp)

attribute [local go_sem high] eqOp
theorem eqB_cmp (a b : OpR) : eqB a.n a.r a.node a.par a.name b.n b.r b.node b.par b.name = decide (opCmp b a = 0) := by
  rw [Bool.eq_iff_iff, eqB_iff, decide_eq_true_eq, opCmp_zero]
  exact eq_comm
theorem cpt_cons {α : Type} {c : α → α → Int} (x y : α) (r : List α) : cpt c (x :: y :: r) = if c x y = 0 then cpt c (y :: r) else x :: cpt c (y :: r) := by rw [cpt]
theorem cpt_snoc {α : Type} {c : α → α → Int} (h : Ord c) : ∀ (xs : List α) (a b : α), cpt c (xs ++ [a, b]) = if c a b = 0 then cpt c (xs ++ [a]) else cpt c (xs ++ [a]) ++ [b]
  | [], a, b => by
    by_cases e : c a b = 0
    · have := (h.zero a b).1 e
      subst this
      simp [cpt, e]
    · simp [cpt, e]
  | [x], a, b => by
    have ih := cpt_snoc h [] a b
    simp only [List.nil_append] at ih
    show cpt c (x :: a :: [b]) = if c a b = 0 then cpt c (x :: a :: []) else cpt c (x :: a :: []) ++ [b]
    rw [cpt_cons x a [b], cpt_cons x a []]
    by_cases e1 : c x a = 0
    · rw [if_pos e1, if_pos e1]; exact ih
    · rw [if_neg e1, if_neg e1]
      rw [show cpt c (a :: [b]) = _ from ih]
      split <;> rfl
  | x :: y :: r, a, b => by
    have ih := cpt_snoc h (y :: r) a b
    show cpt c (x :: y :: (r ++ [a, b])) = if c a b = 0 then cpt c (x :: y :: (r ++ [a])) else cpt c (x :: y :: (r ++ [a])) ++ [b]
    rw [cpt_cons x y (r ++ [a, b]), cpt_cons x y (r ++ [a])]
    by_cases e1 : c x y = 0
    · rw [if_pos e1, if_pos e1]; exact ih
    · rw [if_neg e1, if_neg e1]
      rw [show cpt c (y :: (r ++ [a, b])) = _ from ih]
      split <;> rfl
theorem cpt_take {l : List OpR} {t : Nat} (ht : t + 1 < l.length) : cpt opCmp (l.take (t + 2)) = if opCmp l[t] l[t + 1] = 0 then cpt opCmp (l.take (t + 1)) else cpt opCmp (l.take (t + 1)) ++ [l[t + 1]] := by
  have e1 : l.take (t + 1) = l.take t ++ [l[t]] := List.take_succ_eq_append_getElem (by omega)
  have e2 : l.take (t + 2) = l.take t ++ [l[t], l[t + 1]] := by
    rw [List.take_succ_eq_append_getElem (by omega), e1, List.append_assoc]; rfl
  rw [e1, e2]
  exact cpt_snoc opOrd _ _ _
theorem cpt_length_le (l : List OpR) : (cpt opCmp l).length ≤ l.length := by
  induction l using cpt.induct (c := opCmp) with
  | case1 => simp [cpt]
  | case2 => simp [cpt]
  | case3 a b l e ih => rw [cpt, if_pos e]; simp at ih ⊢; omega
  | case4 a b l e ih => rw [cpt, if_neg e]; simp at ih ⊢; omega

/-- A row of operations in block g, of which alone something was changed since W0. -/
structure RowG (W0 W : World) (g : Nat) (ls : List OpR) : Prop where
  at_ : ∀ i (hi : i < ls.length), OpIn g (i * 5) ls[i] W
  fz : ∀ j, W.frozen? ⟨g, j, none⟩ = false
  tch : Tr.Touch (fun b => b = g) W0 W
theorem RowG.drewN {W0 W : World} {g : Nat} {ls : List OpR} (h : RowG W0 W g ls) (n : Nat) : RowG W0 (W.drewN n) g ls := ⟨h.at_, h.fz, ⟨h.tch.os, h.tch.tape, h.tch.output, h.tch.size, h.tch.block⟩⟩
theorem touch_setCells (g : Nat) : ∀ (vs : List Value) (o : Nat) (W : World), Tr.Touch (fun b => b = g) W (W.setCells g o vs)
  | [], _, _ => Tr.Touch.refl _ _
  | v :: r, o, _ => (Tr.Touch.set_ (F := fun b => b = g) rfl o v).trans (touch_setCells g r (o + 1) _) (fun _ _ h => h)
theorem RowG.cells {W0 W : World} {g : Nat} {ls : List OpR} (h : RowG W0 W g ls) {j : Nat} (hj : j < ls.length * 5) : (W.cell? ⟨g, j, none⟩).isSome = true := by
  have hi : j / 5 < ls.length := Nat.div_lt_of_lt_mul (by omega)
  obtain ⟨h0, h1, h2, h3, h4⟩ := h.at_ (j / 5) hi
  have e : j = j / 5 * 5 + j % 5 := by omega
  have hm : j % 5 < 5 := Nat.mod_lt _ (by decide)
  rw [e]
  rcases (by omega : j % 5 = 0 ∨ j % 5 = 1 ∨ j % 5 = 2 ∨ j % 5 = 3 ∨ j % 5 = 4) with q | q | q | q | q <;> rw [q]
  · rw [Nat.add_zero, h0]; rfl
  · rw [h1]; rfl
  · rw [h2]; rfl
  · rw [h3]; rfl
  · rw [h4]; rfl
theorem RowG.set5 {W0 W : World} {g : Nat} {ls : List OpR} (h : RowG W0 W g ls) {k : Nat} (hk : k < ls.length) (p : OpR) : RowG W0 (W.setCells g (k * 5) (opCells p)) g (ls.set k p) := by
  refine ⟨fun i hi => ?_, fun j => by rw [World.frozen?_setCells]; exact h.fz j, h.tch.trans (touch_setCells g _ _ W) (fun _ _ e => e)⟩
  rw [List.length_set] at hi
  by_cases e : i = k
  · subst e
    have hin := World.cell?_setCells_in g (opCells p) (i * 5) W (fun j hj => h.cells (by have : j < 5 := hj; omega))
    rw [List.getElem_set_self]
    exact ⟨hin 0 (show 0 < 5 by decide), hin 1 (show 1 < 5 by decide), hin 2 (show 2 < 5 by decide), hin 3 (show 3 < 5 by decide), hin 4 (show 4 < 5 by decide)⟩
  · rw [List.getElem_set_ne (by omega)]
    obtain ⟨h0, h1, h2, h3, h4⟩ := h.at_ i hi
    have ho : ∀ o, o < 5 → (W.setCells g (k * 5) (opCells p)).cell? ⟨g, i * 5 + o, none⟩ = W.cell? ⟨g, i * 5 + o, none⟩ := fun o ho => World.cell?_setCells_out g _ _ W _ (fun _ _ => by show i * 5 + o < k * 5 ∨ k * 5 + (opCells p).length ≤ i * 5 + o; rw [opCells_length]; omega)
    exact ⟨(ho 0 (by decide)).trans h0, (ho 1 (by decide)).trans h1, (ho 2 (by decide)).trans h2, (ho 3 (by decide)).trans h3, (ho 4 (by decide)).trans h4⟩
/-- clear, at operations. -/
theorem run_clear_ops (w : World) (b o n c : Nat) (hn : 0 < n) (hc : ∀ j, j < n * 5 → (w.cell? ⟨b, o + j, none⟩).isSome = true) (hf : ∀ j, j < n * 5 → w.frozen? ⟨b, o + j, none⟩ = false) :
    ∃ zs : List Value, zs.length = n * 5 ∧ ∀ ty, (Builtin.clear_ #[27] ty #[.slice (some ⟨b, o, none⟩) n c]).run Tryz.prog w = .ok (.tuple #[]) (w.setCells b o zs) := by
  have hv : ∀ w, (zeroValue 50).run Tryz.prog w = .ok (.agg #[.int .i64 0, .int .i64 0, .int .i64 0, .int .i64 0, .string ⟨#[]⟩]) w := fun w => by kernel_rfl
  refine ⟨(Builtin.zeroCells (Value.agg #[.int .i64 0, .int .i64 0, .int .i64 0, .int .i64 0, .string ⟨#[]⟩]).cells n).toList, ?_, ?_⟩
  · simp [Builtin.zeroCells, Value.cells]
  · have hl : (Builtin.zeroCells (Value.agg #[.int .i64 0, .int .i64 0, .int .i64 0, .int .i64 0, .string ⟨#[]⟩]).cells n).toList.length = n * 5 := by simp [Builtin.zeroCells, Value.cells]
    have h1 : ∀ v ∈ (Builtin.zeroCells (Value.agg #[.int .i64 0, .int .i64 0, .int .i64 0, .int .i64 0, .string ⟨#[]⟩]).cells n).toList, v.oneCell' = true := by
      intro v hv
      simp only [Builtin.zeroCells, Array.toList_map, List.mem_map, Array.toList_range, List.mem_range] at hv
      obtain ⟨i, hi, rfl⟩ := hv
      have hm : i % 5 < 5 := Nat.mod_lt _ (by decide)
      simp only [Value.cells, List.size_toArray, List.length_cons, List.length_nil]
      rcases (by omega : i % 5 = 0 ∨ i % 5 = 1 ∨ i % 5 = 2 ∨ i % 5 = 3 ∨ i % 5 = 4) with q | q | q | q | q <;> (show Value.oneCell' (_[i % 5]!) = true) <;> rw [q] <;> rfl
    have hst := run_storeCells_cells (P := Tryz.prog) b o (Builtin.zeroCells (Value.agg #[.int .i64 0, .int .i64 0, .int .i64 0, .int .i64 0, .string ⟨#[]⟩]).cells n).toList 0 w (by rw [hl]; simpa using hc) (by rw [hl]; simpa using hf) h1
    simp only [Nat.add_zero] at hst
    obtain ⟨m, rfl⟩ : ∃ m, n = m + 1 := ⟨n - 1, by omega⟩
    intro ty
    simp [Builtin.clear_, run_underlying Tryz.underlying27, hv, hst]
end Go.Proofs.YtkmdmjlepmmejaaGreatDoor.Ol
