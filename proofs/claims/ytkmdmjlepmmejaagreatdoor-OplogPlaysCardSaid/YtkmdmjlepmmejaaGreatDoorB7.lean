/-
  The nodes that operations move: rising, each once; What is new of a batch: the iterator (*Log).fresh; The iterator of what is new: what it tells, and what it leaves; '==' at api.Spot as one Bool
-/
import Derived.Test.YtkmdmjlepmmejaaGreatDoorB6
import Derived.Shelf.Sort.Plain
import Derived.Shelf.Slices.CompactI
import Derived.Sort.OwnSortedInts
import Derived.RangeFuncNested
import Derived.RangeFuncBound
import Derived.RangeFuncCalls
import Derived.RangeFuncLeaves
import Derived.Shelf.Abstract
import Derived.Shelf.RegionOpen
import Derived.WalkKit
import Derived.OwnWalkIn
import Derived.TacticsInMore
import Derived.LoopNIn
import Derived.LoopIn
/- The nodes that operations move: rising, each once. -/
namespace Go.Proofs.YtkmdmjlepmmejaaGreatDoor.Ol
open Go.RowKit Go.Sort Go.Proofs.YtkmdmjlepmmejaaGreatDoorW.PrintWords Tr

def intR : Int → List Value → Prop := fun x cs => cs = [.int .i64 x]
abbrev OwnI (W : World) (B : Nat) (v : Value) (zs : List Int) : Prop := OwnRow intR 3 1 W B v zs
theorem intInfo : (Tryz.prog.info? 3).map (fun i => (i.zero, i.size, i.bytes)) = some (some (.int .i64 0), 1, 8) := by kernel_rfl
theorem reps_int {zs : List Int} {cs : List Value} (h : Reps intR 1 zs cs) : cs = zs.map (Value.int .i64) := by
  apply List.ext_getElem
  · rw [h.1, List.length_map, Nat.mul_one]
  · intro j h1 h2
    rw [List.length_map] at h2
    have := h.2 j zs[j] (List.getElem?_eq_getElem h2)
    rw [Nat.mul_one] at this
    have h3 : (cs.drop j).take 1 = [cs[j]] := by rw [List.drop_eq_getElem_cons h1]; rfl
    rw [h3] at this
    simpa [intR] using this
theorem reps_of_int (zs : List Int) : Reps intR 1 zs (zs.map (Value.int .i64)) := by
  refine ⟨by simp, fun j p hj => ?_⟩
  obtain ⟨h1, rfl⟩ := List.getElem?_eq_some_iff.1 hj
  rw [Nat.mul_one, List.drop_eq_getElem_cons (by simpa using h1)]
  simp [intR]
theorem own_int {W : World} {B : Nat} {v : Value} {zs : List Int} (h : OwnI W B v zs) : v = .slice none 0 0 ∧ zs = [] ∨ ∃ g c cur, v = .slice (some ⟨g, 0, none⟩) zs.length c ∧ B ≤ g ∧ W.heap[g]? = some (.cells cur 3 (0, 0)) ∧ zs.length ≤ c ∧ c ≤ maxLen ∧ cur.size = c * 1 ∧ cur.toList.take zs.length = zs.map (Value.int .i64) := by
  obtain ⟨inner, ho, hr⟩ := h
  have := reps_int hr
  subst this
  rcases ho.2 with ⟨rfl, h2⟩ | ⟨g, cap, cur, rfl, hb, hg, h1, h2, h3, h4⟩
  · exact .inl ⟨rfl, List.eq_nil_of_length_eq_zero h2⟩
  · exact .inr ⟨g, cap, cur, rfl, hb, hg, h1, h2, h3, by rw [Nat.mul_one] at h4; exact h4⟩
theorem srt_int (zs : List Int) : srt cmpI zs = zs.mergeSort fun x y => decide (x ≤ y) := by
  unfold srt
  congr 1
  funext x y
  rw [Bool.eq_iff_iff]
  unfold cmpI
  by_cases h1 : y < x
  · simp [h1]
  · by_cases h2 : x < y <;> simp [h1, h2] <;> omega
theorem cpt_int (l : List Int) : ∀ m, m ≤ l.length → Lib.compactUpTo l.toArray m = cpt cmpI (l.take m)
  | 0, _ => by simp [Lib.compactUpTo, cpt]
  | 1, h => by
    match l, h with
    | x :: r, _ => rw [Lib.compactUpTo_succ]; simp [Lib.compactUpTo, Lib.keeps, cpt]
  | m + 2, h => by
    rw [Lib.compactUpTo_succ, cpt_int l (m + 1) (by omega)]
    have e1 : l.take (m + 1) = l.take m ++ [l[m]] := List.take_succ_eq_append_getElem (by omega)
    have e2 : l.take (m + 2) = l.take m ++ [l[m], l[m + 1]] := by
      rw [List.take_succ_eq_append_getElem (by omega), e1, List.append_assoc]; rfl
    have g1 : l.toArray[m + 1]! = l[m + 1] := by rw [getElem!_pos l.toArray (m + 1) (by simp; omega)]; rfl
    have g0 : l.toArray[m]! = l[m] := by rw [getElem!_pos l.toArray m (by simp; omega)]; rfl
    rw [e2, cpt_snoc intOrd, ← e1, g1]
    by_cases e : l[m] = l[m + 1]
    · rw [if_pos ((intOrd.zero _ _).2 e), Lib.keeps_neg (by omega) (by rw [g1, show m + 1 - 1 = m by omega, g0, e])]; simp
    · rw [if_neg (fun h => e ((intOrd.zero _ _).1 h)), Lib.keeps_pos (by rw [g1, show m + 1 - 1 = m by omega, g0]; exact fun h => e h.symm), if_pos rfl]
theorem cpt_length_leG {α : Type} (c : α → α → Int) : ∀ l : List α, (cpt c l).length ≤ l.length
  | [] => by simp [cpt]
  | [a] => by simp [cpt]
  | a :: b :: r => by
    have := cpt_length_leG c (b :: r)
    rw [cpt]
    split
    · exact Nat.le_succ_of_le this
    · simpa using this
theorem compact_int (l : List Int) : Lib.compact l = cpt cmpI l := by
  have := cpt_int l l.length (Nat.le_refl _)
  rwa [List.take_length] at this
theorem sortint_calls (W : World) (B : Nat) (v : Value) (zs : List Int) (H : OwnI W B v zs) (hl : zs.length ≤ 1000000) :
    Calls Tryz.prog 60 #[v] W fun e w' => e = .returned (.tuple #[]) ∧ OwnI w' B v (srt cmpI zs) ∧ Tr.Touch (fun b => v.ownBlock = some b) W w' := by
  rcases own_int H with ⟨rfl, rfl⟩ | ⟨g, c, cur, rfl, hb, hg, h1, h2, h3, h4⟩
  · refine (Any.slices_Sort_int_none Tryz.laysSortInt none 0 W).mono ?_
    rintro e w' ⟨rfl, rfl⟩
    exact ⟨rfl, by simpa [srt] using H, Tr.Touch.refl _ _⟩
  · refine (Any.slices_Sort_int Tryz.laysSortInt g 0 c zs W (holds_of_blockI hg h4) (blk_lt hg) (by omega)).mono ?_
    rintro e w' ⟨rfl, n, os, rfl⟩
    rw [← srt_int]
    exact ⟨rfl, ⟨_, by rw [srt_length]; exact ownsRow_sortedI (srt_length zs) hb hg h1 h2 h3, reps_of_int _⟩, Tr.Touch.grown (grownBy_sortedI _) fun b e => e⟩
theorem cptint_calls (W : World) (B : Nat) (v : Value) (zs : List Int) (H : OwnI W B v zs) (hl : zs.length ≤ 1000000) :
    Calls Tryz.prog 61 #[v] W fun e w' => (∃ A c, e = .returned (.slice A (cpt cmpI zs).length c) ∧ ∀ i (hi : i < (cpt cmpI zs).length), ∃ g, A = some ⟨g, 0, none⟩ ∧ v.ownBlock = some g ∧ g < w'.heap.size ∧ w'.cell? ⟨g, i, none⟩ = some (.int .i64 (cpt cmpI zs)[i])) ∧ Tr.Touch (fun b => v.ownBlock = some b) W w' := by
  rcases own_int H with ⟨rfl, rfl⟩ | ⟨g, c, cur, rfl, hb, hg, h1, h2, h3, h4⟩
  · refine (Any.slices_Compact_int_empty Tryz.laysCptInt none 0 W).mono ?_
    rintro e w' ⟨rfl, rfl⟩
    exact ⟨⟨_, _, rfl, fun i hi => by simp [cpt] at hi⟩, Tr.Touch.refl _ _⟩
  · refine (Any.slices_Compact_int Tryz.laysCptInt g 0 c zs W (holds_of_blockI hg h4) (by omega) h1).mono ?_
    rintro e w' ⟨rfl, q, rfl⟩
    rw [compact_int]
    have hle : (cpt cmpI zs).length ≤ zs.length := cpt_length_leG cmpI zs
    have hgl := blk_lt hg
    have hh : (putRow (Value.int .i64) (Sort.ahead W q) g 0 (cpt cmpI zs ++ List.replicate (zs.length - (cpt cmpI zs).length) 0).toArray).heap[g]? = some (.cells (putCells (Value.int .i64) 0 (cpt cmpI zs ++ List.replicate (zs.length - (cpt cmpI zs).length) 0).toArray cur) 3 (0, 0)) := by
      simp [putRow, mapBlock, Sort.ahead, Array.getElem?_modify, hg, onCells]
    refine ⟨⟨_, _, rfl, fun i hi => ⟨g, rfl, rfl, blk_lt hh, ?_⟩⟩, Tr.Touch.grown (row := some g) ?_ fun b e => e⟩
    · rw [blk_cell hh i]
      simp [putCells, show i < cur.size by omega, hi, List.getElem_append_left, show i < (cpt cmpI zs).length + (zs.length - (cpt cmpI zs).length) by omega]
    · refine ⟨rfl, rfl, rfl, by simp [putRow, mapBlock, Sort.ahead], fun k hk hne => ?_⟩
      have : g ≠ k := fun e => hne (by rw [e])
      simp [putRow, mapBlock, Sort.ahead, Array.getElem?_modify, this]
set_option maxHeartbeats 4000000 in
theorem nodes_calls (W : World) (A : Option Addr) (n c : Nat) (l : List OpR) (hO : OpsAt W A n l) (hl : n ≤ 1000000) :
    Calls Tryz.prog 35 #[.slice A n c] W fun e w' => (∃ A' c', e = .returned (.slice A' (nodesO l).length c') ∧ ∀ i (hi : i < (nodesO l).length), ∃ g, A' = some ⟨g, 0, none⟩ ∧ W.heap.size ≤ g ∧ g < w'.heap.size ∧ w'.cell? ⟨g, i, none⟩ = some (.int .i64 (nodesO l)[i])) ∧ Below W.heap.size W w' := by
  obtain ⟨hn, hlen, hcell⟩ := hO
  subst hn
  have HC := Lib.hid hcell
  have HB := Lib.hid (Below.refl W.heap.size W)
  have hnb := hl
  clear hcell hl
  go_enter Tryz.func35, Tryz.ntmps35
  go_wp2
  go_loopw [3, 8] (fun vo vi V => ∃ i : Nat, vi = .int .i64 i ∧ i ≤ l.length ∧ Hid (OwnI V W.heap.size vo ((l.take i).map OpR.node)) ∧ Hid (Below W.heap.size W V)) (fun _ vi _ => (l.length - (RowKit.intOf vi).toNat))
  case atStart => exact ⟨0, rfl, by omega, Lib.hid (OwnRow.none_ _ _ _ _ _), HB⟩
  case round =>
    clear HB
    obtain ⟨i, rfl, hi, HO, HB⟩ := hrel
    by_cases hlt : i < l.length
    · obtain ⟨b, o, rfl, hc⟩ := HC.out (show 0 < l.length by omega)
      have hci := (hc i hlt).below HB.out
      have HSN := Lib.hid (show (l.take (i + 1)).map OpR.node = (l.take i).map OpR.node ++ [l[i].node] by rw [List.take_succ_eq_append_getElem hlt, List.map_append]; rfl)
      have hql : ((l.take i).map OpR.node).length ≤ 1000000 := by rw [List.length_map, List.length_take]; omega
      have HL3 := Lib.hid hlt
      generalize (l.take i).map OpR.node = Q at *
      generalize l[i] = q at *
      obtain ⟨c0, c1, c2, c3, c4⟩ := hci
      have hi1 : (0 : Int) ≤ (i : Int) := by omega
      have hi2 : (i : Int) < (l.length : Int) := by omega
      clear hc
      go_wp2_with (first
        | (at_builtin; go_loud ((refine OwnRow.append (R := intR) (w0 := W) (W := wr.alloc (.cells #[.int .i64 q.n, .int .i64 q.r, .int .i64 q.node, .int .i64 q.par, .string q.name] 50)) W.heap.size rfl (.tmp 12) (.tmp 15) 70 3 _ 1 8 rfl Tryz.underlying70 intInfo rfl (by decide) (by decide) _ Q q.node [.int .i64 q.node] (by rfl) (by simp [Act.eval]) rfl rfl (by simp [Value.oneCell']) (OwnRow.below HO.out (below_alloc (Below.refl _ _) _)) (by repeat (first | (with_reducible exact HB.out) | apply below_alloc | apply pw_below_drewN | apply below_drew1 | exact HB.out)) (below_alloc HB.out _).size ?hl ?_; (case hl => omega); intro v3 w3 ho hb hg hat; have HO3 := Lib.hid ho; have HBn := Lib.hid hb; clear HB ho hb hg hat; have HB := HBn; clear HBn)))
        | (fail "no arm"))
      go_roundw
      case rel => have := HL3.out; exact ⟨i + 1, by go_num, HL3.out, Lib.hid (by rw [HSN.out]; exact HO3.out), HB⟩
      case measure => have := HL3.out; simp [RowKit.intOf]; omega
    · obtain rfl : i = l.length := by omega
      have hO := HO.out
      rw [List.take_length] at hO
      have HO2 := Lib.hid hO
      have HS := Lib.hid (sortint_calls wr W.heap.size _ _ HO2.out (by rw [List.length_map]; omega))
      clear hO HO
      go_wp2_with (first
        | (go_at_call 60; go_loud ((refine HS.out.mono ?_); rintro e w1 ⟨rfl, ho, ht⟩; have HO3 := Lib.hid ho; have HT3 := Lib.hid ht; clear ho ht))
        | (go_at_call 61; go_loud ((refine (cptint_calls w1 W.heap.size _ _ HO3.out (by rw [srt_length, List.length_map]; omega)).mono ?_); rintro e w2 ⟨⟨A', c', rfl, h1⟩, h2⟩; have H1 := Lib.hid h1; have H2 := Lib.hid h2; clear h1 h2))
        | (fail "no arm"))
      go_ret
      have hF : ∀ g : Nat, Value.ownBlock u3 = some g → W.heap.size ≤ g := fun g e => by
        obtain ⟨inner, hrow, _⟩ := HO2.out
        exact own_base hrow g e
      refine ⟨⟨A', c', rfl, fun i hi => ?_⟩, HB.out.trans ((HT3.out.toBelow HB.out.size (fun g e => hF g e)).trans (H2.out.toBelow (Nat.le_trans HB.out.size HT3.out.size) (fun g e => hF g e)))⟩
      obtain ⟨g, e1, e2, e3, e4⟩ := H1.out i hi
      exact ⟨g, e1, hF g e2, e3, e4⟩
end Go.Proofs.YtkmdmjlepmmejaaGreatDoor.Ol
/- What is new of a batch: the iterator (*Log).fresh. -/
namespace Go.Proofs.YtkmdmjlepmmejaaGreatDoor.Ol
open Go.RowKit Go.Sort Go.Proofs.YtkmdmjlepmmejaaGreatDoorW.PrintWords Tr
attribute [local go_sem] Oper.semAt_some

def Row0 (W : World) (B : Nat) (v : Value) (os : List OpR) : Prop := (os = [] ∧ ∃ A', v = .slice A' 0 0) ∨ (0 < os.length ∧ OwnO W B v os)
theorem clone0_calls (W : World) (A : Option Addr) (n c : Nat) (os : List OpR) (hr : OpsAt W A n os) (hn : n ≤ 1000000) :
    Calls Tryz.prog 41 #[.slice A n c] W fun e w' => ∃ v', e = .returned v' ∧ Row0 w' W.heap.size v' os ∧ Below W.heap.size W w' := by
  have hl := hr.1
  refine (cloneops_calls W A n c os hr hn).mono ?_
  rintro e w' ⟨v', rfl, h, hb⟩
  exact ⟨v', rfl, h.elim (fun h => .inr ⟨by omega, h.2⟩) .inl, hb⟩
theorem sort0_calls (W : World) (B : Nat) (v : Value) (os : List OpR) (H : Row0 W B v os) (hl : os.length ≤ 1000000) :
    Calls Tryz.prog 58 #[v, .func (.func 47) #[] #[]] W fun e w' => e = .returned (.tuple #[]) ∧ Row0 w' B v (srt opCmp os) ∧ Tr.Touch (fun b => B ≤ b) W w' := by
  rcases H with ⟨rfl, A', rfl⟩ | ⟨h0, ho⟩
  · refine (AnyF.slices_SortFunc_none Tryz.laysSortOp A' 0 (.func (.func 47) #[] #[]) W).mono ?_
    rintro e w' ⟨rfl, hw⟩
    exact ⟨rfl, .inl ⟨by simp [srt], _, rfl⟩, by subst hw; exact Tr.Touch.refl _ _⟩
  · have hb : ∀ b, v.ownBlock = some b → B ≤ b := by
      obtain ⟨inner, hrow, _⟩ := ho
      exact own_base hrow
    refine (sortops_calls W B v os ho hl).mono ?_
    rintro e w' ⟨rfl, h1, h2⟩
    exact ⟨rfl, .inr ⟨by rw [srt_length]; exact h0, h1⟩, h2.mono hb⟩
set_option maxHeartbeats 1000000 in
theorem cptempty_calls (W : World) (A : Option Addr) (c : Nat) :
    Calls Tryz.prog 59 #[.slice A 0 c] W fun e w' => e = .returned (.slice A 0 c) ∧ w' = W := by
  go_enter Tryz.func59, Tryz.ntmps59
  go_wp2
  go_ret
  exact ⟨rfl, rfl⟩
theorem cpt0_calls (W : World) (B : Nat) (v : Value) (os : List OpR) (H : Row0 W B v os) (hl : os.length ≤ 1000000) :
    Calls Tryz.prog 59 #[v] W fun e w' => ∃ A' c', e = .returned (.slice A' (cpt opCmp os).length c') ∧ OpsAt w' A' (cpt opCmp os).length (cpt opCmp os) ∧ (0 < os.length → ∃ g o, A' = some ⟨g, 0, none⟩ ∧ w'.heap[g]? = some o ∧ o.isCells = true ∧ B ≤ g) ∧ Tr.Touch (fun b => B ≤ b) W w' := by
  rcases H with ⟨rfl, A', rfl⟩ | ⟨h0, ho⟩
  · refine (cptempty_calls W A' 0).mono ?_
    rintro e w' ⟨rfl, rfl⟩
    exact ⟨A', 0, rfl, ⟨rfl, by simp [cpt], by simp [cpt]⟩, by simp, Tr.Touch.refl _ _⟩
  · obtain ⟨g, c, rfl, hc, hg, hb, hcell⟩ := own_head ho h0
    have hfz : ∀ j, W.frozen? ⟨g, j, none⟩ = false := by
      obtain ⟨inner, hrow, _⟩ := ho
      rcases hrow.2 with ⟨h, _⟩ | ⟨g', cap, cur, h, _, hg', _⟩
      · cases h
      · injection h with h; injection h with h; injection h with h; subst h
        exact fun j => blk_frozen hg' j
    refine (compact_calls W g c os ⟨hcell, hfz, Tr.Touch.refl _ _⟩ hc hl).mono ?_
    rintro e w' ⟨c', rfl, h1, h2⟩
    refine ⟨_, c', rfl, h1, fun _ => ?_, h2.mono (fun b e => e ▸ hb)⟩
    have hp : 0 < (cpt opCmp os).length := List.length_pos_of_mem ((mem_cpt opOrd).2 (List.getElem_mem h0))
    obtain ⟨b, o, e, hcl⟩ := h1.2.2 hp
    injection e with e; injection e with e1 e2; subst e1 e2
    obtain ⟨o, h3, h4⟩ := cells_of_cell (hcl 0 hp).1
    exact ⟨g, o, rfl, h3, h4, hb⟩
set_option maxHeartbeats 1000000 in
theorem fresh_calls (W : World) (p : Nat) (A : Option Addr) (n c : Nat) :
    Calls Tryz.prog 33 #[.pointer (some ⟨p, 0, none⟩), .slice A n c] W fun e w' => e = .returned (.func (.func 57) #[] #[.pointer (some ⟨W.heap.size + 1, 0, none⟩), .pointer (some ⟨W.heap.size, 0, none⟩)]) ∧ w' = (W.alloc (.cells #[.pointer (some ⟨p, 0, none⟩)] 24)).alloc (.cells #[.slice A n c] 27) := by
  go_enter Tryz.func33, Tryz.ntmps33
  go_wp2
  go_ret
  exact ⟨rfl, rfl⟩

/-- What a round of Put's loop leaves as it was: what lay ahead; all cells but the list's own. -/
structure KpF (n₀ B0 : Nat) (W W' : World) : Prop where
  below : Below n₀ W W'
  cells : ∀ (k : Nat) (o : Obj), W.heap[k]? = some o → o.isCells = true → k ≠ B0 → (∀ v, W.cell? ⟨B0, 0, none⟩ = some v → v.ownBlock ≠ some k) → W'.heap[k]? = some o
  row : ∀ v', W'.cell? ⟨B0, 0, none⟩ = some v' → ∀ b, v'.ownBlock = some b → W.heap.size ≤ b ∨ ∃ v, W.cell? ⟨B0, 0, none⟩ = some v ∧ v.ownBlock = some b
theorem KpF.refl (n₀ B0 : Nat) (W : World) : KpF n₀ B0 W W := ⟨Below.refl _ _, fun _ _ h _ _ _ => h, fun v' h _ e => .inr ⟨v', h, e⟩⟩
theorem KpF.trans {n₀ B0 : Nat} {X Y Z : World} (h : KpF n₀ B0 X Y) (k : KpF n₀ B0 Y Z) : KpF n₀ B0 X Z :=
  ⟨h.below.trans k.below, fun i o hi ho hne hv => k.cells i o (h.cells i o hi ho hne hv) ho hne (fun v' hv' e => (h.row v' hv' i e).elim (fun h1 => by have := blk_lt hi; omega) fun ⟨v, h1, h2⟩ => hv v h1 h2),
    fun v' hv' b e => (k.row v' hv' b e).elim (fun h1 => .inl (Nat.le_trans h.below.size h1)) fun ⟨v, h1, h2⟩ => h.row v h1 b h2⟩
theorem KpF.of_below {n₀ B0 : Nat} {W W' : World} (hb : Below W.heap.size W W') (hn : n₀ ≤ W.heap.size) (hB : B0 < W.heap.size) : KpF n₀ B0 W W' :=
  ⟨hb.mono hn, fun k _ hk _ _ _ => (hb.block k (blk_lt hk)).trans hk, fun v' hv' _ e => .inr ⟨v', (hb.cell (p := ⟨B0, 0, none⟩) hB).symm.trans hv', e⟩⟩
theorem kpF_t {n₀ B0 : Nat} {X Y Z : World} (h : KpF n₀ B0 X Y) (k : KpF n₀ B0 Y Z) : KpF n₀ B0 X Z := h.trans k
theorem kpF_b {n₀ B0 B : Nat} (hn : n₀ ≤ B) (hB : B0 < B) (W : World) (l : Nat) (o o' : Obj) (hl : B ≤ l) (h1 : W.heap[l]? = some o) (h2 : o.isCells = false) (_ : o.isWalk = false) : KpF n₀ B0 W (W.putObj l o') := by
  have hsame : ∀ k, k ≠ l → (W.putObj l o').heap[k]? = W.heap[k]? := fun k e => World.putObj_heap_other (fun h => e h)
  refine ⟨⟨rfl, rfl, rfl, by simp, fun k hk => hsame k (by omega)⟩, fun k o hk hc _ _ => (hsame k (fun e => by subst e; rw [h1] at hk; cases hk; rw [h2] at hc; cases hc)).trans hk, fun v' hv' b e => .inr ⟨v', ?_, e⟩⟩
  unfold World.cell? at hv' ⊢
  rw [hsame B0 (by omega)] at hv'
  exact hv'
end Go.Proofs.YtkmdmjlepmmejaaGreatDoor.Ol
/- The iterator of what is new: what it tells, and what it leaves. -/
namespace Go.Proofs.YtkmdmjlepmmejaaGreatDoor.Ol
open Go.RowKit Go.Sort Go.Proofs.YtkmdmjlepmmejaaGreatDoorW.PrintWords Tr
attribute [local go_sem] Oper.semAt_some

theorem grown_of_below {W W' : World} (h : Below W.heap.size W W') : W.grownBy W' none := ⟨h.os, h.tape, h.output, h.size, fun k hk _ => h.block k hk⟩
theorem OpIn.same {W W' : World} {b o : Nat} {p : OpR} (h : OpIn b o p W) (e : W'.heap[b]? = W.heap[b]?) : OpIn b o p W' := by
  unfold OpIn at h ⊢
  simpa only [World.cell?, e] using h
theorem KpF.cell {n₀ B0 : Nat} {W W' : World} (h : KpF n₀ B0 W W') {a : Addr} {v : Value} (hc : W.cell? a = some v) (hne : a.block ≠ B0) (hbox : W.cell? ⟨B0, 0, none⟩ = some (.slice none 0 0)) : W'.cell? a = some v := by
  obtain ⟨o, h1, h2⟩ := cells_of_cell hc
  have := h.cells a.block o h1 h2 hne (fun v hv => by rw [hbox] at hv; cases hv; simp [Value.ownBlock])
  unfold World.cell? at hc ⊢
  rw [this]; rwa [h1] at hc
theorem cell_lt {W : World} {a : Addr} {v : Value} (h : W.cell? a = some v) : a.block < W.heap.size := by
  obtain ⟨o, h1, _⟩ := cells_of_cell h
  exact blk_lt h1
theorem filter_take_lt {α : Type} {f : α → Bool} {cs : List α} {k : Nat} (hk : k < cs.length) (hq : f cs[k] = true) : ((cs.take k).filter f).length < (cs.filter f).length := by
  conv => rhs; rw [← List.take_append_drop k cs, List.filter_append, List.length_append, List.drop_eq_getElem_cons hk, List.filter_cons_of_pos hq, List.length_cons]
  omega
theorem filter_take_snoc {α : Type} {f : α → Bool} {cs : List α} {k : Nat} (hk : k < cs.length) : (cs.take (k + 1)).filter f = (cs.take k).filter f ++ if f cs[k] = true then [cs[k]] else [] := by
  rw [List.take_succ_eq_append_getElem hk, List.filter_append]
  congr 1
  by_cases h : f cs[k] = true <;> simp [h]
set_option maxRecDepth 100000 in
set_option maxHeartbeats 8000000 in
theorem iter_in (m : Nat) (hm : 1 ≤ m) (lp n₀ B0 Ob Lb p : Nat) (F : Nat → Prop) (most : Int) (l ops : List OpR) (A : Option Addr) (n c : Nat) (J Jx : List OpR → World → Prop) (W : World)
    (hJ : AbidesFrom W.heap.size J) (hY : ∀ pre x W1, J pre W1 → pre.length < (newOf l ops).length → YieldAt Fence.wide (m - 1) Tryz.prog lp #[opV x] W1 fun e W' =>
      (e = .returned (.bool true) ∧ J (pre ++ [x]) W' ∧ KpF n₀ B0 W1 W') ∨ (e = .returned (.bool false) ∧ Jx (pre ++ [x]) W'))
    (H : LogAt W F p most l) (hF : ∀ b, F b → b < n₀) (hn₀ : n₀ ≤ W.heap.size) (hB0 : B0 < W.heap.size) (hbox : W.cell? ⟨B0, 0, none⟩ = some (.slice none 0 0)) (hOb : W.cell? ⟨Ob, 0, none⟩ = some (.slice A n c))
    (hLb : W.cell? ⟨Lb, 0, none⟩ = some (.pointer (some ⟨p, 0, none⟩))) (hne : Lb ≠ B0) (ho : OpsAt W A n ops) (ha : AscO l) (hl : l.length ≤ 1000000) (hn : n ≤ 1000000) (h0 : J [] W) :
    CallsIn Fence.wide m Tryz.prog 57 #[.func (.yield lp) #[] #[], .pointer (some ⟨Ob, 0, none⟩), .pointer (some ⟨Lb, 0, none⟩)] W fun e W' => (∃ v, e = .returned v) ∧ ((∃ ys, ys = newOf l ops ∧ J ys W') ∨ (∃ pre : List OpR, True ∧ Jx pre W')) := by
  have HCL := Lib.hid (clone0_calls W A n c ops ho hn)
  have hlen := ho.1
  refine callsIn_of_wp Tryz.func57 rfl trivial ?_ rfl
  simp only [Tryz.ntmps57, List.size_toArray, List.length_cons, List.length_nil, Nat.reduceAdd, Nat.reduceSub, Array.replicate_succ, Array.replicate_zero, List.push_toArray, List.append_toArray, List.nil_append, List.cons_append]
  gi_wp2_with (first
    | (refine ⟨trivial, ?_⟩; gi_at_call 41; go_loud ((refine (callsIn_wide.2 HCL.out).mono ?_); rintro e w1 ⟨v1, rfl, hr1, hb1⟩; have HR1 := Lib.hid hr1; have HB1 := Lib.hid hb1; clear hr1 hb1))
    | (refine ⟨trivial, ?_⟩; gi_at_call 58; go_loud ((refine (callsIn_wide.2 (sort0_calls w1 W.heap.size v1 ops HR1.out (by omega))).mono ?_); rintro e w2 ⟨rfl, hr2, ht2⟩; have HR2 := Lib.hid hr2; have HT2 := Lib.hid ht2; clear hr2 ht2))
    | (refine ⟨trivial, ?_⟩; gi_at_call 59; go_loud ((refine (callsIn_wide.2 (cpt0_calls w2 W.heap.size v1 (srt opCmp ops) HR2.out (by rw [srt_length]; omega))).mono ?_); rintro e w3 ⟨A3, c3, rfl, ho3, hg3, ht3⟩; have HO3 := Lib.hid ho3; have HG3 := Lib.hid hg3; have HT3 := Lib.hid ht3; clear ho3 hg3 ht3))
    | (fail "no arm"))
  have hB3 : Below W.heap.size W w3 := HB1.out.trans ((HT2.out.toBelow HB1.out.size (fun _ h => h)).trans (HT3.out.toBelow (Nat.le_trans HB1.out.size HT2.out.size) (fun _ h => h)))
  have hJ3 := Lib.hid (hJ [] W w3 none h0 (grown_of_below hB3) (by simp))
  have hN : newOf l ops = (cpt opCmp (srt opCmp ops)).filter fun o => !hasO l o := rfl
  have hcsl : (cpt opCmp (srt opCmp ops)).length ≤ ops.length := by have := cpt_length_leG opCmp (srt opCmp ops); rwa [srt_length] at this
  have hg3' : 0 < (cpt opCmp (srt opCmp ops)).length → ∃ g o, A3 = some ⟨g, 0, none⟩ ∧ w3.heap[g]? = some o ∧ o.isCells = true ∧ W.heap.size ≤ g := fun h => HG3.out (by have := cpt_length_leG opCmp (srt opCmp ops); omega)
  have HG3' := Lib.hid hg3'
  have HOL := Lib.hid HO3.out
  have hL3 := Lib.hid ((hB3.cell (p := ⟨Lb, 0, none⟩) (cell_lt hLb)).trans hLb)
  have hX3 := Lib.hid ((hB3.cell (p := ⟨B0, 0, none⟩) hB0).trans hbox)
  have hHH := Lib.hid H
  have HJJ := Lib.hid hJ
  have HYY := Lib.hid hY
  have hs3 := hB3.size
  have HB3 := Lib.hid hB3
  have HFF := Lib.hid hF
  clear hg3' HG3 HT3 HT2 HR2 HR1 HCL HB1 H hJ hY hF h0 hB3 hLb hOb hbox
  rw [hN] at HYY
  have HN := Lib.hid hN
  clear hN ho
  generalize cpt opCmp (srt opCmp ops) = cs at *
  gi_loopw [14] (fun vi V => ∃ k : Nat, vi = .int .i64 k ∧ k ≤ cs.length ∧ Hid (J ((cs.take k).filter fun o => !hasO l o) V) ∧ Hid (KpF n₀ B0 w3 V)) (fun vi _ => cs.length - (RowKit.intOf vi).toNat)
  case atStart => exact ⟨0, rfl, Nat.zero_le _, hJ3, Lib.hid (KpF.refl _ _ _)⟩
  case round =>
    obtain ⟨k, rfl, hk, hJk, hKk⟩ := hrel
    by_cases hlt : k < cs.length
    · obtain ⟨g3, o3, rfl, hg3, hc3, hge3⟩ := HG3'.out (by omega)
      obtain ⟨b, o, e, hcl⟩ := HOL.out.2.2 (by omega)
      injection e with e
      injection e with e1 e2
      subst e1 e2
      have hg3V : wr.heap[g3]? = w3.heap[g3]? := (hKk.out.cells g3 o3 hg3 hc3 (by omega) (fun v hv => by rw [hX3.out] at hv; cases hv; simp [Value.ownBlock])).trans hg3.symm
      have hop := OpIn.same (hcl k hlt) hg3V
      rw [Nat.zero_add] at hop
      have hLV := hKk.out.cell hL3.out hne hX3.out
      have hBV := (HB3.out.mono hn₀).trans hKk.out.below
      have HLV := Lib.hid (hHH.out.touch (Tr.Touch.of_belowB (F := fun b => n₀ ≤ b) hBV (fun _ h _ => h)) (fun b h1 h2 => by have := HFF.out b h1; omega))
      have HBV := Lib.hid hBV
      have hsV := hBV.size
      have HLT := Lib.hid hlt
      have hfl := Lib.hid (filter_take_lt (f := fun o => !hasO l o) hlt)
      have hfs := Lib.hid (filter_take_snoc (f := fun o => !hasO l o) hlt)
      generalize cs[k] = q at *
      have HHAS := Lib.hid (fun V' (hV' : Below wr.heap.size wr V') => log_has V' F p most l q (HLV.out.below hV') ha hl)
      simp only [opV] at HHAS
      obtain ⟨c0, c1, c2, c3, c4⟩ := hop
      have hi1 : (0 : Int) ≤ (k : Int) := by omega
      have hi2 : (k : Int) < (cs.length : Int) := by omega
      have hLA : (wr.alloc (.cells #[.int .i64 q.n, .int .i64 q.r, .int .i64 q.node, .int .i64 q.par, .string q.name] 50)).cell? ⟨Lb, 0, none⟩ = some (.pointer (some ⟨p, 0, none⟩)) := pw_cell_below (below_alloc (Below.refl _ _) _) hLV
      clear hcl hg3 hBV hg3V
      cases hR : hasO l q
      · gi_wp2_with (first
          | (refine ⟨trivial, ?_⟩; gi_at_call 22; go_loud ((refine (callsIn_wide.2 (HHAS.out _ (below_alloc (Below.refl _ _) _))).mono ?_); rintro e w4 ⟨rfl, hb4⟩; rw [hR]; have d0 : w4.cell? ⟨wr.heap.size, 0, none⟩ = some (.int .i64 q.n) := pw_cell_below hb4 (by go_cell); have d1 : w4.cell? ⟨wr.heap.size, 1, none⟩ = some (.int .i64 q.r) := pw_cell_below hb4 (by go_cell); have d2 : w4.cell? ⟨wr.heap.size, 2, none⟩ = some (.int .i64 q.node) := pw_cell_below hb4 (by go_cell); have d3 : w4.cell? ⟨wr.heap.size, 3, none⟩ = some (.int .i64 q.par) := pw_cell_below hb4 (by go_cell); have d4 : w4.cell? ⟨wr.heap.size, 4, none⟩ = some (.string q.name) := pw_cell_below hb4 (by go_cell); have hb4w : Below wr.heap.size wr w4 := (below_alloc (Below.refl _ _) _).trans (hb4.mono (by simp)); have HB4 := Lib.hid hb4w; obtain ⟨fn, tmps, assign, body, hy, hRR⟩ := HYY.out _ q w4 (HJJ.out _ wr w4 none hJk.out (grown_of_below hb4w) (by simp)) (hfl.out (by rw [hR]; rfl)); simp only [opV] at hy; have HRR := Lib.hid hRR; clear hRR hb4w))
          | (fail "no arm"))
        refine HRR.out.mono ?_
        rintro e W5 (⟨rfl, hJ5, hk5⟩ | ⟨rfl, hJx5⟩)
        · have HJ5 := Lib.hid hJ5
          have HK5 := Lib.hid hk5
          clear hJ5 hk5
          gi_wp2
          go_roundw
          case rel => exact ⟨k + 1, by go_num, HLT.out, Lib.hid (by rw [hfs.out, if_pos (by rw [hR]; rfl)]; exact HJ5.out), Lib.hid (hKk.out.trans ((KpF.of_below HB4.out (by omega) (by omega)).trans HK5.out))⟩
          case measure => have := HLT.out; simp [RowKit.intOf]; omega
        · have HJx5 := Lib.hid hJx5
          clear hJx5
          gi_wp2
          go_returns
          exact ⟨⟨_, rfl⟩, .inr ⟨_, trivial, HJx5.out⟩⟩
      · gi_wp2_with (first
          | (refine ⟨trivial, ?_⟩; gi_at_call 22; go_loud ((refine (callsIn_wide.2 (HHAS.out _ (below_alloc (Below.refl _ _) _))).mono ?_); rintro e w4 ⟨rfl, hb4⟩; rw [hR]; have hb4w : Below wr.heap.size wr w4 := (below_alloc (Below.refl _ _) _).trans (hb4.mono (by simp)); have HB4 := Lib.hid hb4w; clear hb4w hb4))
          | (fail "no arm"))
        refine ⟨fun _ h => (by cases h), ?_⟩
        gi_wp2
        go_roundw
        case rel => exact ⟨k + 1, by go_num, HLT.out, Lib.hid (by rw [hfs.out, if_neg (by rw [hR]; decide), List.append_nil]; exact HJJ.out _ wr w4 none hJk.out (grown_of_below HB4.out) (by simp)), Lib.hid (hKk.out.trans (KpF.of_below HB4.out (by omega) (by omega)))⟩
        case measure => have := HLT.out; simp [RowKit.intOf]; omega
    · obtain rfl : k = cs.length := by omega
      gi_wp2
      go_end0
      refine ⟨⟨_, rfl⟩, .inl ⟨_, rfl, ?_⟩⟩
      have := hJk.out
      rw [List.take_length] at this
      rw [HN.out]
      exact this
end Go.Proofs.YtkmdmjlepmmejaaGreatDoor.Ol
/- '==' at api.Spot as one Bool. -/
namespace Go.Proofs.YtkmdmjlepmmejaaGreatDoor.Ol
open Go.RowKit Go.Sort Go.Proofs.YtkmdmjlepmmejaaGreatDoorW.PrintWords Tr
theorem eqSpot (d : Nat) (w : World) (i : Bool) (t : Int) (nm : ByteArray) (i' : Bool) (t' : Int) (nm' : ByteArray) :
    (Op.equalIn (d + 2) 73 (.agg #[.bool i, .int .i64 t, .string nm]) (.agg #[.bool i', .int .i64 t', .string nm'])).run Tryz.prog w = .ok ((i == i') && ((t == t') && (nm.toList == nm'.toList))) w := by
  refine eqA_of Tryz.underlying73 (by kernel_rfl) ?_
  refine eqf_cons (by rfl) (by go_simp; rfl) (by go_simp; rfl) (by go_simp) ?_
  refine eqf_cons (by rfl) (by go_simp; rfl) (by go_simp; rfl) (by go_simp) ?_
  exact eqf_last (by rfl) (by go_simp; rfl) (by go_simp; rfl) (by go_simp)
theorem eqSpot_iff {a b : Option Sp} {i i' : Bool} {t t' : Int} {nm nm' : ByteArray} (ha : osC a = [.bool i, .int .i64 t, .string nm]) (hb : osC b = [.bool i', .int .i64 t', .string nm']) :
    ((i == i') && ((t == t') && (nm.toList == nm'.toList))) = decide (a = b) := by
  have hs : ∀ x y : ByteArray, x.toList = y.toList ↔ x = y := fun x y => ⟨fun h => by rw [ByteArray.toList_eq, ByteArray.toList_eq] at h; exact ByteArray.ext (Array.toList_inj.1 h), fun h => by rw [h]⟩
  rw [Bool.eq_iff_iff, decide_eq_true_eq]
  simp only [Bool.and_eq_true, beq_iff_eq, hs]
  cases a with
  | none =>
    simp only [osC, List.cons.injEq, Value.bool.injEq, Value.int.injEq, Value.string.injEq] at ha
    cases b with
    | none =>
      simp only [osC, List.cons.injEq, Value.bool.injEq, Value.int.injEq, Value.string.injEq] at hb
      obtain ⟨rfl, ⟨_, rfl⟩, rfl, _⟩ := ha
      obtain ⟨rfl, ⟨_, rfl⟩, rfl, _⟩ := hb
      simp
    | some s =>
      simp only [osC, List.cons.injEq, Value.bool.injEq, Value.int.injEq, Value.string.injEq] at hb
      obtain ⟨rfl, ⟨_, rfl⟩, rfl, _⟩ := ha
      obtain ⟨rfl, ⟨_, rfl⟩, rfl, _⟩ := hb
      simp
  | some r =>
    simp only [osC, List.cons.injEq, Value.bool.injEq, Value.int.injEq, Value.string.injEq] at ha
    cases b with
    | none =>
      simp only [osC, List.cons.injEq, Value.bool.injEq, Value.int.injEq, Value.string.injEq] at hb
      obtain ⟨rfl, ⟨_, rfl⟩, rfl, _⟩ := ha
      obtain ⟨rfl, ⟨_, rfl⟩, rfl, _⟩ := hb
      simp
    | some s =>
      obtain ⟨r1, r2⟩ := r
      obtain ⟨s1, s2⟩ := s
      simp only [osC, List.cons.injEq, Value.bool.injEq, Value.int.injEq, Value.string.injEq] at ha hb
      obtain ⟨rfl, ⟨_, rfl⟩, rfl, _⟩ := ha
      obtain ⟨rfl, ⟨_, rfl⟩, rfl, _⟩ := hb
      simp
end Go.Proofs.YtkmdmjlepmmejaaGreatDoor.Ol
