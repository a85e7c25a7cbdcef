/-
  The row and the card of the law OplogClones, out of its walk.
-/
import Derived.Test.YtkmdmjlepmmejaaGreatDoorJOplogClones1
import Derived.Deep.Cut
import Derived.Deep.RegionHeld3
import Derived.Test.YtkmdmjlepmmejaaGreatDoorRows
import Derived.Test.YtkmdmjlepmmejaaGreatDoorCards
import Derived.Test.YtkmdmjlepmmejaaGreatDoorTie
import Derived.WalkKit
import Derived.ProofKit
import Derived.OpenShut
import Derived.ShutString
import Derived.ChangeOld
import Derived.Below
import Derived.SizedLaws
import Derived.SevenTiedAt
import Derived.Deep.DeepHandedRow
import Derived.Deep.DeepWitnessRowRef
/- The reference's log: Changes. -/
namespace Go.Proofs.YtkmdmjlepmmejaaGreatDoor.Ol
open Go.RowKit Go.Sort Go.Proofs.YtkmdmjlepmmejaaGreatDoorW.PrintWords Tr
attribute [local go_sem] Oper.semAt_some
attribute [local go_sem high] eqSpot

/-- The least node above 'last', of the first i. -/
def Nx (all : List OpR) (last nx : Int) (i : Nat) : Prop :=
  (nx = -1 ∧ ∀ j (h : j < all.length), j < i → all[j].node ≤ last) ∨ ((∃ j, ∃ (h : j < all.length), nx = all[j].node) ∧ last < nx ∧ ∀ j (h : j < all.length), j < i → last < all[j].node → nx ≤ all[j].node)
theorem nx_skip {all : List OpR} {la nx : Int} {i : Nat} (h : Nx all la nx i) (hi : i < all.length) (hk : ¬ (la < all[i].node ∧ (nx < 0 ∨ all[i].node < nx))) (hpos : 0 ≤ all[i].node) : Nx all la nx (i + 1) := by
  rcases h with ⟨h1, h2⟩ | ⟨h1, h2, h3⟩
  · refine .inl ⟨h1, fun j hj hji => ?_⟩
    by_cases e : j = i
    · subst e
      apply Classical.byContradiction
      intro hh
      exact hk ⟨by omega, .inl (by omega)⟩
    · exact h2 j hj (by omega)
  · refine .inr ⟨h1, h2, fun j hj hji hl => ?_⟩
    by_cases e : j = i
    · subst e
      apply Classical.byContradiction
      intro hh
      exact hk ⟨hl, .inr (by omega)⟩
    · exact h3 j hj (by omega) hl
theorem nx_take {all : List OpR} {la nx : Int} {i : Nat} (h : Nx all la nx i) (hi : i < all.length) (hl : la < all[i].node) (hk : nx < 0 ∨ all[i].node < nx) (hnn : ∀ j (h : j < all.length), 0 ≤ all[j].node) : Nx all la all[i].node (i + 1) := by
  refine .inr ⟨⟨i, hi, rfl⟩, hl, fun j hj hji hlj => ?_⟩
  by_cases e : j = i
  · subst e; exact Int.le_refl _
  · rcases h with ⟨h1, h2⟩ | ⟨⟨j2, hj2, h1⟩, h2, h3⟩
    · have := h2 j hj (by omega); omega
    · have := h3 j hj (by omega) hlj
      have := hnn j2 hj2
      omega
theorem lt_of_cmp {a b : Int} (h : cmpI a b < 0) : a < b := by
  unfold cmpI at h
  split at h
  · assumption
  · split at h <;> omega
def lastN (ns : List Int) (m : Nat) : Int := if h : 0 < m ∧ m ≤ ns.length then ns[m - 1]'(by omega) else -1
theorem ns_lt {ns : List Int} (ha : Asc cmpI ns) {i j : Nat} (hi : i < ns.length) (hj : j < ns.length) (h : i < j) : ns[i] < ns[j] := lt_of_cmp (List.pairwise_iff_getElem.1 ha i j hi hj h)
theorem nx_none {all : List OpR} {m : Nat} (hm : m ≤ (nodesO all).length) (hpos : ∀ o ∈ all, 0 ≤ o.node) (h : ∀ j (h : j < all.length), all[j].node ≤ lastN (nodesO all) m) : m = (nodesO all).length := by
  apply Classical.byContradiction
  intro hne
  have hlt : m < (nodesO all).length := by omega
  obtain ⟨o, ho, e⟩ := mem_nodesO.1 (List.getElem_mem hlt)
  obtain ⟨j, hj, rfl⟩ := List.getElem_of_mem ho
  have h1 := h j hj
  have h2 := hpos _ ho
  unfold lastN at h1
  split at h1
  · rename_i hh
    have := ns_lt (nodesO_asc all) (i := m - 1) (j := m) (by omega) hlt (by omega)
    omega
  · omega
theorem nx_some {all : List OpR} {m : Nat} {nx : Int} (hm : m ≤ (nodesO all).length) (hpos : ∀ o ∈ all, 0 ≤ o.node) (hx : ∃ j, ∃ (h : j < all.length), nx = all[j].node) (hl : lastN (nodesO all) m < nx) (hmin : ∀ j (h : j < all.length), lastN (nodesO all) m < all[j].node → nx ≤ all[j].node) :
    ∃ h : m < (nodesO all).length, nx = (nodesO all)[m] := by
  obtain ⟨j, hj, rfl⟩ := hx
  obtain ⟨k, hk, e⟩ := List.getElem_of_mem (mem_nodesO.2 ⟨all[j], List.getElem_mem hj, rfl⟩)
  have hkm : m ≤ k := by
    apply Classical.byContradiction
    intro hlt
    have hl' := hl
    unfold lastN at hl'
    rw [dif_pos ⟨by omega, hm⟩, ← e] at hl'
    by_cases h : k = m - 1
    · subst h; omega
    · have := ns_lt (nodesO_asc all) (i := k) (j := m - 1) hk (by omega) (by omega)
      omega
  have hml : m < (nodesO all).length := by omega
  refine ⟨hml, ?_⟩
  obtain ⟨o, ho, e2⟩ := mem_nodesO.1 (List.getElem_mem hml)
  obtain ⟨j2, hj2, rfl⟩ := List.getElem_of_mem ho
  have hgt : lastN (nodesO all) m < all[j2].node := by
    rw [e2]
    unfold lastN
    split
    · exact ns_lt (nodesO_asc all) (by omega) hml (by omega)
    · have := hpos _ ho
      omega
  have h1 := hmin j2 hj2 hgt
  by_cases h : k = m
  · subst h; exact e.symm
  · have := ns_lt (nodesO_asc all) hml hk (show m < k by omega)
    omega
theorem last_next {ns : List Int} {m : Nat} (h : m < ns.length) : lastN ns (m + 1) = ns[m] := by
  unfold lastN
  rw [dif_pos ⟨by omega, by omega⟩]
  rfl
theorem chgs_next {t u : List KidR} {ns : List Int} {m : Nat} (h : m < ns.length) : chgsAt t u (ns.take (m + 1)) = chgsAt t u (ns.take m) ++ (if lookT t ns[m] = lookT u ns[m] then [] else [⟨ns[m], lookT t ns[m], lookT u ns[m]⟩]) := by
  unfold chgsAt
  rw [List.take_succ_eq_append_getElem h, List.filter_append, List.map_append]
  congr 1
  by_cases e : lookT t ns[m] = lookT u ns[m] <;> simp [e]
theorem chgs_le (t u : List KidR) (ns : List Int) : (chgsAt t u ns).length ≤ ns.length := by
  unfold chgsAt
  rw [List.length_map]
  exact List.length_filter_le _ _
set_option maxRecDepth 100000 in
set_option maxHeartbeats 4000000 in
theorem rchanges_calls (W : World) (Bo po : Nat) (t : List KidR) (ko : Nat) (Bn pn : Nat) (u : List KidR) (kn : Nat) (A : Option Addr) (n c : Nat) (all : List OpR) (Ht : RT W Bo po t ko) (Hu : RT W Bn pn u kn) (ht : t.length ≤ 1000000) (hu : u.length ≤ 1000000) (h : OpsAt W A n all) (hn : n ≤ 1000) (hr : ∀ o ∈ all, opRight o = true) :
    Calls Tryz.prog 39 #[.pointer (some ⟨po, 0, none⟩), .pointer (some ⟨pn, 0, none⟩), .slice A n c] W fun e w' => ∃ v, e = .returned v ∧ OwnRow (fun c xs => xs = chgC c) 76 7 w' W.heap.size v (chgsAt t u (nodesO all)) ∧ Below W.heap.size W w' := by
  have HT := Lib.hid (fun (V : World) (hV : Below W.heap.size W V) (x : Int) => rspot_calls V Bo po t ko x (Ht.below hV) ht)
  have HU := Lib.hid (fun (V : World) (hV : Below W.heap.size W V) (x : Int) => rspot_calls V Bn pn u kn x (Hu.below hV) hu)
  have HA := Lib.hid h
  have HL := Lib.hid h.1
  have hnode : ∀ o ∈ all, 256 ≤ o.node ∧ o.node ≤ 4294967295 := fun o ho => by
    have := hr o ho
    unfold opRight nodeR at this
    simp only [Bool.and_eq_true, decide_eq_true_eq] at this
    exact this.2.1
  have HN := Lib.hid hnode
  have hnl : (nodesO all).length ≤ 1000 := by
    unfold nodesO
    refine Nat.le_trans (cpt_length_leG _ _) ?_
    rw [srt_length, List.length_map, HL.out]
    exact hn
  clear Ht Hu h hr hnode
  go_enter Tryz.func39, Tryz.ntmps39
  go_wp2
  go_loopw [7, 8] (fun v7 v8 V => ∃ m : Nat, m ≤ (nodesO all).length ∧ v8 = .int .i64 (lastN (nodesO all) m) ∧ Hid (OwnRow (fun c xs => xs = chgC c) 76 7 V W.heap.size v7 (chgsAt t u ((nodesO all).take m))) ∧ Hid (Below W.heap.size W V)) (fun _ v8 _ => 5000000000 - (RowKit.intOf v8 + 1).toNat)
  case atStart => exact ⟨0, Nat.zero_le _, by simp [lastN], Lib.hid (OwnRow.none_ _ _ _ _ _), Lib.hid (Below.refl _ _)⟩
  case round =>
    obtain ⟨m, hm, rfl, HO, HB⟩ := hrel
    have hlr : -1 ≤ lastN (nodesO all) m ∧ lastN (nodesO all) m ≤ 4294967295 := by
      unfold lastN
      split
      · rename_i hh
        obtain ⟨o, ho, e⟩ := mem_nodesO.1 (List.getElem_mem (show m - 1 < (nodesO all).length by omega))
        have := HN.out o ho
        omega
      · omega
    have HNN := Lib.hid (fun h => nx_none hm (fun o ho => by have := HN.out o ho; omega) h)
    have HNS := Lib.hid (fun (nx : Int) h1 h2 h3 => nx_some (nx := nx) hm (fun o ho => by have := HN.out o ho; omega) h1 h2 h3)
    generalize hla : lastN (nodesO all) m = la at *
    clear hla
    go_wp2
    go_loopw [9, 10] (fun v9 v10 V => ∃ (i : Nat) (nx : Int), v9 = .int .i64 nx ∧ v10 = .int .i64 i ∧ i ≤ n ∧ Hid (Nx all la nx i) ∧ V = wr) (fun _ v10 _ => (n - (RowKit.intOf v10).toNat))
    case atStart => exact ⟨0, -1, rfl, rfl, by omega, Lib.hid (.inl ⟨rfl, fun j h hj => by omega⟩), rfl⟩
    case round =>
      obtain ⟨i, nx, rfl, rfl, hi, HX, rfl⟩ := hrel
      by_cases hlt : i < n
      · have hl : i < all.length := by rw [HL.out]; exact hlt
        obtain ⟨b, o, rfl, hcell⟩ := HA.out.2.2 (show 0 < n by omega)
        have m2 := ((hcell i hl).below HB.out).2.2.1
        have hnd := HN.out _ (List.getElem_mem hl)
        have HSK := Lib.hid (nx_skip HX.out hl)
        have HTK := Lib.hid (nx_take HX.out hl)
        have HPOS := Lib.hid (show ∀ j (h : j < all.length), 0 ≤ all[j].node from fun j h => by have := HN.out _ (List.getElem_mem h); omega)
        have hi1 : (0 : Int) ≤ (i : Int) := by omega
        have hi2 : (i : Int) < (n : Int) := by omega
        generalize all[i].node = nd at *
        clear hcell
        by_cases hla : la < nd
        · by_cases hn0 : nx < 0
          · have HX2 := Lib.hid (HTK.out hla (.inl hn0) HPOS.out)
            go_wp2
            go_roundw
            case rel => exact ⟨i + 1, nd, rfl, by go_num, by omega, HX2, by trivial⟩
            case measure => simp [RowKit.intOf] <;> omega
          · by_cases hn1 : nd < nx
            · have HX2 := Lib.hid (HTK.out hla (.inr hn1) HPOS.out)
              go_wp2
              go_roundw
              case rel => exact ⟨i + 1, nd, rfl, by go_num, by omega, HX2, by trivial⟩
              case measure => simp [RowKit.intOf] <;> omega
            · have HX2 := Lib.hid (HSK.out (fun h => h.2.elim hn0 hn1) (by omega))
              go_wp2
              go_roundw
              case rel => exact ⟨i + 1, nx, rfl, by go_num, by omega, HX2, by trivial⟩
              case measure => simp [RowKit.intOf] <;> omega
        · have HX2 := Lib.hid (HSK.out (fun h => hla h.1) (by omega))
          go_wp2
          go_roundw
          case rel => exact ⟨i + 1, nx, rfl, by go_num, by omega, HX2, by trivial⟩
          case measure => simp [RowKit.intOf] <;> omega
      · obtain rfl : i = n := by omega
        rcases HX.out with ⟨rfl, hx2⟩ | ⟨hx1, hx2, hx3⟩
        · have hme := HNN.out (fun j hj => hx2 j hj (by rw [← HL.out]; exact hj))
          subst hme
          have hO := HO.out
          rw [List.take_of_length_le (Nat.le_refl _)] at hO
          have HO2 := Lib.hid hO
          clear hO hx2 HO
          go_wp2
          go_ret
          exact ⟨_, rfl, HO2.out, HB.out⟩
        · obtain ⟨hml, hxe⟩ := HNS.out nx hx1 hx2 (fun j hj h => hx3 j hj (by rw [← HL.out]; exact hj) h)
          have hnr : 256 ≤ nx ∧ nx ≤ 4294967295 := by
            obtain ⟨j, hj, e⟩ := hx1
            have := HN.out _ (List.getElem_mem hj)
            omega
          have HNX := Lib.hid (chgs_next (t := t) (u := u) hml)
          have HLA := Lib.hid (last_next hml)
          have hcl := chgs_le t u ((nodesO all).take m)
          rw [List.length_take] at hcl
          rw [← hxe] at HNX HLA
          obtain ⟨i1, t1, n1, e1, f1⟩ := osV_cells (lookT t nx)
          obtain ⟨i2, t2, n2, e2, f2⟩ := osV_cells (lookT u nx)
          have heq := eqSpot_iff f1 f2
          have HTX := Lib.hid (fun V hV => HT.out V hV nx)
          have HUX := Lib.hid (fun V hV => HU.out V hV nx)
          rw [e1] at HTX
          rw [e2] at HUX
          have HCC := Lib.hid (show [Value.int .i64 nx, .bool i1, .int .i64 t1, .string n1, .bool i2, .int .i64 t2, .string n2] = chgC ⟨nx, lookT t nx, lookT u nx⟩ by simp [chgC, f1, f2])
          have HGT := Lib.hid hx2
          clear hx1 hx2 hx3 hxe HX HNN HNS
          have hn0 : ¬ nx < 0 := by omega
          by_cases hsame : lookT t nx = lookT u nx
          · rw [decide_eq_true hsame] at heq
            rw [if_pos hsame, List.append_nil] at HNX
            clear f1 f2 e1 e2 HCC hsame
            go_wp2_with (first
            | (go_at_call 66; (with_reducible refine Calls.mono (HTX.out _ HB.out) ?_); rintro e w3 ⟨rfl, hb⟩; have HB3 := Lib.hid (below_step HB.out hb); have HO3 := Lib.hid (OwnRow.below HO.out hb); clear hb)
            | (go_at_call 66; (with_reducible refine Calls.mono (HUX.out _ (below_alloc HB3.out _)) ?_); rintro e w4 ⟨rfl, hb⟩; have s0 : w4.cell? ⟨w3.heap.size, 0, none⟩ = some (.bool i1) := pw_cell_below hb (by go_cell); have s1 : w4.cell? ⟨w3.heap.size, 1, none⟩ = some (.int .i64 t1) := pw_cell_below hb (by go_cell); have s2 : w4.cell? ⟨w3.heap.size, 2, none⟩ = some (.string n1) := pw_cell_below hb (by go_cell); have hlt34 : w3.heap.size < w4.heap.size := cell_lt s0; have HB4 := Lib.hid (below_step (below_alloc HB3.out _) hb); have HO4 := Lib.hid (OwnRow.below HO3.out (below_step (below_alloc (Below.refl _ _) _) hb)); clear hb)
            | (fail "no arm"))
            go_roundw
            case rel => exact ⟨m + 1, by omega, by rw [HLA.out], Lib.hid (by rw [HNX.out]; exact OwnRow.below HO4.out (below_alloc (Below.refl _ _) _)), Lib.hid (below_alloc HB4.out _)⟩
            case measure => have := HGT.out; simp [RowKit.intOf]; omega
          · rw [decide_eq_false hsame] at heq
            rw [if_neg hsame] at HNX
            clear f1 f2 e1 e2 hsame
            go_wp2_with (first
            | (go_at_call 66; (with_reducible refine Calls.mono (HTX.out _ HB.out) ?_); rintro e w3 ⟨rfl, hb⟩; have HB3 := Lib.hid (below_step HB.out hb); have HO3 := Lib.hid (OwnRow.below HO.out hb); clear hb)
            | (go_at_call 66; (with_reducible refine Calls.mono (HUX.out _ (below_alloc HB3.out _)) ?_); rintro e w4 ⟨rfl, hb⟩; have s0 : w4.cell? ⟨w3.heap.size, 0, none⟩ = some (.bool i1) := pw_cell_below hb (by go_cell); have s1 : w4.cell? ⟨w3.heap.size, 1, none⟩ = some (.int .i64 t1) := pw_cell_below hb (by go_cell); have s2 : w4.cell? ⟨w3.heap.size, 2, none⟩ = some (.string n1) := pw_cell_below hb (by go_cell); have hlt34 : w3.heap.size < w4.heap.size := cell_lt s0; have HB4 := Lib.hid (below_step (below_alloc HB3.out _) hb); have HO4 := Lib.hid (OwnRow.below HO3.out (below_step (below_alloc (Below.refl _ _) _) hb)); clear hb)
            | (at_builtin; ((refine OwnRow.append (R := fun c xs => xs = chgC c) (w0 := W) W.heap.size rfl (.tmp 50) (.tmp 55) 31 76 _ 7 72 rfl Tryz.underlying31 chgInfo rfl (by decide) (by decide) _ (chgsAt t u ((nodesO all).take m)) ⟨nx, lookT t nx, lookT u nx⟩ [.int .i64 nx, .bool i1, .int .i64 t1, .string n1, .bool i2, .int .i64 t2, .string n2] (by rfl) (by simp [Act.eval]) HCC.out rfl (by simp [Value.oneCell']) (OwnRow.below HO4.out (below_alloc (Below.refl _ _) _)) (below_alloc HB4.out _) (by have := HB4.out.size; simp; omega) (by omega) ?_); intro v5 w5 ho hb hg hat; have HO5 := Lib.hid ho; have HB5 := Lib.hid hb; clear ho hb hg hat))
            | (fail "no arm"))
            go_roundw
            case rel => exact ⟨m + 1, by omega, by rw [HLA.out], Lib.hid (by rw [HNX.out]; exact HO5.out), HB5⟩
            case measure => have := HGT.out; simp [RowKit.intOf]; omega
end Go.Proofs.YtkmdmjlepmmejaaGreatDoor.Ol
/- The reference's log: Put. -/
namespace Go.Proofs.YtkmdmjlepmmejaaGreatDoor.Ol
open Go.RowKit Go.Sort Go.Proofs.YtkmdmjlepmmejaaGreatDoorW.PrintWords Tr

/-- The reference's log in memory. -/
structure RL (W : World) (p : Nat) (most : Int) (A : Option Addr) (c : Nat) (l : List OpR) : Prop where
  hp : W.heap[p]? = some (.cells #[.int .i64 most, .slice A l.length c] 29 (0, 0))
  ops : OpsAt W A l.length l
theorem RL.below {W W' : World} {p : Nat} {most : Int} {A : Option Addr} {c : Nat} {l : List OpR} (h : RL W p most A c l) (hb : Below W.heap.size W W') : RL W' p most A c l := ⟨blk_below h.hp hb, h.ops.below hb⟩
theorem join_step {l ops : List OpR} (hl : AscO l) {i : Nat} (hi : i < ops.length) : joinO l (ops.take (i + 1)) = joinO (joinO l (ops.take i)) [ops[i]] :=
  asc_ext opOrd (joinO_asc hl _) (joinO_asc (joinO_asc hl _) _) fun x => by
    simp only [mem_joinO, List.mem_singleton]
    rw [List.take_succ_eq_append_getElem hi, List.mem_append, List.mem_singleton, or_assoc]
theorem join_all_nil {l : List OpR} (hl : AscO l) : joinO l [] = l := joinO_nil hl (newOf_none fun o h => by simp at h)
theorem ops_set {W : World} {A : Option Addr} {n : Nat} {l : List OpR} (h : OpsAt W A n l) {p : Nat} {x y : Value} {T : TypeId} (hp : W.heap[p]? = some (.cells #[x, y] T (0, 0))) (j : Nat) (v : Value) : OpsAt (W.setCell ⟨p, j, none⟩ v) A n l := by
  refine ⟨h.1, h.2.1, fun hn => ?_⟩
  obtain ⟨b, o, e, hc⟩ := h.2.2 hn
  refine ⟨b, o, e, fun i hi => ?_⟩
  have hne : b ≠ p := by
    rintro rfl
    have := (hc i hi).2.2.2.2
    rw [blk_cell hp] at this
    simp at this
  have hk : ∀ q u, W.cell? ⟨b, q, none⟩ = some u → (W.setCell ⟨p, j, none⟩ v).cell? ⟨b, q, none⟩ = some u := fun q u hq => (World.cell?_of_block (a := ⟨b, q, none⟩) (Below.heap_setCell W ⟨p, j, none⟩ v b hne)).trans hq
  exact ⟨hk _ _ (hc i hi).1, hk _ _ (hc i hi).2.1, hk _ _ (hc i hi).2.2.1, hk _ _ (hc i hi).2.2.2.1, hk _ _ (hc i hi).2.2.2.2⟩
theorem RT.set_ {W : World} {B q : Nat} {t : List KidR} {k : Nat} (h : RT W B q t k) {p : Nat} (hp : p < B) (j : Nat) (v : Value) : RT (W.setCell ⟨p, j, none⟩ v) B q t k := by
  obtain ⟨A, c, vw, ws, h1, h2, h3, h4⟩ := h
  refine ⟨A, c, vw, ws, (Below.heap_setCell W ⟨p, j, none⟩ v q (by show q ≠ p; omega)).trans h1, ?_, own_move h3 (fun b hb => Below.heap_setCell W ⟨p, j, none⟩ v b (by have := own_base h3 b hb; show b ≠ p; omega)), h4⟩
  obtain ⟨inner, hrow, hr⟩ := h2
  exact ⟨inner, own_move hrow (fun b hb => Below.heap_setCell W ⟨p, j, none⟩ v b (by have := own_base hrow b hb; show b ≠ p; omega)), hr⟩
set_option maxRecDepth 100000 in
set_option maxHeartbeats 4000000 in
theorem rput_calls (W : World) (p : Nat) (most : Int) (A : Option Addr) (c : Nat) (l ops : List OpR) (Ao : Option Addr) (n co : Nat) (H : RL W p most A c l) (hok : LogOk most l) (ho : OpsAt W Ao n ops) (hs : ∀ o ∈ ops, o.name.size ≤ 9223372036854775807) (hl : l.length ≤ 500) (hn : n ≤ 400) (hmost : most ≤ 1000000) :
    Calls Tryz.prog 11 #[.pointer (some ⟨p, 0, none⟩), .slice Ao n co] W fun e w' => ∃ vc A' c', e = .returned (.tuple #[.int .i64 (putR most l ops).n, vc, .int .i64 (putR most l ops).e]) ∧ OwnRow (fun c xs => xs = chgC c) 76 7 w' W.heap.size vc (putR most l ops).chgs ∧ RL w' p most A' c' (putR most l ops).l ∧ Tr.Touch (fun b => b = p) W w' := by
  have HA := Lib.hid ho
  have HL := Lib.hid ho.1
  have HH := Lib.hid H
  have HOK := Lib.hid hok
  have HSZ := Lib.hid hs
  have c0 := blk_cell H.hp 0
  have c1 := blk_cell H.hp 1
  simp at c0 c1
  have hlt := blk_lt H.hp
  clear ho H hok hs
  go_enter Tryz.func11, Tryz.ntmps11
  go_wp2
  go_loopw [8] (fun vi V => ∃ i : Nat, vi = .int .i64 i ∧ i ≤ n ∧ Hid (∀ x ∈ ops.take i, opRight x = true) ∧ Hid (Below W.heap.size W V)) (fun vi _ => (n - (RowKit.intOf vi).toNat))
  case atStart => exact ⟨0, rfl, by omega, Lib.hid (by simp), Lib.hid (Below.refl _ _)⟩
  case round =>
    obtain ⟨i, rfl, hi, HRT, HB⟩ := hrel
    by_cases hlt2 : i < n
    · have hio : i < ops.length := by rw [HL.out]; exact hlt2
      obtain ⟨b, o, rfl, hcell⟩ := HA.out.2.2 (show 0 < n by omega)
      obtain ⟨m0, m1, m2, m3, m4⟩ := (hcell i hio).below HB.out
      have HR := Lib.hid (fun V => refright_calls ops[i] V (HSZ.out _ (List.getElem_mem hio)))
      have HSN := Lib.hid (show opRight ops[i] = true → ∀ x ∈ ops.take (i + 1), opRight x = true from fun h x hx => by
        rw [List.take_succ_eq_append_getElem hio, List.mem_append, List.mem_singleton] at hx
        exact hx.elim (HRT.out x) (fun e => e ▸ h))
      have HNO := Lib.hid (show opRight ops[i] = false → putR most l ops = ⟨0, [], 1, l⟩ from fun h => by
        unfold putR
        rw [if_neg (fun hh => by rw [List.all_eq_true.1 hh _ (List.getElem_mem hio)] at h; cases h)])
      have hi1 : (0 : Int) ≤ (i : Int) := by omega
      have hi2 : (i : Int) < (n : Int) := by omega
      generalize ops[i] = q at *
      simp only [opV] at HR
      clear hcell
      cases hq : opRight q with
      | false =>
        have HP := Lib.hid (HNO.out hq)
        rw [hq] at HR
        clear hq
        go_wp2_with (first
          | (go_at_call 37; (refine (HR.out _).mono ?_); rintro e w3 ⟨rfl, hb⟩; have HB3 := Lib.hid (below_step HB.out hb); clear hb m0 m1 m2 m3 m4)
          | (fail "no arm"))
        refine bodyPost_ret (results_tmp3 rfl _ _ _) rfl ?_
        rw [HP.out]
        exact ⟨_, _, _, rfl, OwnRow.none_ _ _ _ _ _, HH.out.below HB3.out, Tr.Touch.below HB3.out⟩
      | true =>
        have HS2 := Lib.hid (HSN.out hq)
        rw [hq] at HR
        clear hq
        go_wp2_with (first
          | (go_at_call 37; (refine (HR.out _).mono ?_); rintro e w3 ⟨rfl, hb⟩; have HB3 := Lib.hid (below_step HB.out hb); clear hb m0 m1 m2 m3 m4)
          | (fail "no arm"))
        go_roundw
        case rel => exact ⟨i + 1, by go_num, by omega, HS2, HB3⟩
        case measure => simp [RowKit.intOf] <;> omega
    · obtain rfl : i = n := by omega
      have hall : ops.all opRight = true := by
        have := HRT.out
        rw [List.take_of_length_le (by rw [HL.out]; exact Nat.le_refl _)] at this
        exact List.all_eq_true.2 this
      have HALL := Lib.hid hall
      have HJN := Lib.hid (join_all_nil HOK.out.asc)
      have g0 := pw_cell_below HB.out c0
      have g1 := pw_cell_below HB.out c1
      have HB0 := HB
      clear HRT hall HB
      go_wp2
      go_loopw [7, 10] (fun v7 v10 V => ∃ (j m c7 : Nat) (A7 : Option Addr), v7 = .slice A7 m c7 ∧ v10 = .int .i64 j ∧ j ≤ i ∧ Hid (m = (joinO l (ops.take j)).length) ∧ Hid (OpsAt V A7 m (joinO l (ops.take j))) ∧ Hid (Below W.heap.size W V)) (fun _ v10 _ => (i - (RowKit.intOf v10).toNat))
      case atStart => exact ⟨0, _, _, _, rfl, rfl, by omega, Lib.hid (by rw [List.take_zero, HJN.out]), Lib.hid (by rw [List.take_zero, HJN.out]; exact HH.out.ops.below HB0.out), HB0⟩
      case round =>
        obtain ⟨j, m, c7, A7, rfl, rfl, hj, HM, HO7, HB⟩ := hrel
        have hjl : (joinO l (ops.take j)).length ≤ 900 := by
          rw [joinO_length]
          have := newOf_length l (ops.take j)
          rw [List.length_take] at this
          omega
        have hm9 : m ≤ 900 := by rw [HM.out]; exact hjl
        by_cases hlt3 : j < i
        · have hjo : j < ops.length := by rw [HL.out]; exact hlt3
          obtain ⟨b, o, rfl, hcell⟩ := HA.out.2.2 (show 0 < i by omega)
          obtain ⟨m0, m1, m2, m3, m4⟩ := (hcell j hjo).below HB.out
          have HW := Lib.hid (rwith_calls A7 m c7 (joinO l (ops.take j)) ops[j] wr HO7.out (joinO_asc HOK.out.asc _) (by omega))
          rw [← join_step HOK.out.asc hjo] at HW
          have hj1 : (0 : Int) ≤ (j : Int) := by omega
          have hj2 : (j : Int) < (i : Int) := by omega
          generalize ops[j] = q at *
          simp only [opV] at HW
          clear hcell
          go_wp2_with (first
            | (go_at_call 38; (refine HW.out.mono ?_); rintro e w4 ⟨A8, c8, rfl, ho, hb⟩; have HO8 := Lib.hid ho; have HB8 := Lib.hid (below_step HB.out hb); clear ho hb m0 m1 m2 m3 m4)
            | (fail "no arm"))
          go_roundw
          case rel => exact ⟨j + 1, _, c8, A8, rfl, by go_num, by omega, Lib.hid rfl, HO8, HB8⟩
          case measure => simp [RowKit.intOf] <;> omega
        · obtain rfl : j = i := by omega
          have htk : ops.take j = ops := List.take_of_length_le (by rw [HL.out]; exact Nat.le_refl _)
          have hm := HM.out
          have ho7 := HO7.out
          rw [htk] at hm ho7
          have hjn := joinO_length l ops
          have hok2 := HOK.out.len
          have g0 := pw_cell_below HB.out c0
          have g1 := pw_cell_below HB.out c1
          have HO9 := Lib.hid ho7
          have hltw : p < wr.heap.size := cell_lt g0
          clear HM HO7 htk ho7
          by_cases hfull : most < (m : Int)
          · have HP := Lib.hid (put_full HALL.out (show most < (l.length : Int) + (newOf l ops).length by omega))
            have hgt : (l.length : Int) < (m : Int) := by omega
            clear hm hjn
            go_wp2
            refine bodyPost_ret (results_tmp3 rfl _ _ _) rfl ?_
            rw [HP.out]
            exact ⟨_, _, _, rfl, OwnRow.none_ _ _ _ _ _, HH.out.below HB.out, Tr.Touch.below HB.out⟩
          · have HP := Lib.hid (put_ok HALL.out (show (l.length : Int) + (newOf l ops).length ≤ most by omega))
            have hnew : ((newOf l ops).length : Int) = (m : Int) - (l.length : Int) := by omega
            rw [hnew] at HP
            have hrj : ∀ o ∈ joinO l ops, opRight o = true := fun o ho => (mem_joinO.1 ho).elim (HOK.out.right o) (List.all_eq_true.1 HALL.out o)
            have HO1 := Lib.hid (rof_calls A l.length c l wr (HH.out.ops.below HB.out) (by omega) HOK.out.right)
            have HO2 := Lib.hid (fun V (hV : Below wr.heap.size wr V) => rof_calls A7 m c7 (joinO l ops) V (HO9.out.below hV) (by omega) hrj)
            have HMJ := Lib.hid hm
            have HRJ := Lib.hid hrj
            clear hm hjn hnew hrj
            have HBW := HB
            clear HB
            have hll : (treeO l).length ≤ 1000000 := Nat.le_trans (length_treeO l) (by omega)
            have hlj : (treeO (joinO l ops)).length ≤ 1000000 := Nat.le_trans (length_treeO _) (by rw [← HMJ.out]; omega)
            go_wp2_with (first
              | (go_at_call 20; (with_reducible refine Calls.mono HO1.out ?_); rintro e w4 ⟨p1, rfl, ht, hb⟩; have HT4 := Lib.hid ht; have HB4 := Lib.hid hb; have g2 := pw_cell_below hb g0; have g3 := pw_cell_below hb g1; clear HO1 ht hb)
              | (go_at_call 20; (with_reducible refine Calls.mono (HO2.out _ HB4.out) ?_); rintro e w5 ⟨p2, rfl, ht, hb⟩; have HT5 := Lib.hid ht; have HT4b := Lib.hid (HT4.out.below hb); have HB5 := Lib.hid (below_step HB4.out hb); have HP5 := Lib.hid (HH.out.below (below_step HBW.out HB5.out)).hp; have z5 := blk_frozen HP5.out 1; have y5 := blk_cell HP5.out 1; simp at y5; have hlt5 : p < w5.heap.size := blk_lt HP5.out; have HS4 := Lib.hid HB4.out.size; clear HT4 ht hb g2 g3)
              | (go_at_call 39; (with_reducible refine Calls.mono (rchanges_calls (w5.setCell ⟨p, 1, none⟩ (.slice A7 m c7)) wr.heap.size p1 (treeO l) l.length w4.heap.size p2 (treeO (joinO l ops)) m A7 m c7 (joinO l ops) (HT4b.out.set_ hltw _ _) (HT5.out.set_ (Nat.lt_of_lt_of_le hltw HS4.out) _ _) hll hlj (ops_set (HO9.out.below HB5.out) HP5.out _ _) (by omega) HRJ.out) ?_); rintro e w6 ⟨v6, rfl, ho, hb⟩; have HO6 := Lib.hid ho; have HB6 := Lib.hid hb; clear ho hb)
              | (fail "no arm"))
            refine bodyPost_ret (results_tmp3 rfl _ _ _) rfl ?_
            rw [HP.out]
            have hZ : Below W.heap.size W w5 := below_step HBW.out HB5.out
            refine ⟨v6, A7, c7, rfl, OwnRow.lower HO6.out (by have := hZ.size; simpa using this), ⟨blk_below (blk_put HP5.out 1 _ (by simp [HMJ.out])) HB6.out, ?_⟩, ?_⟩
            · have := (ops_set (HO9.out.below HB5.out) HP5.out 1 (.slice A7 m c7)).below HB6.out
              rw [HMJ.out] at this ⊢
              exact this
            · exact ((Tr.Touch.below hZ).trans (Tr.Touch.set_ (F := fun b => b = p) rfl 1 _) (fun b _ e => e)).trans (Tr.Touch.below (F := fun _ => False) HB6.out) (fun _ _ e => e.elim)
end Go.Proofs.YtkmdmjlepmmejaaGreatDoor.Ol
/- The walk of the law OplogClones. -/
namespace Go.Proofs.YtkmdmjlepmmejaaGreatDoor.Ol
open Go.RowKit Go.Sort Go.Proofs.YtkmdmjlepmmejaaGreatDoorW.PrintWords Tr

/-- Two logs that stand side by side. -/
structure TwoM (most : Int) (V W : World) (F : Nat → Prop) (p : Nat) (l : List OpR) (F' : Nat → Prop) (p' : Nat) (l' : List OpR) : Prop where
  bel : Below V.heap.size V W
  one : LogAt W F p most l
  two : LogAt W F' p' most l'
  f1 : ∀ b, F b → V.heap.size ≤ b
  f2 : ∀ b, F' b → V.heap.size ≤ b
  off : ∀ b, F b → ¬ F' b
theorem TwoM.below {most : Int} {V W W' : World} {F F' : Nat → Prop} {p p' : Nat} {l l' : List OpR} (h : TwoM most V W F p l F' p' l') (hb : Below W.heap.size W W') : TwoM most V W' F p l F' p' l' :=
  ⟨below_step h.bel hb, h.one.below hb, h.two.below hb, h.f1, h.f2, h.off⟩
theorem TwoM.left {most : Int} {V W W' : World} {F F' G : Nat → Prop} {p p' : Nat} {l l' m : List OpR} (h : TwoM most V W F p l F' p' l') (hl : LogAt W' G p most m) (hG : ∀ b, G b → F b ∨ W.heap.size ≤ b) (hG2 : ∀ b, G b → V.heap.size ≤ b) (ht : Tr.Touch F W W') (hb : Below V.heap.size V W') : TwoM most V W' G p m F' p' l' :=
  ⟨hb, hl, h.two.touch ht (fun b e k => h.off b k e), hG2, h.f2, fun b e k => (hG b e).elim (fun x => h.off b x k) (fun x => by have := h.two.lt b k; omega)⟩
theorem TwoM.right {most : Int} {V W W' : World} {F F' G : Nat → Prop} {p p' : Nat} {l l' m : List OpR} (h : TwoM most V W F p l F' p' l') (hl : LogAt W' G p' most m) (hG : ∀ b, G b → F' b ∨ W.heap.size ≤ b) (hG2 : ∀ b, G b → V.heap.size ≤ b) (ht : Tr.Touch F' W W') (hb : Below V.heap.size V W') : TwoM most V W' F p l G p' m :=
  ⟨hb, h.one.touch ht (fun b e k => h.off b e k), hl, h.f1, hG2, fun b e k => (hG b k).elim (fun x => h.off b e x) (fun x => by have := h.one.lt b e; omega)⟩
theorem TwoM.far {most : Int} {V W W' : World} {F F' G : Nat → Prop} {p p' : Nat} {l l' : List OpR} (h : TwoM most V W F p l F' p' l') (ht : Tr.Touch G W W') (hG : ∀ b, G b → ¬ F b ∧ ¬ F' b ∧ V.heap.size ≤ b) : TwoM most V W' F p l F' p' l' :=
  ⟨h.bel.trans (ht.toBelow h.bel.size (fun b e => (hG b e).2.2)), h.one.touch ht (fun b e k => (hG b k).1 e), h.two.touch ht (fun b e k => (hG b k).2.1 e), h.f1, h.f2, h.off⟩
theorem ops_far {W W' : World} {A : Option Addr} {n : Nat} {l : List OpR} (h : OpsAt W A n l) {p : Nat} {x y : Value} {T : TypeId} (hp : W.heap[p]? = some (.cells #[x, y] T (0, 0))) (ht : Tr.Touch (fun b => b = p) W W') : OpsAt W' A n l := by
  refine ⟨h.1, h.2.1, fun hn => ?_⟩
  obtain ⟨b, o, e, hc⟩ := h.2.2 hn
  refine ⟨b, o, e, fun i hi => ?_⟩
  have hne : ¬ b = p := by
    rintro rfl
    have := (hc i hi).2.2.2.2
    rw [blk_cell hp] at this
    simp at this
  exact ⟨ht.cell (hc i hi).1 hne, ht.cell (hc i hi).2.1 hne, ht.cell (hc i hi).2.2.1 hne, ht.cell (hc i hi).2.2.2.1 hne, ht.cell (hc i hi).2.2.2.2 hne⟩
theorem RL.far {W W' : World} {p q : Nat} {most : Int} {A : Option Addr} {c : Nat} {l : List OpR} (h : RL W p most A c l) (hne : p ≠ q) {x y : Value} {T : TypeId} (hq : W.heap[q]? = some (.cells #[x, y] T (0, 0))) (ht : Tr.Touch (fun b => b = q) W W') : RL W' p most A c l := ⟨ht.blk h.hp hne, ops_far h.ops hq ht⟩
theorem put_any {w : World} {most : Int} {l ops : List OpR} (hok : LogOk most l) (hs : ∀ o ∈ ops, o.name.size ≤ 9223372036854775807) (hT : Tabs w) (hl : l.length + ops.length ≤ 1000000) (hmost : most ≤ 1000000) : PutC w most l ops (putR most l ops).n (putR most l ops).chgs.length (putR most l ops).e (putR most l ops).l := put_c rfl hok hs hT hl hmost
theorem putl_len (most : Int) (l ops : List OpR) : (putR most l ops).l.length ≤ l.length + ops.length := by
  unfold putR
  split
  · split
    · show l.length ≤ _; omega
    · show (joinO l ops).length ≤ _
      rw [joinO_length]
      have := newOf_length l ops
      omega
  · show l.length ≤ _; omega
set_option maxRecDepth 100000 in
set_option maxHeartbeats 8000000 in
theorem clones_walk (A1 : Option Addr) (n1 cc1 : Nat) (A2 : Option Addr) (n2 cc2 : Nat) (Ab : Option Addr) (nb cb : Nat) (top : Int) (w : World) (X XA XB L : List OpR) (K : Int) (C : List ChgR) (nl na nbb : Nat) (h24 : n1 ≤ 24) (h8 : n2 ≤ 8) (h8' : nb ≤ 8) (htop : 0 ≤ top ∧ top < 256) (hx : X.length ≤ 24) (hxa : XA.length ≤ 8) (hxb : XB.length ≤ 8)
    (hsx : ∀ o ∈ X, o.name.size ≤ 9223372036854775807) (hsa : ∀ o ∈ XA, o.name.size ≤ 9223372036854775807) (hsb : ∀ o ∈ XB, o.name.size ≤ 9223372036854775807) (hp : putR top [] X = ⟨K, C, 0, L⟩) (hnl : L.length = nl) (hna : (putR top L XA).l.length = na) (hnb : (putR top L XB).l.length = nbb) (hT : Tabs w)
    (h1 : ∀ W : World, Below w.heap.size w W → Calls Tryz.prog 24 #[.slice A1 n1 cc1] W fun e w' => ∃ A c, e = .returned (.slice A X.length c) ∧ OpsAt w' A X.length X ∧ Below W.heap.size W w')
    (h2 : ∀ W : World, Below w.heap.size w W → Calls Tryz.prog 24 #[.slice A2 n2 cc2] W fun e w' => ∃ A c, e = .returned (.slice A XA.length c) ∧ OpsAt w' A XA.length XA ∧ Below W.heap.size W w')
    (h3 : ∀ W : World, Below w.heap.size w W → Calls Tryz.prog 24 #[.slice Ab nb cb] W fun e w' => ∃ A c, e = .returned (.slice A XB.length c) ∧ OpsAt w' A XB.length XB ∧ Below W.heap.size W w') :
    Calls Tryz.prog 6 #[.slice A1 n1 cc1, .slice A2 n2 cc2, .slice Ab nb cb, .int .u8 top] w fun e w' => e = .returned (.bool true) ∧ Below w.heap.size w w' := by
  have hok : LogOk top L := by have := (log0 htop.1).put X; rw [hp] at this; exact this
  have hl24 : L.length ≤ 24 := by have := putl_len top [] X; rw [hp] at this; simp at this; omega
  have p1 := put_c (w := w) hp (log0 htop.1) hsx hT (by simp; omega) (by omega)
  have pa := put_any (w := w) hok hsa hT (by omega) (by omega)
  have pb := put_any (w := w) hok hsb hT (by omega) (by omega)
  have hla := putl_len top L XA
  have hlb := putl_len top L XB
  have oka := hok.put XA
  have okb := hok.put XB
  have hall : ∀ (M : List OpR) (a : Nat), M.length = a → a ≤ 100 → ∀ (W : World) (F : Nat → Prop) (p : Nat), LogAt W F p top M → Calls Tryz.prog 15 #[.pointer (some ⟨p, 0, none⟩)] W fun e w' => ∃ A c, e = .returned (.slice A a c) ∧ OwnO w' W.heap.size (.slice A a c) M ∧ Below W.heap.size W w' := fun M a ha h100 W F p H =>
    (log_all W F p top M H (by omega)).mono fun e w' ⟨v', he, ho, hb⟩ => by
      obtain ⟨A', c', rfl, _, _⟩ := OwnO.ops ho
      rw [ha] at he ho
      exact ⟨A', c', he, ho, hb⟩
  have hcl := fun (W : World) (F : Nat → Prop) (p : Nat) (H : LogAt W F p top L) => log_clone W F p top L H (by omega)
  have hsl := fun (A : Option Addr) (c : Nat) (B : Option Addr) (d : Nat) (W : World) (h : OpsAt W A nl L) (k : OpsAt W B nl L) => sameO_calls A _ c L B _ d L W h k
  have hsA := fun (A : Option Addr) (c : Nat) (B : Option Addr) (d : Nat) (W : World) (h : OpsAt W A na (putR top L XA).l) (k : OpsAt W B na (putR top L XA).l) => sameO_calls A _ c (putR top L XA).l B _ d (putR top L XA).l W h k
  have hsB := fun (A : Option Addr) (c : Nat) (B : Option Addr) (d : Nat) (W : World) (h : OpsAt W A nbb (putR top L XB).l) (k : OpsAt W B nbb (putR top L XB).l) => sameO_calls A _ c (putR top L XB).l B _ d (putR top L XB).l W h k
  rw [same_self] at hsl hsA hsB
  have hrp : ∀ (XX : List OpR), XX.length ≤ 8 → (∀ o ∈ XX, o.name.size ≤ 9223372036854775807) → ∀ (W : World) (p : Nat) (A : Option Addr) (c : Nat) (Ao : Option Addr) (co : Nat), RL W p top A c L → OpsAt W Ao XX.length XX → Calls Tryz.prog 11 #[.pointer (some ⟨p, 0, none⟩), .slice Ao XX.length co] W fun e w' => ∃ (vc : Value) (A' : Option Addr) (c' : Nat), e = .returned (.tuple #[.int .i64 (putR top L XX).n, vc, .int .i64 (putR top L XX).e]) ∧ RL w' p top A' c' (putR top L XX).l ∧ Tr.Touch (fun b => b = p) W w' := fun XX hXX hsXX W p A c Ao co H ho =>
    (rput_calls W p top A c L XX Ao XX.length co H hok ho hsXX (by omega) (by omega) (by omega)).mono fun e w' ⟨vc, A', c', he, _, hr, ht⟩ => ⟨vc, A', c', he, hr, ht⟩
  have hrpa := hrp XA hxa hsa
  have hrpb := hrp XB hxb hsb
  have htr : ∀ (M : List OpR), M.length ≤ 100 → ∀ (W : World) (F : Nat → Prop) (p : Nat), LogAt W F p top M → Calls Tryz.prog 12 #[.pointer (some ⟨p, 0, none⟩)] W fun e w' => ∃ p', e = .returned (.pointer (some ⟨p', 0, none⟩)) ∧ TreeAt w' (fun b => W.heap.size ≤ b) p' M ∧ Below W.heap.size W w' := fun M hM W F p H => log_tree W F p top M H (by omega)
  have hta : ∀ (M : List OpR), M.length ≤ 100 → (∀ o ∈ M, opRight o = true) → ∀ (W : World) (F : Nat → Prop) (p : Nat), TreeAt W F p M → Calls Tryz.prog 19 #[.pointer (some ⟨p, 0, none⟩)] W fun e w' => ∃ A c, e = .returned (.slice A (treeO M).length c) ∧ KidsAt w' A (treeO M).length (srt kidCmp (treeO M)) ∧ Below W.heap.size W w' := fun M hM hr W F p H =>
    (treeall_calls W F p M H hr (by omega)).mono fun e w' ⟨v', he, ho, hb⟩ => by
      obtain ⟨A', c', rfl, _, hk⟩ := OwnK.kids ho
      rw [srt_length] at he hk
      exact ⟨A', c', he, hk, hb⟩
  have hof : ∀ (M : List OpR) (a : Nat), M.length = a → a ≤ 100 → (∀ o ∈ M, opRight o = true) → ∀ (A : Option Addr) (c : Nat) (W : World), OpsAt W A a M → Calls Tryz.prog 20 #[.slice A a c] W fun e w' => ∃ p, e = .returned (.pointer (some ⟨p, 0, none⟩)) ∧ (∃ B k, RT w' B p (treeO M) k) ∧ Below W.heap.size W w' := fun M a ha h100 hr A c W h =>
    (rof_calls A a c M W h (by omega) hr).mono fun e w' ⟨p, he, ht, hb⟩ => ⟨p, he, ⟨_, _, ht⟩, hb⟩
  have hral : ∀ (M : List OpR), M.length ≤ 100 → ∀ (W : World) (p : Nat), (∃ B k, RT W B p (treeO M) k) → Calls Tryz.prog 21 #[.pointer (some ⟨p, 0, none⟩)] W fun e w' => ∃ A' c', e = .returned (.slice A' (treeO M).length c') ∧ KidsAt w' A' (treeO M).length (srt kidCmp (treeO M)) ∧ Below W.heap.size W w' := fun M hM W p ⟨B, k, H⟩ =>
    rall_calls W B p (treeO M) k H (Nat.le_trans (length_treeO M) (by omega)) (tidy_nodup (tidy_run M))
  have hsk : ∀ (M : List OpR) (A : Option Addr) (c : Nat) (B : Option Addr) (d : Nat) (W : World), KidsAt W A (treeO M).length (srt kidCmp (treeO M)) → KidsAt W B (treeO M).length (srt kidCmp (treeO M)) → Calls Tryz.prog 18 #[.slice A (treeO M).length c, .slice B (treeO M).length d] W fun e w' => e = .returned (.bool true) ∧ ∃ k, w' = W.drewN k := fun M A c B d W h k => by
    have := sameK_calls A _ c (srt kidCmp (treeO M)) B _ d (srt kidCmp (treeO M)) W h k
    rw [samek_self] at this
    exact this
  have ha100 : na ≤ 100 := by omega
  have hb100 : nbb ≤ 100 := by omega
  generalize hra : putR top L XA = RA at *
  generalize hrb : putR top L XB = RB at *
  generalize C.length = ncx at p1
  generalize RA.chgs.length = nca at pa
  generalize RB.chgs.length = ncb at pb
  have HAL := Lib.hid (hall L nl hnl (by omega))
  have HALA := Lib.hid (hall RA.l na hna (by omega))
  have HRA := Lib.hid hra
  have HRB := Lib.hid hrb
  have HALB := Lib.hid (hall RB.l nbb hnb (by omega))
  have HSB := Lib.hid hsB
  have HEB := Lib.hid hnb
  have HRPA := Lib.hid hrpa
  have HRPB := Lib.hid hrpb
  have HTRA := Lib.hid (htr RA.l (by omega))
  have HTRB := Lib.hid (htr RB.l (by omega))
  have HTAA := Lib.hid (hta RA.l (by omega) oka.right)
  have HTAB := Lib.hid (hta RB.l (by omega) okb.right)
  have HOFA := Lib.hid (hof RA.l na hna (by omega) oka.right)
  have HOFB := Lib.hid (hof RB.l nbb hnb (by omega) okb.right)
  have HRAA := Lib.hid (hral RA.l (by omega))
  have HRAB := Lib.hid (hral RB.l (by omega))
  have HSKA := Lib.hid (hsk RA.l)
  have HSKB := Lib.hid (hsk RB.l)
  have HCL := Lib.hid hcl
  have HSL := Lib.hid hsl
  have HSA := Lib.hid hsA
  have HEL := Lib.hid hnl
  have HEA := Lib.hid hna
  have HP1 := Lib.hid p1
  have HPA := Lib.hid pa
  have HPB := Lib.hid pb
  have HLA := Lib.hid hla
  have HLB := Lib.hid hlb
  have HOKA := Lib.hid oka
  have HOKB := Lib.hid okb
  have HOK := Lib.hid hok
  have HL24 := Lib.hid hl24
  have H1 := Lib.hid h1
  have H2 := Lib.hid h2
  have H3 := Lib.hid h3
  have HT := Lib.hid hT
  have H0 := Lib.hid htop.1
  have HXA := Lib.hid hxa
  have HXB := Lib.hid hxb
  have HSXA := Lib.hid hsa
  have HSXB := Lib.hid hsb
  have HB := Lib.hid (Below.refl w.heap.size w)
  have ST1 := Lib.hid trivial
  clear hrp hrpa hrpb htr hta hof hral hsk hsB hnb hall hra hrb hcl hsl hsA hnl hna p1 pa pb hla hlb oka okb hok hl24 h1 h2 h3 hT hsx hsa hsb hp hx hxa hxb
  go_enter Tryz.func6, Tryz.ntmps6
  go_upto_region 21 with (first
    | (go_at_call 7; (with_reducible refine Calls.mono (awake_calls _ HT.out) ?_); rintro e w1 ⟨rfl, hb⟩; have HBn := Lib.hid (below_step (by repeat (first | (with_reducible exact HB.out) | apply below_alloc | apply pw_below_drewN | apply below_drew1 | exact HB.out)) hb); clear hb HB; have HB := HBn; clear HBn) | (go_at_call 8; (with_reducible refine Calls.mono (log_new _ _ H0.out) ?_); rintro e w2 ⟨p, F, rfl, hlog, hF, hb⟩; have HL := Lib.hid hlog; have HF := Lib.hid (fun b hb' => Nat.le_trans HB.out.size (hF b hb')); clear hlog hF; have HBn := Lib.hid (below_step (by repeat (first | (with_reducible exact HB.out) | apply below_alloc | apply pw_below_drewN | apply below_drew1 | exact HB.out)) hb); clear hb HB; have HB := HBn; clear HBn) | (go_at_call 24; (with_reducible refine Calls.mono (H1.out _ HB.out) ?_); rintro e w3 ⟨A3, c3, rfl, hr, hb⟩; have HR3 := Lib.hid hr; have HL3 := Lib.hid (HL.out.below hb); clear HL hr; have HBn := Lib.hid (below_step (by repeat (first | (with_reducible exact HB.out) | apply below_alloc | apply pw_below_drewN | apply below_drew1 | exact HB.out)) hb); clear hb HB; have HB := HBn; clear HBn) | (go_at_call 10; (with_reducible refine Calls.mono (HP1.out _ F p A3 c3 HL3.out HR3.out HB.out HF.out) ?_); rintro e w4 ⟨A4, c4, F4, rfl, hlog, hF0, hF, ht, hb⟩; have HL4 := Lib.hid hlog; have HF4 := Lib.hid hF; have HBn := Lib.hid hb; clear HL3 HF HR3 hlog hF0 hF ht hb HB; have HB := HBn; clear HBn)
    | (go_at_call 28; (with_reducible refine Calls.mono (HCL.out _ F4 p HL4.out) ?_); rintro e w5 ⟨q, G5, rfl, hlog, hG, hb⟩; have H5 := Lib.hid (show TwoM top w w5 G5 q L F4 p L from ⟨below_step HB.out hb, hlog, HL4.out.below hb, fun b e => Nat.le_trans HB.out.size (hG b e), HF4.out, fun b e k => by have := HL4.out.lt b k; have := hG b e; omega⟩); clear HL4 HF4 hlog hG HB hb) | (go_at_call 15; (with_reducible refine Calls.mono (HAL.out _ F4 p H5.out.two) ?_); rintro e w6 ⟨A6, c6, rfl, ho, hb⟩; have HW6 := Lib.hid (OwnRow.lower ho H5.out.bel.size); have HDW := Lib.hid (fresh_row ho H5.out.one.lt); have HDG := Lib.hid (fresh_row ho H5.out.two.lt); have H6 := Lib.hid (H5.out.below hb); clear H5 ho hb) | (go_at_call 24; (with_reducible refine Calls.mono (H2.out _ H6.out.bel) ?_); rintro e w7 ⟨A7, c7, rfl, hr, hb⟩; have HR7 := Lib.hid hr; have H7 := Lib.hid (H6.out.below hb); have HW7 := Lib.hid (OwnRow.below HW6.out hb); clear H6 HW6 hr hb) | (go_at_call 10; (with_reducible refine Calls.mono (HPA.out _ G5 q A7 c7 H7.out.one HR7.out H7.out.bel H7.out.f1) ?_); rintro e w8 ⟨A8, c8, G8, rfl, hlog, hG, hG2, ht, hb⟩; have H8 := Lib.hid (H7.out.left hlog hG hG2 ht hb); have HW8 := Lib.hid (ht.row HW7.out HDW.out); clear hlog hG hG2 ht hb H7 HW7 HR7) | (go_at_call 15; have hst := ST1.out; (with_reducible refine Calls.mono (HAL.out _ F4 p H8.out.two) ?_); rintro e w9 ⟨A9, c9, rfl, ho, hb⟩; have HR9 := Lib.hid (ops_of_own HEL.out ho); have H9 := Lib.hid (H8.out.below hb); have HW9 := Lib.hid (OwnRow.below HW8.out hb); have HWO9 := Lib.hid (ops_of_own HEL.out HW9.out); clear hst ST1 H8 HW8 ho hb) | (go_at_call 14; (with_reducible refine Calls.mono (HSL.out _ _ _ _ _ HR9.out HWO9.out) ?_); rintro e w10 ⟨rfl, k10, rfl⟩; have hb := pw_below_drewN (Below.refl w9.heap.size w9) k10; have H10 := Lib.hid (H9.out.below hb); have HW10 := Lib.hid (OwnRow.below HW9.out hb); clear H9 HW9 HR9 HWO9 hb) | (go_at_call 15; (with_reducible refine Calls.mono (HALA.out _ G8 q H10.out.one) ?_); rintro e w11 ⟨A11, c11, rfl, ho, hb⟩; have HN11 := Lib.hid (OwnRow.lower ho H10.out.bel.size); have HDN := Lib.hid (fresh_row ho H10.out.two.lt); have H11 := Lib.hid (H10.out.below hb); have HW11 := Lib.hid (OwnRow.below HW10.out hb); clear H10 HW10 ho hb) | (go_at_call 24; (with_reducible refine Calls.mono (H3.out _ H11.out.bel) ?_); rintro e w12 ⟨A12, c12, rfl, hr, hb⟩; have HR12 := Lib.hid hr; have H12 := Lib.hid (H11.out.below hb); have HW12 := Lib.hid (OwnRow.below HW11.out hb); have HN12 := Lib.hid (OwnRow.below HN11.out hb); clear H11 HW11 HN11 hr hb) | (go_at_call 10; (with_reducible refine Calls.mono (HPB.out _ F4 p A12 c12 H12.out.two HR12.out H12.out.bel H12.out.f2) ?_); rintro e w13 ⟨A13, c13, G13, rfl, hlog, hG, hG2, ht, hb⟩; have H13 := Lib.hid (H12.out.right hlog hG hG2 ht hb); have HW13 := Lib.hid (ht.row HW12.out HDG.out); have HN13 := Lib.hid (ht.row HN12.out HDN.out); clear hlog hG hG2 ht hb H12 HW12 HN12 HR12) | (go_at_call 15; (with_reducible refine Calls.mono (HALA.out _ G8 q H13.out.one) ?_); rintro e w14 ⟨A14, c14, rfl, ho, hb⟩; have HR14 := Lib.hid (ops_of_own HEA.out ho); have H14 := Lib.hid (H13.out.below hb); have HW14 := Lib.hid (OwnRow.below HW13.out hb); have HN14 := Lib.hid (OwnRow.below HN13.out hb); have HNO14 := Lib.hid (ops_of_own HEA.out HN14.out); clear H13 HW13 HN13 ho hb) | (go_at_call 14; (with_reducible refine Calls.mono (HSA.out _ _ _ _ _ HR14.out HNO14.out) ?_); rintro e w15 ⟨rfl, k15, rfl⟩; have hb := pw_below_drewN (Below.refl w14.heap.size w14) k15; have H15 := Lib.hid (H14.out.below hb); have HW15 := Lib.hid (OwnRow.below HW14.out hb); clear H14 HW14 HN14 HR14 HNO14 hb)
    | (fail "no arm"))
  generalize w14.drewN k15 = Z at *
  go_upto_region 23 with fail
  have hOZ := ops_of_own HEL.out HW15.out
  rw [← HEL.out] at hOZ
  have hb1 := below_alloc (Below.refl Z.heap.size Z) (Obj.cells #[.int .i64 top, .slice A6 nl c6] 29)
  have hb2 := below_alloc hb1 (Obj.cells #[.int .i64 top, .slice A6 nl c6] 29)
  have HX := Lib.hid (show RL ((Z.alloc (Obj.cells #[.int .i64 top, .slice A6 nl c6] 29)).alloc (Obj.cells #[.int .i64 top, .slice A6 nl c6] 29)) Z.heap.size top A6 c6 L from ⟨by rw [HEL.out]; exact blk_below (blk_new Z (Obj.cells #[.int .i64 top, .slice A6 nl c6] 29)) (below_alloc (Below.refl _ _) (Obj.cells #[.int .i64 top, .slice A6 nl c6] 29)), hOZ.below hb2⟩)
  have HY := Lib.hid (show RL ((Z.alloc (Obj.cells #[.int .i64 top, .slice A6 nl c6] 29)).alloc (Obj.cells #[.int .i64 top, .slice A6 nl c6] 29)) (Z.heap.size + 1) top A6 c6 L from ⟨by rw [HEL.out]; exact blk_new1 Z (Obj.cells #[.int .i64 top, .slice A6 nl c6] 29) (Obj.cells #[.int .i64 top, .slice A6 nl c6] 29), hOZ.below hb2⟩)
  have H16 := Lib.hid (H15.out.below hb2)
  have HLT1 := Lib.hid H15.out.one.lt
  have HLT2 := Lib.hid H15.out.two.lt
  have HPB1 := Lib.hid H15.out.bel.size
  have HPXY := Lib.hid (show Z.heap.size + 1 ≠ Z.heap.size by omega)
  have HPLT := Lib.hid (show Z.heap.size < Z.heap.size + 1 by omega)
  clear hOZ hb1 hb2 H15 HW15
  generalize (Z.alloc (Obj.cells #[.int .i64 top, .slice A6 nl c6] 29)).alloc (Obj.cells #[.int .i64 top, .slice A6 nl c6] 29) = V2 at *
  generalize Z.heap.size + 1 = py at *
  generalize Z.heap.size = px at *
  go_upto_region 29 with (first
    | (go_at_call 24; (with_reducible refine Calls.mono (H2.out _ H16.out.bel) ?_); rintro e w17 ⟨A17, c17, rfl, hr, hb⟩; have HR17 := Lib.hid hr; have H17 := Lib.hid (H16.out.below hb); have HX17 := Lib.hid (HX.out.below hb); have HY17 := Lib.hid (HY.out.below hb); clear H16 HX HY hr hb)
    | (go_at_call 11; (with_reducible refine Calls.mono (HRPA.out _ px A6 c6 A17 c17 HX17.out HR17.out) ?_); rintro e w18 ⟨vc18, A18, c18, rfl, hrl, ht⟩; have HX18 := Lib.hid hrl; have HY18 := Lib.hid (HY17.out.far HPXY.out HX17.out.hp ht); have H18 := Lib.hid (H17.out.far ht (fun b e => by subst e; exact ⟨fun k => Nat.lt_irrefl _ (HLT1.out _ k), fun k => Nat.lt_irrefl _ (HLT2.out _ k), HPB1.out⟩)); clear H17 HX17 HY17 HR17 hrl ht)
    | (go_at_call 24; (with_reducible refine Calls.mono (H3.out _ H18.out.bel) ?_); rintro e w19 ⟨A19, c19, rfl, hr, hb⟩; have HR19 := Lib.hid hr; have H19 := Lib.hid (H18.out.below hb); have HX19 := Lib.hid (HX18.out.below hb); have HY19 := Lib.hid (HY18.out.below hb); clear H18 HX18 HY18 hr hb)
    | (go_at_call 11; (with_reducible refine Calls.mono (HRPB.out _ py A6 c6 A19 c19 HY19.out HR19.out) ?_); rintro e w20 ⟨vc20, A20, c20, rfl, hrl, ht⟩; have HY20 := Lib.hid hrl; have HX20 := Lib.hid (HX19.out.far (fun e => HPXY.out e.symm) HY19.out.hp ht); have H20 := Lib.hid (H19.out.far ht (fun b e => by subst e; exact ⟨fun k => Nat.lt_irrefl _ (Nat.lt_trans (HLT1.out _ k) HPLT.out), fun k => Nat.lt_irrefl _ (Nat.lt_trans (HLT2.out _ k) HPLT.out), Nat.le_trans HPB1.out (Nat.le_of_lt HPLT.out)⟩)); clear H19 HX19 HY19 HR19 hrl ht)
    | (go_at_call 12; (with_reducible refine Calls.mono (HTRA.out _ G8 q H20.out.one) ?_); rintro e w21 ⟨t, rfl, ht, hb⟩; have HT21 := Lib.hid ht; have H21 := Lib.hid (H20.out.below hb); have HX21 := Lib.hid (HX20.out.below hb); have HY21 := Lib.hid (HY20.out.below hb); clear H20 HX20 HY20 ht hb)
    | (go_at_call 12; (with_reducible refine Calls.mono (HTRB.out _ G13 p H21.out.two) ?_); rintro e w22 ⟨u, rfl, ht, hb⟩; have HU22 := Lib.hid ht; have HT22 := Lib.hid (HT21.out.below hb); have H22 := Lib.hid (H21.out.below hb); have HX22 := Lib.hid (HX21.out.below hb); have HY22 := Lib.hid (HY21.out.below hb); clear H21 HX21 HY21 HT21 ht hb)
    | (fail "no arm"))
  have hx0 := blk_cell HX22.out.hp 0
  have hx1 := blk_cell HX22.out.hp 1
  have hy0 := blk_cell HY22.out.hp 0
  have hy1 := blk_cell HY22.out.hp 1
  simp at hx0 hx1 hy0 hy1
  rw [HEA.out] at hx1
  rw [HEB.out] at hy1
  have CX0 := Lib.hid hx0
  have CX1 := Lib.hid hx1
  have CY0 := Lib.hid hy0
  have CY1 := Lib.hid hy1
  have OX := Lib.hid (show OpsAt w22 A18 na RA.l from by have := HX22.out.ops; rw [HEA.out] at this; exact this)
  have OY := Lib.hid (show OpsAt w22 A20 nbb RB.l from by have := HY22.out.ops; rw [HEB.out] at this; exact this)
  clear hx0 hx1 hy0 hy1
  have HB := Lib.hid (Below.refl w22.heap.size w22)
  go_region_held3 (fun Y => Y.cell? ⟨px, 0, none⟩ = some (.int .i64 top) ∧ Y.cell? ⟨px, 1, none⟩ = some (.slice A18 na c18) ∧ Y.cell? ⟨py, 0, none⟩ = some (.int .i64 top) ∧ Y.cell? ⟨py, 1, none⟩ = some (.slice A20 nbb c20))
    (exact ⟨pw_cell_below (by repeat (first | (with_reducible exact HB.out) | apply below_alloc | apply pw_below_drewN | apply below_drew1 | exact HB.out)) CX0.out, pw_cell_below (by repeat (first | (with_reducible exact HB.out) | apply below_alloc | apply pw_below_drewN | apply below_drew1 | exact HB.out)) CX1.out, pw_cell_below (by repeat (first | (with_reducible exact HB.out) | apply below_alloc | apply pw_below_drewN | apply below_drew1 | exact HB.out)) CY0.out, pw_cell_below (by repeat (first | (with_reducible exact HB.out) | apply below_alloc | apply pw_below_drewN | apply below_drew1 | exact HB.out)) CY1.out⟩)
    (first
      | (go_at_call 15; (with_reducible refine Calls.mono (HALA.out _ G8 q (H22.out.one.below (by repeat (first | (with_reducible exact HB.out) | apply below_alloc | apply pw_below_drewN | apply below_drew1 | exact HB.out)))) ?_); rintro e y1 ⟨A31, c31, rfl, ho, hb⟩; have R31 := Lib.hid (ops_of_own HEA.out ho); clear ho; have HBn := Lib.hid (below_step (by repeat (first | (with_reducible exact HB.out) | apply below_alloc | apply pw_below_drewN | apply below_drew1 | exact HB.out)) hb); clear hb HB; have HB := HBn; clear HBn)
      | (go_at_call 14; (with_reducible refine Calls.mono (HSA.out _ _ _ _ _ (R31.out.below (Below.refl _ _)) (OX.out.below (by repeat (first | (with_reducible exact HB.out) | apply below_alloc | apply pw_below_drewN | apply below_drew1 | exact HB.out)))) ?_); rintro e y2 ⟨rfl, k31, rfl⟩; have hb := pw_below_drewN (Below.refl y1.heap.size y1) k31; clear R31; have HBn := Lib.hid (below_step (by repeat (first | (with_reducible exact HB.out) | apply below_alloc | apply pw_below_drewN | apply below_drew1 | exact HB.out)) hb); clear hb HB; have HB := HBn; clear HBn)
      | (go_at_call 15; (with_reducible refine Calls.mono (HALB.out _ G13 p (H22.out.two.below (by repeat (first | (with_reducible exact HB.out) | apply below_alloc | apply pw_below_drewN | apply below_drew1 | exact HB.out)))) ?_); rintro e y3 ⟨A33, c33, rfl, ho, hb⟩; have R33 := Lib.hid (ops_of_own HEB.out ho); clear ho; have HBn := Lib.hid (below_step (by repeat (first | (with_reducible exact HB.out) | apply below_alloc | apply pw_below_drewN | apply below_drew1 | exact HB.out)) hb); clear hb HB; have HB := HBn; clear HBn)
      | (go_at_call 14; (with_reducible refine Calls.mono (HSB.out _ _ _ _ _ (R33.out.below (Below.refl _ _)) (OY.out.below (by repeat (first | (with_reducible exact HB.out) | apply below_alloc | apply pw_below_drewN | apply below_drew1 | exact HB.out)))) ?_); rintro e y4 ⟨rfl, k33, rfl⟩; have hb := pw_below_drewN (Below.refl y3.heap.size y3) k33; clear R33; have HBn := Lib.hid (below_step (by repeat (first | (with_reducible exact HB.out) | apply below_alloc | apply pw_below_drewN | apply below_drew1 | exact HB.out)) hb); clear hb HB; have HB := HBn; clear HBn)
      | (go_at_call 19; (with_reducible refine Calls.mono (HTAA.out _ _ t (HT22.out.below (by repeat (first | (with_reducible exact HB.out) | apply below_alloc | apply pw_below_drewN | apply below_drew1 | exact HB.out)))) ?_); rintro e y5 ⟨A35, c35, rfl, hk, hb⟩; have K35 := Lib.hid hk; clear hk; have HBn := Lib.hid (below_step (by repeat (first | (with_reducible exact HB.out) | apply below_alloc | apply pw_below_drewN | apply below_drew1 | exact HB.out)) hb); clear hb HB; have HB := HBn; clear HBn)
      | (go_at_call 20; (with_reducible refine Calls.mono (HOFA.out A18 c18 _ (OX.out.below (by repeat (first | (with_reducible exact HB.out) | apply below_alloc | apply pw_below_drewN | apply below_drew1 | exact HB.out)))) ?_); rintro e y6 ⟨p36, rfl, hk, hb⟩; have R36 := Lib.hid hk; have K36 := Lib.hid (K35.out.below (below_step (Below.refl _ _) hb)); clear hk K35; have HBn := Lib.hid (below_step (by repeat (first | (with_reducible exact HB.out) | apply below_alloc | apply pw_below_drewN | apply below_drew1 | exact HB.out)) hb); clear hb HB; have HB := HBn; clear HBn)
      | (go_at_call 21; (with_reducible refine Calls.mono (HRAA.out _ p36 R36.out) ?_); rintro e y7 ⟨A37, c37, rfl, hk, hb⟩; have K37 := Lib.hid hk; have K367 := Lib.hid (K36.out.below (below_step (Below.refl _ _) hb)); clear hk K36 R36; have HBn := Lib.hid (below_step (by repeat (first | (with_reducible exact HB.out) | apply below_alloc | apply pw_below_drewN | apply below_drew1 | exact HB.out)) hb); clear hb HB; have HB := HBn; clear HBn)
      | (go_at_call 18; (with_reducible refine Calls.mono (HSKA.out _ _ _ _ _ (K367.out.below (Below.refl _ _)) (K37.out.below (Below.refl _ _))) ?_); rintro e y8 ⟨rfl, k38, rfl⟩; have hb := pw_below_drewN (Below.refl y7.heap.size y7) k38; clear K367 K37; have HBn := Lib.hid (below_step (by repeat (first | (with_reducible exact HB.out) | apply below_alloc | apply pw_below_drewN | apply below_drew1 | exact HB.out)) hb); clear hb HB; have HB := HBn; clear HBn)
      | (go_at_call 19; (with_reducible refine Calls.mono (HTAB.out _ _ u (HU22.out.below (by repeat (first | (with_reducible exact HB.out) | apply below_alloc | apply pw_below_drewN | apply below_drew1 | exact HB.out)))) ?_); rintro e z5 ⟨A45, c45, rfl, hk, hb⟩; have K45 := Lib.hid hk; clear hk; have HBn := Lib.hid (below_step (by repeat (first | (with_reducible exact HB.out) | apply below_alloc | apply pw_below_drewN | apply below_drew1 | exact HB.out)) hb); clear hb HB; have HB := HBn; clear HBn)
      | (go_at_call 20; (with_reducible refine Calls.mono (HOFB.out A20 c20 _ (OY.out.below (by repeat (first | (with_reducible exact HB.out) | apply below_alloc | apply pw_below_drewN | apply below_drew1 | exact HB.out)))) ?_); rintro e z6 ⟨p46, rfl, hk, hb⟩; have R46 := Lib.hid hk; have K46 := Lib.hid (K45.out.below (below_step (Below.refl _ _) hb)); clear hk K45; have HBn := Lib.hid (below_step (by repeat (first | (with_reducible exact HB.out) | apply below_alloc | apply pw_below_drewN | apply below_drew1 | exact HB.out)) hb); clear hb HB; have HB := HBn; clear HBn)
      | (go_at_call 21; (with_reducible refine Calls.mono (HRAB.out _ p46 R46.out) ?_); rintro e z7 ⟨A47, c47, rfl, hk, hb⟩; have K47 := Lib.hid hk; have K467 := Lib.hid (K46.out.below (below_step (Below.refl _ _) hb)); clear hk K46 R46; have HBn := Lib.hid (below_step (by repeat (first | (with_reducible exact HB.out) | apply below_alloc | apply pw_below_drewN | apply below_drew1 | exact HB.out)) hb); clear hb HB; have HB := HBn; clear HBn)
      | (go_at_call 18; (with_reducible refine Calls.mono (HSKB.out _ _ _ _ _ (K467.out.below (Below.refl _ _)) (K47.out.below (Below.refl _ _))) ?_); rintro e z8 ⟨rfl, k48, rfl⟩; have hb := pw_below_drewN (Below.refl z7.heap.size z7) k48; clear K467 K47; have HBn := Lib.hid (below_step (by repeat (first | (with_reducible exact HB.out) | apply below_alloc | apply pw_below_drewN | apply below_drew1 | exact HB.out)) hb); clear hb HB; have HB := HBn; clear HBn)
      | (fail "no arm"))
  go_wp2
  go_ret
  exact ⟨by simp, below_step H22.out.bel (by repeat (first | (with_reducible exact HB.out) | apply below_alloc | apply pw_below_drewN | apply below_drew1 | exact HB.out))⟩
set_option maxRecDepth 100000 in
theorem clones_full (A1 : Option Addr) (n1 cc1 : Nat) (A2 : Option Addr) (n2 cc2 : Nat) (Ab : Option Addr) (nb cb : Nat) (top : Int) (w : World) (X : List OpR) (h24 : n1 ≤ 24) (h8 : n2 ≤ 8) (h8' : nb ≤ 8) (htop : 0 ≤ top ∧ top < 256) (hx : X.length ≤ 24) (hsx : ∀ o ∈ X, o.name.size ≤ 9223372036854775807) (hp : putR top [] X = ⟨0, [], 6, []⟩) (hT : Tabs w)
    (h1 : ∀ W : World, Below w.heap.size w W → Calls Tryz.prog 24 #[.slice A1 n1 cc1] W fun e w' => ∃ A c, e = .returned (.slice A X.length c) ∧ OpsAt w' A X.length X ∧ Below W.heap.size W w') :
    Calls Tryz.prog 6 #[.slice A1 n1 cc1, .slice A2 n2 cc2, .slice Ab nb cb, .int .u8 top] w fun e w' => e = .returned (.bool true) ∧ Below w.heap.size w w' := by
  have p1 := put_c (w := w) hp (log0 htop.1) hsx hT (by simp; omega) (by omega)
  have HP1 := Lib.hid p1
  have H1 := Lib.hid h1
  have HT := Lib.hid hT
  have H0 := Lib.hid htop.1
  have HB := Lib.hid (Below.refl w.heap.size w)
  clear p1 h1 hT hsx hp hx
  go_enter Tryz.func6, Tryz.ntmps6
  go_wp2_with (first
    | (go_at_call 7; (with_reducible refine Calls.mono (awake_calls _ HT.out) ?_); rintro e w1 ⟨rfl, hb⟩; have HBn := Lib.hid (below_step (by repeat (first | (with_reducible exact HB.out) | apply below_alloc | apply pw_below_drewN | apply below_drew1 | exact HB.out)) hb); clear hb HB; have HB := HBn; clear HBn) | (go_at_call 8; (with_reducible refine Calls.mono (log_new _ _ H0.out) ?_); rintro e w2 ⟨p, F, rfl, hlog, hF, hb⟩; have HL := Lib.hid hlog; have HF := Lib.hid (fun b hb' => Nat.le_trans HB.out.size (hF b hb')); clear hlog hF; have HBn := Lib.hid (below_step (by repeat (first | (with_reducible exact HB.out) | apply below_alloc | apply pw_below_drewN | apply below_drew1 | exact HB.out)) hb); clear hb HB; have HB := HBn; clear HBn) | (go_at_call 24; (with_reducible refine Calls.mono (H1.out _ HB.out) ?_); rintro e w3 ⟨A3, c3, rfl, hr, hb⟩; have HR3 := Lib.hid hr; have HL3 := Lib.hid (HL.out.below hb); clear HL hr; have HBn := Lib.hid (below_step (by repeat (first | (with_reducible exact HB.out) | apply below_alloc | apply pw_below_drewN | apply below_drew1 | exact HB.out)) hb); clear hb HB; have HB := HBn; clear HBn) | (go_at_call 10; (with_reducible refine Calls.mono (HP1.out _ F p A3 c3 HL3.out HR3.out HB.out HF.out) ?_); rintro e w4 ⟨A4, c4, F4, rfl, hlog, hF0, hF, ht, hb⟩; have HL4 := Lib.hid hlog; have HF4 := Lib.hid hF; have HBn := Lib.hid hb; clear HL3 HF HR3 hlog hF0 hF ht hb HB; have HB := HBn; clear HBn)
    | (fail "no arm"))
  all_goals (go_ret; exact ⟨by simp, HB.out⟩)
set_option maxRecDepth 100000 in
theorem clones_far (A1 : Option Addr) (n1 cc1 : Nat) (A2 : Option Addr) (n2 cc2 : Nat) (Ab : Option Addr) (nb cb : Nat) (top : Int) (w : World) (hT : Tabs w) (h : 24 < n1 ∨ (n1 ≤ 24 ∧ 8 < n2) ∨ (n1 ≤ 24 ∧ n2 ≤ 8 ∧ 8 < nb)) (hm1 : n1 ≤ 9223372036854775807) (hm2 : n2 ≤ 9223372036854775807) (hm3 : nb ≤ 9223372036854775807) :
    Calls Tryz.prog 6 #[.slice A1 n1 cc1, .slice A2 n2 cc2, .slice Ab nb cb, .int .u8 top] w fun e w' => e = .returned (.bool true) ∧ Below w.heap.size w w' := by
  have HT := Lib.hid hT
  have HB := Lib.hid (Below.refl w.heap.size w)
  clear hT
  rcases h with h | ⟨h, h'⟩ | ⟨h, h', h''⟩
  all_goals
    go_enter Tryz.func6, Tryz.ntmps6
    go_wp2_with (first
      | (go_at_call 7; (with_reducible refine Calls.mono (awake_calls _ HT.out) ?_); rintro e w1 ⟨rfl, hb⟩; have HBn := Lib.hid (below_step (by repeat (first | (with_reducible exact HB.out) | apply below_alloc | apply pw_below_drewN | apply below_drew1 | exact HB.out)) hb); clear hb HB; have HB := HBn; clear HBn)
      | (fail "no arm"))
    all_goals (go_ret; exact ⟨rfl, (by repeat (first | (with_reducible exact HB.out) | apply below_alloc | apply pw_below_drewN | apply below_drew1 | exact HB.out))⟩)
theorem allc (A : Option Addr) (n c : Nat) (ts : List TinyT) (w : World) (hr : TinysAt w A n ts) (hi : ∀ x ∈ ts, TinyIn x) (hn : n ≤ 1000) (W : World) (h : Below w.heap.size w W) :
    Calls Tryz.prog 24 #[.slice A n c] W fun e w' => ∃ A c, e = .returned (.slice A (ts.map ofT).length c) ∧ OpsAt w' A (ts.map ofT).length (ts.map ofT) ∧ Below W.heap.size W w' :=
  (all_calls A n c ts W (hr.below h) hi hn).mono fun e w' ⟨v, he, ho, hb⟩ => by
    obtain ⟨A', c', rfl, _, hr⟩ := OwnO.ops ho
    exact ⟨A', c', he, hr, hb⟩
end Go.Proofs.YtkmdmjlepmmejaaGreatDoor.Ol
namespace Go.Proofs.YtkmdmjlepmmejaaGreatDoor
open Go.RowKit Go.Proofs.YtkmdmjlepmmejaaGreatDoorW.PrintWords Ol Tr
theorem oplogClones_walk (A : Option Addr) (c : Nat) (ts : List TinyT) (B : Option Addr) (d : Nat) (us : List TinyT) (D : Option Addr) (e : Nat) (vs : List TinyT) (top : Int) (W : World) (h0 : ReadsRow (tinyKd.K W) 5 W A ts.length ts) (_ : ts.length ≤ c) (k0 : ts.length ≤ maxLen ∧ ∀ x ∈ ts, tinyOk x) (h1 : ReadsRow (tinyKd.K W) 5 W B us.length us) (_ : us.length ≤ d) (k1 : us.length ≤ maxLen ∧ ∀ x ∈ us, tinyOk x) (h2 : ReadsRow (tinyKd.K W) 5 W D vs.length vs) (_ : vs.length ≤ e) (k2 : vs.length ≤ maxLen ∧ ∀ x ∈ vs, tinyOk x) (w3 : (Lit.int .u8 top).wf = true) (hT : Tabs W) :
    Calls Tryz.prog 6 #[.slice A ts.length c, .slice B us.length d, .slice D vs.length e, .int .u8 top] W fun e w' => e = .returned (.bool true) ∧ Below W.heap.size W w' := by
  have ha := tinys_of_row h0
  have hb := tinys_of_row h1
  have hc := tinys_of_row h2
  have ht := byte_wf w3
  by_cases c1 : ts.length ≤ 24
  · by_cases c2 : us.length ≤ 8
    · by_cases c3 : vs.length ≤ 8
      · by_cases hf : top < (newOf [] (ts.map ofT)).length
        · exact clones_full A _ c B _ d D _ e top W (ts.map ofT) c1 c2 c3 ht (by rw [List.length_map]; exact c1) ofs_small (put_full (ofs_right ts) (by simpa using hf)) hT (fun V h => allc A _ c ts W ha (fun x h => tinyIn (k0.2 x h)) (by omega) V h)
        · exact clones_walk A _ c B _ d D _ e top W (ts.map ofT) (us.map ofT) (vs.map ofT) (joinO [] (ts.map ofT)) ((newOf [] (ts.map ofT)).length : Nat) (chgsO [] (joinO [] (ts.map ofT))) _ _ _ c1 c2 c3 ht (by rw [List.length_map]; exact c1) (by rw [List.length_map]; exact c2) (by rw [List.length_map]; exact c3) ofs_small ofs_small ofs_small (put_ok (ofs_right ts) (by simp; omega)) rfl rfl rfl hT (fun V h => allc A _ c ts W ha (fun x h => tinyIn (k0.2 x h)) (by omega) V h) (fun V h => allc B _ d us W hb (fun x h => tinyIn (k1.2 x h)) (by omega) V h) (fun V h => allc D _ e vs W hc (fun x h => tinyIn (k2.2 x h)) (by omega) V h)
      · exact clones_far A _ c B _ d D _ e top W hT (.inr (.inr ⟨c1, c2, by omega⟩)) ha.2.1 hb.2.1 hc.2.1
    · exact clones_far A _ c B _ d D _ e top W hT (.inr (.inl ⟨c1, by omega⟩)) ha.2.1 hb.2.1 hc.2.1
  · exact clones_far A _ c B _ d D _ e top W hT (.inl (by omega)) ha.2.1 hb.2.1 hc.2.1
end Go.Proofs.YtkmdmjlepmmejaaGreatDoor
/- The row and the card of the law OplogClones, out of its walk. -/
namespace Go.Proofs.YtkmdmjlepmmejaaGreatDoor.oplogClones
open Go.ChangeShapes Go.WideShapes Go.ChangeAt Go.RowKit Go.Lib
open Go.ChangeMaps (open_string shut_string)
open Go.Proofs.YtkmdmjlepmmejaaGreatDoorW.Open Go.Proofs.YtkmdmjlepmmejaaGreatDoorW.PrintWords
theorem own : ownKnob Tryz.prog.godebug = none := by kernel_rfl
theorem laidOut : laidOutB Tryz.prog = true := by kernel_rfl
theorem op0 : Opens Tryz.prog 53 (Kd.slice 58 tinyKd) (fun xs => xs.length ≤ maxLen ∧ ∀ x ∈ xs, tinyOk x) := Opens.slice Tryz.underlying53 (by kernel_rfl) tinyOpens
theorem op1 : Opens Tryz.prog 53 (Kd.slice 58 tinyKd) (fun xs => xs.length ≤ maxLen ∧ ∀ x ∈ xs, tinyOk x) := Opens.slice Tryz.underlying53 (by kernel_rfl) tinyOpens
theorem op2 : Opens Tryz.prog 53 (Kd.slice 58 tinyKd) (fun xs => xs.length ≤ maxLen ∧ ∀ x ∈ xs, tinyOk x) := Opens.slice Tryz.underlying53 (by kernel_rfl) tinyOpens
theorem witness_row (os : Os) {H : Type} (enc : TypeId × Value → H) :
    (OpenSpec.ofChange Rows.oplogClonesSpec).preRow enc Tryz.prog Tryz.f6 Rows.oplogClonesRow.domain false Rows.oplogClonesRow.laid ((laidWorld os).forCall (fun _ _ => 0) ⟨#[], #[.slice none 0 0, .slice none 0 0, .slice none 0 0, .int .u8 0], []⟩).memory #[.slice none 0 0, .slice none 0 0, .slice none 0 0, .int .u8 0] := by
  have hw : (DataW.whole enc Tryz.prog ((laidWorld os).forCall (fun _ _ => 0) ⟨#[], #[.slice none 0 0, .slice none 0 0, .slice none 0 0, .int .u8 0], []⟩).memory Tryz.f6.params.toList (OpenSpec.ofChange Rows.oplogClonesSpec).vars false (#[.slice none 0 0, .slice none 0 0, .slice none 0 0, .int .u8 0] : Array Value).toList 8).map (fun x => (x.1, x.2.1)) =
      some ([.nil, .nil, .nil, .lit (.int .u8 0)], []) := by kernel_rfl
  obtain ⟨⟨x1, x2, x3⟩, hx, hx1⟩ := Option.map_eq_some_iff.1 hw
  simp only [Prod.mk.injEq] at hx1
  obtain ⟨rfl, rfl⟩ := hx1
  exact OpenSpec.preRow_of_cond 8 hx (by kernel_rfl) (fun k hk => by cases hk) (by kernel_rfl) (laid_met os _)
set_option maxRecDepth 100000 in
set_option maxHeartbeats 2000000 in
theorem lifted (os : Os) (started : os.Started) (H : Type) (enc : TypeId × Value → H) (F : Stop.Interp) :
    ReturnsInHanded {} Tryz.checked os 6 .any ((OpenSpec.ofChange Rows.oplogClonesSpec).preRow enc Tryz.prog Tryz.f6 Rows.oplogClonesRow.domain false Rows.oplogClonesRow.laid) (((OpenSpec.ofChange Rows.oplogClonesSpec).at F).post enc Tryz.prog Tryz.f6 false true false false) := by
  refine returnsInHanded_of_row (C := Tryz.checked) (s := OpenSpec.ofChange Rows.oplogClonesSpec) own started (by kernel_rfl) Tryz.func6
    (witness_row_atRef (enc := enc) (C := Tryz.checked) false (laidWorld os) #[.slice none 0 0, .slice none 0 0, .slice none 0 0, .int .u8 0] rfl (by kernel_rfl) (by kernel_rfl) (by kernel_rfl) (witness_row os enc)) ?_
  intro W base args ds gs before hval0 hW _ _ _ hL _ _
  have hval : ∀ (j : Nat) t v, Tryz.f6.params[j]? = some t → args[j]? = some v → Value.okWide Tryz.prog W .any base t v := hval0
  have hW' := hW
  obtain ⟨p, q, hA0, hV, rfl, hfz, hnd⟩ := hW
  have hA : DataW.TrodAll enc Tryz.prog W 0 (fun _ => true) true Tryz.f6.params.toList args.toList ds p := hA0
  rw [Tryz.params6] at hA hval
  obtain ⟨v0, vs0, d0, ds0, p0, q0, hargs, rfl, rfl, h0, r0⟩ := trodAll_cons hA
  obtain ⟨v1, vs1, d1, ds1, p1, q1, rfl, rfl, rfl, h1, r1⟩ := trodAll_cons r0
  obtain ⟨v2, vs2, d2, ds2, p2, q2, rfl, rfl, rfl, h2, r2⟩ := trodAll_cons r1
  obtain ⟨v3, vs3, d3, ds3, p3, q3, rfl, rfl, rfl, h3, r3⟩ := trodAll_cons r2
  obtain ⟨rfl, rfl, rfl⟩ := trodAll_nil r3
  obtain rfl : args = #[v0, v1, v2, v3] := by cases args; simp_all
  obtain ⟨rfl, rfl⟩ := trodVars_none hV
  have k0 := h0
  have lt0 : ∀ x ∈ p0, x.block < W.heap.size := by obtain ⟨m, hm⟩ := k0; exact DataW.trod_lt m _ _ _ hm
  obtain ⟨a0, len0, cap0, rfl⟩ := okWide_slice Tryz.underlying53 (hval 0 53 v0 rfl rfl)
  obtain ⟨l0, hK0, ok0⟩ := Opens.arg op0 h0
  obtain ⟨A0, c0, e0, hc0, hr0⟩ := hK0
  simp only [Value.cells, List.cons.injEq, Value.slice.injEq, and_true] at e0
  obtain ⟨rfl, rfl, rfl⟩ := e0
  have k1 := h1
  have lt1 : ∀ x ∈ p1, x.block < W.heap.size := by obtain ⟨m, hm⟩ := k1; exact DataW.trod_lt m _ _ _ hm
  obtain ⟨a1, len1, cap1, rfl⟩ := okWide_slice Tryz.underlying53 (hval 1 53 v1 rfl rfl)
  obtain ⟨l1, hK1, ok1⟩ := Opens.arg op1 h1
  obtain ⟨A1, c1, e1, hc1, hr1⟩ := hK1
  simp only [Value.cells, List.cons.injEq, Value.slice.injEq, and_true] at e1
  obtain ⟨rfl, rfl, rfl⟩ := e1
  have k2 := h2
  have lt2 : ∀ x ∈ p2, x.block < W.heap.size := by obtain ⟨m, hm⟩ := k2; exact DataW.trod_lt m _ _ _ hm
  obtain ⟨a2, len2, cap2, rfl⟩ := okWide_slice Tryz.underlying53 (hval 2 53 v2 rfl rfl)
  obtain ⟨l2, hK2, ok2⟩ := Opens.arg op2 h2
  obtain ⟨A2, c2, e2, hc2, hr2⟩ := hK2
  simp only [Value.cells, List.cons.injEq, Value.slice.injEq, and_true] at e2
  obtain ⟨rfl, rfl, rfl⟩ := e2
  obtain ⟨a3, rfl, rfl, rfl, w3⟩ := open_int Tryz.underlying5 (hval 3 5 v3 rfl rfl) h3
  clear hA0 hval0
  have htab : Tabs W := tabs_of (Lib.laidMet.reads hL (.tail _ (.head _))) (Lib.laidMet.reads hL (.head _))
  refine (oplogClones_walk a0 cap0 l0 a1 cap1 l1 a2 cap2 l2 a3 W hr0 hc0 ok0 hr1 hc1 ok1 hr2 hc2 ok2 w3 htab).mono fun e W' ⟨he, bel⟩ => ?_
  subst he
  exact ⟨_, rfl, _, _, _, [], _, [], hW', trodAll_mk1 (shut_bool Tryz.underlying4 _), (trodAll_cons_mk (Below.trod laidOut (by kernel_rfl) (of_decide_eq_true (by kernel_rfl)) k0 bel lt0) (trodAll_cons_mk (Below.trod laidOut (by kernel_rfl) (of_decide_eq_true (by kernel_rfl)) k1 bel lt1) (trodAll_cons_mk (Below.trod laidOut (by kernel_rfl) (of_decide_eq_true (by kernel_rfl)) k2 bel lt2) (trodAll_cons_mk (shut_int Tryz.underlying5 w3) trodAll_mk0)))), rfl, bel.frame _, fun h => by cases h⟩
theorem row_holds : Rows.OplogClonesSaid :=
  OpenClaim.holds_of_cond 6 Tryz.f6 rfl rfl rfl rfl rfl rfl rfl ⟨rfl, rfl, rfl, rfl, rfl⟩ rfl rfl rfl rfl rfl (by kernel_rfl) Tryz.func6 (by kernel_rfl)
    (of_decide_eq_true (by kernel_rfl)) (by unfold Func.isWrapper; first | (rw [if_pos (by decide +kernel)]; kernel_rfl) | (rw [if_neg (by decide +kernel)]; exact ⟨rfl, rfl⟩))
    (fun os started H enc _ F0 => by rw [OpenClaim.pre_eq_preRow]; exact lifted os started H enc F0)
end Go.Proofs.YtkmdmjlepmmejaaGreatDoor.oplogClones
namespace Go.Proofs.YtkmdmjlepmmejaaGreatDoor
open Go
theorem oplogClones_holds : Rows.OplogClonesCardSaid :=
  Claim7.holds_tied_plain_at .later [] [.data, .pinned] true (true, "acf5eca2cb5093371479f917fe907b11aa1863b483ffc0a3005077727b692803") true
    oplogClones.row_holds (fun _ h => by cases h) (by kernel_rfl) (fun _ h => by cases h) oplogClones_row_tie rfl ⟨rfl, rfl⟩ (by kernel_rfl) rfl
    (fun f fn hf hfn => by
      obtain rfl : f = 6 := Option.some.inj ((show Tryz.prog.funcNamed "holt/holtlaw08.OplogClones" = some 6 by kernel_rfl).symm.trans hf) |>.symm
      obtain rfl : fn = Tryz.f6 := (Option.some.inj (Tryz.func6.symm.trans hfn)).symm
      exact ⟨by kernel_rfl, fun j t ht => by
        have hm : t ∈ Tryz.f6.params.toList := List.mem_of_getElem? (by rw [Array.getElem?_toList]; exact ht)
        rw [Tryz.params6] at hm
        have hall : (Tryz.f6.params.toList.all fun t => !Tryz.prog.wantsStandIn t) = true := by kernel_rfl
        rw [Tryz.params6] at hall
        have := List.all_eq_true.1 hall t hm
        have h2 : Tryz.prog.wantsStandIn t = false := by simpa using this
        exact h2⟩)
    (by kernel_rfl)
#print axioms oplogClones_holds
end Go.Proofs.YtkmdmjlepmmejaaGreatDoor
