/-
  The row and the card of the law OplogPlays, out of its walk.
-/
import Derived.Test.YtkmdmjlepmmejaaGreatDoorJOplogPlays1
import Derived.Test.YtkmdmjlepmmejaaGreatDoorWMore
import Derived.Deep.Cut
import Derived.Deep.RegionHeld3
import Derived.Test.YtkmdmjlepmmejaaGreatDoorRows
import Derived.Test.YtkmdmjlepmmejaaGreatDoorCards
import Derived.Test.YtkmdmjlepmmejaaGreatDoorTie
import Derived.WalkKit
import Derived.ProofKit
import Derived.OpenShut
import Derived.ShutString
import Derived.ChangeOld
import Derived.Below
import Derived.SizedLaws
import Derived.SevenTiedAt
import Derived.Deep.DeepHandedRow
import Derived.Deep.DeepWitnessRowRef
/- The reference's log: Changes. -/
namespace Go.Proofs.YtkmdmjlepmmejaaGreatDoor.Ol
open Go.RowKit Go.Sort Go.Proofs.YtkmdmjlepmmejaaGreatDoorW.PrintWords Tr
attribute [local go_sem] Oper.semAt_some
attribute [local go_sem high] eqSpot

/-- The least node above 'last', of the first i. -/
def Nx (all : List OpR) (last nx : Int) (i : Nat) : Prop :=
  (nx = -1 ∧ ∀ j (h : j < all.length), j < i → all[j].node ≤ last) ∨ ((∃ j, ∃ (h : j < all.length), nx = all[j].node) ∧ last < nx ∧ ∀ j (h : j < all.length), j < i → last < all[j].node → nx ≤ all[j].node)
theorem nx_skip {all : List OpR} {la nx : Int} {i : Nat} (h : Nx all la nx i) (hi : i < all.length) (hk : ¬ (la < all[i].node ∧ (nx < 0 ∨ all[i].node < nx))) (hpos : 0 ≤ all[i].node) : Nx all la nx (i + 1) := by
  rcases h with ⟨h1, h2⟩ | ⟨h1, h2, h3⟩
  · refine .inl ⟨h1, fun j hj hji => ?_⟩
    by_cases e : j = i
    · subst e
      apply Classical.byContradiction
      intro hh
      exact hk ⟨by omega, .inl (by omega)⟩
    · exact h2 j hj (by omega)
  · refine .inr ⟨h1, h2, fun j hj hji hl => ?_⟩
    by_cases e : j = i
    · subst e
      apply Classical.byContradiction
      intro hh
      exact hk ⟨hl, .inr (by omega)⟩
    · exact h3 j hj (by omega) hl
theorem nx_take {all : List OpR} {la nx : Int} {i : Nat} (h : Nx all la nx i) (hi : i < all.length) (hl : la < all[i].node) (hk : nx < 0 ∨ all[i].node < nx) (hnn : ∀ j (h : j < all.length), 0 ≤ all[j].node) : Nx all la all[i].node (i + 1) := by
  refine .inr ⟨⟨i, hi, rfl⟩, hl, fun j hj hji hlj => ?_⟩
  by_cases e : j = i
  · subst e; exact Int.le_refl _
  · rcases h with ⟨h1, h2⟩ | ⟨⟨j2, hj2, h1⟩, h2, h3⟩
    · have := h2 j hj (by omega); omega
    · have := h3 j hj (by omega) hlj
      have := hnn j2 hj2
      omega
theorem lt_of_cmp {a b : Int} (h : cmpI a b < 0) : a < b := by
  unfold cmpI at h
  split at h
  · assumption
  · split at h <;> omega
def lastN (ns : List Int) (m : Nat) : Int := if h : 0 < m ∧ m ≤ ns.length then ns[m - 1]'(by omega) else -1
theorem ns_lt {ns : List Int} (ha : Asc cmpI ns) {i j : Nat} (hi : i < ns.length) (hj : j < ns.length) (h : i < j) : ns[i] < ns[j] := lt_of_cmp (List.pairwise_iff_getElem.1 ha i j hi hj h)
theorem nx_none {all : List OpR} {m : Nat} (hm : m ≤ (nodesO all).length) (hpos : ∀ o ∈ all, 0 ≤ o.node) (h : ∀ j (h : j < all.length), all[j].node ≤ lastN (nodesO all) m) : m = (nodesO all).length := by
  apply Classical.byContradiction
  intro hne
  have hlt : m < (nodesO all).length := by omega
  obtain ⟨o, ho, e⟩ := mem_nodesO.1 (List.getElem_mem hlt)
  obtain ⟨j, hj, rfl⟩ := List.getElem_of_mem ho
  have h1 := h j hj
  have h2 := hpos _ ho
  unfold lastN at h1
  split at h1
  · rename_i hh
    have := ns_lt (nodesO_asc all) (i := m - 1) (j := m) (by omega) hlt (by omega)
    omega
  · omega
theorem nx_some {all : List OpR} {m : Nat} {nx : Int} (hm : m ≤ (nodesO all).length) (hpos : ∀ o ∈ all, 0 ≤ o.node) (hx : ∃ j, ∃ (h : j < all.length), nx = all[j].node) (hl : lastN (nodesO all) m < nx) (hmin : ∀ j (h : j < all.length), lastN (nodesO all) m < all[j].node → nx ≤ all[j].node) :
    ∃ h : m < (nodesO all).length, nx = (nodesO all)[m] := by
  obtain ⟨j, hj, rfl⟩ := hx
  obtain ⟨k, hk, e⟩ := List.getElem_of_mem (mem_nodesO.2 ⟨all[j], List.getElem_mem hj, rfl⟩)
  have hkm : m ≤ k := by
    apply Classical.byContradiction
    intro hlt
    have hl' := hl
    unfold lastN at hl'
    rw [dif_pos ⟨by omega, hm⟩, ← e] at hl'
    by_cases h : k = m - 1
    · subst h; omega
    · have := ns_lt (nodesO_asc all) (i := k) (j := m - 1) hk (by omega) (by omega)
      omega
  have hml : m < (nodesO all).length := by omega
  refine ⟨hml, ?_⟩
  obtain ⟨o, ho, e2⟩ := mem_nodesO.1 (List.getElem_mem hml)
  obtain ⟨j2, hj2, rfl⟩ := List.getElem_of_mem ho
  have hgt : lastN (nodesO all) m < all[j2].node := by
    rw [e2]
    unfold lastN
    split
    · exact ns_lt (nodesO_asc all) (by omega) hml (by omega)
    · have := hpos _ ho
      omega
  have h1 := hmin j2 hj2 hgt
  by_cases h : k = m
  · subst h; exact e.symm
  · have := ns_lt (nodesO_asc all) hml hk (show m < k by omega)
    omega
theorem last_next {ns : List Int} {m : Nat} (h : m < ns.length) : lastN ns (m + 1) = ns[m] := by
  unfold lastN
  rw [dif_pos ⟨by omega, by omega⟩]
  rfl
theorem chgs_next {t u : List KidR} {ns : List Int} {m : Nat} (h : m < ns.length) : chgsAt t u (ns.take (m + 1)) = chgsAt t u (ns.take m) ++ (if lookT t ns[m] = lookT u ns[m] then [] else [⟨ns[m], lookT t ns[m], lookT u ns[m]⟩]) := by
  unfold chgsAt
  rw [List.take_succ_eq_append_getElem h, List.filter_append, List.map_append]
  congr 1
  by_cases e : lookT t ns[m] = lookT u ns[m] <;> simp [e]
theorem chgs_le (t u : List KidR) (ns : List Int) : (chgsAt t u ns).length ≤ ns.length := by
  unfold chgsAt
  rw [List.length_map]
  exact List.length_filter_le _ _
set_option maxRecDepth 100000 in
set_option maxHeartbeats 4000000 in
theorem rchanges_calls (W : World) (Bo po : Nat) (t : List KidR) (ko : Nat) (Bn pn : Nat) (u : List KidR) (kn : Nat) (A : Option Addr) (n c : Nat) (all : List OpR) (Ht : RT W Bo po t ko) (Hu : RT W Bn pn u kn) (ht : t.length ≤ 1000000) (hu : u.length ≤ 1000000) (h : OpsAt W A n all) (hn : n ≤ 1000) (hr : ∀ o ∈ all, opRight o = true) :
    Calls Tryz.prog 39 #[.pointer (some ⟨po, 0, none⟩), .pointer (some ⟨pn, 0, none⟩), .slice A n c] W fun e w' => ∃ v, e = .returned v ∧ OwnRow (fun c xs => xs = chgC c) 76 7 w' W.heap.size v (chgsAt t u (nodesO all)) ∧ Below W.heap.size W w' := by
  have HT := Lib.hid (fun (V : World) (hV : Below W.heap.size W V) (x : Int) => rspot_calls V Bo po t ko x (Ht.below hV) ht)
  have HU := Lib.hid (fun (V : World) (hV : Below W.heap.size W V) (x : Int) => rspot_calls V Bn pn u kn x (Hu.below hV) hu)
  have HA := Lib.hid h
  have HL := Lib.hid h.1
  have hnode : ∀ o ∈ all, 256 ≤ o.node ∧ o.node ≤ 4294967295 := fun o ho => by
    have := hr o ho
    unfold opRight nodeR at this
    simp only [Bool.and_eq_true, decide_eq_true_eq] at this
    exact this.2.1
  have HN := Lib.hid hnode
  have hnl : (nodesO all).length ≤ 1000 := by
    unfold nodesO
    refine Nat.le_trans (cpt_length_leG _ _) ?_
    rw [srt_length, List.length_map, HL.out]
    exact hn
  clear Ht Hu h hr hnode
  go_enter Tryz.func39, Tryz.ntmps39
  go_wp2
  go_loopw [7, 8] (fun v7 v8 V => ∃ m : Nat, m ≤ (nodesO all).length ∧ v8 = .int .i64 (lastN (nodesO all) m) ∧ Hid (OwnRow (fun c xs => xs = chgC c) 76 7 V W.heap.size v7 (chgsAt t u ((nodesO all).take m))) ∧ Hid (Below W.heap.size W V)) (fun _ v8 _ => 5000000000 - (RowKit.intOf v8 + 1).toNat)
  case atStart => exact ⟨0, Nat.zero_le _, by simp [lastN], Lib.hid (OwnRow.none_ _ _ _ _ _), Lib.hid (Below.refl _ _)⟩
  case round =>
    obtain ⟨m, hm, rfl, HO, HB⟩ := hrel
    have hlr : -1 ≤ lastN (nodesO all) m ∧ lastN (nodesO all) m ≤ 4294967295 := by
      unfold lastN
      split
      · rename_i hh
        obtain ⟨o, ho, e⟩ := mem_nodesO.1 (List.getElem_mem (show m - 1 < (nodesO all).length by omega))
        have := HN.out o ho
        omega
      · omega
    have HNN := Lib.hid (fun h => nx_none hm (fun o ho => by have := HN.out o ho; omega) h)
    have HNS := Lib.hid (fun (nx : Int) h1 h2 h3 => nx_some (nx := nx) hm (fun o ho => by have := HN.out o ho; omega) h1 h2 h3)
    generalize hla : lastN (nodesO all) m = la at *
    clear hla
    go_wp2
    go_loopw [9, 10] (fun v9 v10 V => ∃ (i : Nat) (nx : Int), v9 = .int .i64 nx ∧ v10 = .int .i64 i ∧ i ≤ n ∧ Hid (Nx all la nx i) ∧ V = wr) (fun _ v10 _ => (n - (RowKit.intOf v10).toNat))
    case atStart => exact ⟨0, -1, rfl, rfl, by omega, Lib.hid (.inl ⟨rfl, fun j h hj => by omega⟩), rfl⟩
    case round =>
      obtain ⟨i, nx, rfl, rfl, hi, HX, rfl⟩ := hrel
      by_cases hlt : i < n
      · have hl : i < all.length := by rw [HL.out]; exact hlt
        obtain ⟨b, o, rfl, hcell⟩ := HA.out.2.2 (show 0 < n by omega)
        have m2 := ((hcell i hl).below HB.out).2.2.1
        have hnd := HN.out _ (List.getElem_mem hl)
        have HSK := Lib.hid (nx_skip HX.out hl)
        have HTK := Lib.hid (nx_take HX.out hl)
        have HPOS := Lib.hid (show ∀ j (h : j < all.length), 0 ≤ all[j].node from fun j h => by have := HN.out _ (List.getElem_mem h); omega)
        have hi1 : (0 : Int) ≤ (i : Int) := by omega
        have hi2 : (i : Int) < (n : Int) := by omega
        generalize all[i].node = nd at *
        clear hcell
        by_cases hla : la < nd
        · by_cases hn0 : nx < 0
          · have HX2 := Lib.hid (HTK.out hla (.inl hn0) HPOS.out)
            go_wp2
            go_roundw
            case rel => exact ⟨i + 1, nd, rfl, by go_num, by omega, HX2, by trivial⟩
            case measure => simp [RowKit.intOf] <;> omega
          · by_cases hn1 : nd < nx
            · have HX2 := Lib.hid (HTK.out hla (.inr hn1) HPOS.out)
              go_wp2
              go_roundw
              case rel => exact ⟨i + 1, nd, rfl, by go_num, by omega, HX2, by trivial⟩
              case measure => simp [RowKit.intOf] <;> omega
            · have HX2 := Lib.hid (HSK.out (fun h => h.2.elim hn0 hn1) (by omega))
              go_wp2
              go_roundw
              case rel => exact ⟨i + 1, nx, rfl, by go_num, by omega, HX2, by trivial⟩
              case measure => simp [RowKit.intOf] <;> omega
        · have HX2 := Lib.hid (HSK.out (fun h => hla h.1) (by omega))
          go_wp2
          go_roundw
          case rel => exact ⟨i + 1, nx, rfl, by go_num, by omega, HX2, by trivial⟩
          case measure => simp [RowKit.intOf] <;> omega
      · obtain rfl : i = n := by omega
        rcases HX.out with ⟨rfl, hx2⟩ | ⟨hx1, hx2, hx3⟩
        · have hme := HNN.out (fun j hj => hx2 j hj (by rw [← HL.out]; exact hj))
          subst hme
          have hO := HO.out
          rw [List.take_of_length_le (Nat.le_refl _)] at hO
          have HO2 := Lib.hid hO
          clear hO hx2 HO
          go_wp2
          go_ret
          exact ⟨_, rfl, HO2.out, HB.out⟩
        · obtain ⟨hml, hxe⟩ := HNS.out nx hx1 hx2 (fun j hj h => hx3 j hj (by rw [← HL.out]; exact hj) h)
          have hnr : 256 ≤ nx ∧ nx ≤ 4294967295 := by
            obtain ⟨j, hj, e⟩ := hx1
            have := HN.out _ (List.getElem_mem hj)
            omega
          have HNX := Lib.hid (chgs_next (t := t) (u := u) hml)
          have HLA := Lib.hid (last_next hml)
          have hcl := chgs_le t u ((nodesO all).take m)
          rw [List.length_take] at hcl
          rw [← hxe] at HNX HLA
          obtain ⟨i1, t1, n1, e1, f1⟩ := osV_cells (lookT t nx)
          obtain ⟨i2, t2, n2, e2, f2⟩ := osV_cells (lookT u nx)
          have heq := eqSpot_iff f1 f2
          have HTX := Lib.hid (fun V hV => HT.out V hV nx)
          have HUX := Lib.hid (fun V hV => HU.out V hV nx)
          rw [e1] at HTX
          rw [e2] at HUX
          have HCC := Lib.hid (show [Value.int .i64 nx, .bool i1, .int .i64 t1, .string n1, .bool i2, .int .i64 t2, .string n2] = chgC ⟨nx, lookT t nx, lookT u nx⟩ by simp [chgC, f1, f2])
          have HGT := Lib.hid hx2
          clear hx1 hx2 hx3 hxe HX HNN HNS
          have hn0 : ¬ nx < 0 := by omega
          by_cases hsame : lookT t nx = lookT u nx
          · rw [decide_eq_true hsame] at heq
            rw [if_pos hsame, List.append_nil] at HNX
            clear f1 f2 e1 e2 HCC hsame
            go_wp2_with (first
            | (go_at_call 66; (with_reducible refine Calls.mono (HTX.out _ HB.out) ?_); rintro e w3 ⟨rfl, hb⟩; have HB3 := Lib.hid (below_step HB.out hb); have HO3 := Lib.hid (OwnRow.below HO.out hb); clear hb)
            | (go_at_call 66; (with_reducible refine Calls.mono (HUX.out _ (below_alloc HB3.out _)) ?_); rintro e w4 ⟨rfl, hb⟩; have s0 : w4.cell? ⟨w3.heap.size, 0, none⟩ = some (.bool i1) := pw_cell_below hb (by go_cell); have s1 : w4.cell? ⟨w3.heap.size, 1, none⟩ = some (.int .i64 t1) := pw_cell_below hb (by go_cell); have s2 : w4.cell? ⟨w3.heap.size, 2, none⟩ = some (.string n1) := pw_cell_below hb (by go_cell); have hlt34 : w3.heap.size < w4.heap.size := cell_lt s0; have HB4 := Lib.hid (below_step (below_alloc HB3.out _) hb); have HO4 := Lib.hid (OwnRow.below HO3.out (below_step (below_alloc (Below.refl _ _) _) hb)); clear hb)
            | (fail "no arm"))
            go_roundw
            case rel => exact ⟨m + 1, by omega, by rw [HLA.out], Lib.hid (by rw [HNX.out]; exact OwnRow.below HO4.out (below_alloc (Below.refl _ _) _)), Lib.hid (below_alloc HB4.out _)⟩
            case measure => have := HGT.out; simp [RowKit.intOf]; omega
          · rw [decide_eq_false hsame] at heq
            rw [if_neg hsame] at HNX
            clear f1 f2 e1 e2 hsame
            go_wp2_with (first
            | (go_at_call 66; (with_reducible refine Calls.mono (HTX.out _ HB.out) ?_); rintro e w3 ⟨rfl, hb⟩; have HB3 := Lib.hid (below_step HB.out hb); have HO3 := Lib.hid (OwnRow.below HO.out hb); clear hb)
            | (go_at_call 66; (with_reducible refine Calls.mono (HUX.out _ (below_alloc HB3.out _)) ?_); rintro e w4 ⟨rfl, hb⟩; have s0 : w4.cell? ⟨w3.heap.size, 0, none⟩ = some (.bool i1) := pw_cell_below hb (by go_cell); have s1 : w4.cell? ⟨w3.heap.size, 1, none⟩ = some (.int .i64 t1) := pw_cell_below hb (by go_cell); have s2 : w4.cell? ⟨w3.heap.size, 2, none⟩ = some (.string n1) := pw_cell_below hb (by go_cell); have hlt34 : w3.heap.size < w4.heap.size := cell_lt s0; have HB4 := Lib.hid (below_step (below_alloc HB3.out _) hb); have HO4 := Lib.hid (OwnRow.below HO3.out (below_step (below_alloc (Below.refl _ _) _) hb)); clear hb)
            | (at_builtin; ((refine OwnRow.append (R := fun c xs => xs = chgC c) (w0 := W) W.heap.size rfl (.tmp 50) (.tmp 55) 31 76 _ 7 72 rfl Tryz.underlying31 chgInfo rfl (by decide) (by decide) _ (chgsAt t u ((nodesO all).take m)) ⟨nx, lookT t nx, lookT u nx⟩ [.int .i64 nx, .bool i1, .int .i64 t1, .string n1, .bool i2, .int .i64 t2, .string n2] (by rfl) (by simp [Act.eval]) HCC.out rfl (by simp [Value.oneCell']) (OwnRow.below HO4.out (below_alloc (Below.refl _ _) _)) (below_alloc HB4.out _) (by have := HB4.out.size; simp; omega) (by omega) ?_); intro v5 w5 ho hb hg hat; have HO5 := Lib.hid ho; have HB5 := Lib.hid hb; clear ho hb hg hat))
            | (fail "no arm"))
            go_roundw
            case rel => exact ⟨m + 1, by omega, by rw [HLA.out], Lib.hid (by rw [HNX.out]; exact HO5.out), HB5⟩
            case measure => have := HGT.out; simp [RowKit.intOf]; omega
end Go.Proofs.YtkmdmjlepmmejaaGreatDoor.Ol
/- The reference's log: Put. -/
namespace Go.Proofs.YtkmdmjlepmmejaaGreatDoor.Ol
open Go.RowKit Go.Sort Go.Proofs.YtkmdmjlepmmejaaGreatDoorW.PrintWords Tr

/-- The reference's log in memory. -/
structure RL (W : World) (p : Nat) (most : Int) (A : Option Addr) (c : Nat) (l : List OpR) : Prop where
  hp : W.heap[p]? = some (.cells #[.int .i64 most, .slice A l.length c] 29 (0, 0))
  ops : OpsAt W A l.length l
theorem RL.below {W W' : World} {p : Nat} {most : Int} {A : Option Addr} {c : Nat} {l : List OpR} (h : RL W p most A c l) (hb : Below W.heap.size W W') : RL W' p most A c l := ⟨blk_below h.hp hb, h.ops.below hb⟩
theorem join_step {l ops : List OpR} (hl : AscO l) {i : Nat} (hi : i < ops.length) : joinO l (ops.take (i + 1)) = joinO (joinO l (ops.take i)) [ops[i]] :=
  asc_ext opOrd (joinO_asc hl _) (joinO_asc (joinO_asc hl _) _) fun x => by
    simp only [mem_joinO, List.mem_singleton]
    rw [List.take_succ_eq_append_getElem hi, List.mem_append, List.mem_singleton, or_assoc]
theorem join_all_nil {l : List OpR} (hl : AscO l) : joinO l [] = l := joinO_nil hl (newOf_none fun o h => by simp at h)
theorem ops_set {W : World} {A : Option Addr} {n : Nat} {l : List OpR} (h : OpsAt W A n l) {p : Nat} {x y : Value} {T : TypeId} (hp : W.heap[p]? = some (.cells #[x, y] T (0, 0))) (j : Nat) (v : Value) : OpsAt (W.setCell ⟨p, j, none⟩ v) A n l := by
  refine ⟨h.1, h.2.1, fun hn => ?_⟩
  obtain ⟨b, o, e, hc⟩ := h.2.2 hn
  refine ⟨b, o, e, fun i hi => ?_⟩
  have hne : b ≠ p := by
    rintro rfl
    have := (hc i hi).2.2.2.2
    rw [blk_cell hp] at this
    simp at this
  have hk : ∀ q u, W.cell? ⟨b, q, none⟩ = some u → (W.setCell ⟨p, j, none⟩ v).cell? ⟨b, q, none⟩ = some u := fun q u hq => (World.cell?_of_block (a := ⟨b, q, none⟩) (Below.heap_setCell W ⟨p, j, none⟩ v b hne)).trans hq
  exact ⟨hk _ _ (hc i hi).1, hk _ _ (hc i hi).2.1, hk _ _ (hc i hi).2.2.1, hk _ _ (hc i hi).2.2.2.1, hk _ _ (hc i hi).2.2.2.2⟩
theorem RT.set_ {W : World} {B q : Nat} {t : List KidR} {k : Nat} (h : RT W B q t k) {p : Nat} (hp : p < B) (j : Nat) (v : Value) : RT (W.setCell ⟨p, j, none⟩ v) B q t k := by
  obtain ⟨A, c, vw, ws, h1, h2, h3, h4⟩ := h
  refine ⟨A, c, vw, ws, (Below.heap_setCell W ⟨p, j, none⟩ v q (by show q ≠ p; omega)).trans h1, ?_, own_move h3 (fun b hb => Below.heap_setCell W ⟨p, j, none⟩ v b (by have := own_base h3 b hb; show b ≠ p; omega)), h4⟩
  obtain ⟨inner, hrow, hr⟩ := h2
  exact ⟨inner, own_move hrow (fun b hb => Below.heap_setCell W ⟨p, j, none⟩ v b (by have := own_base hrow b hb; show b ≠ p; omega)), hr⟩
set_option maxRecDepth 100000 in
set_option maxHeartbeats 4000000 in
theorem rput_callsX (W : World) (p : Nat) (most : Int) (A : Option Addr) (c : Nat) (l ops : List OpR) (Ao : Option Addr) (n co : Nat) (H : RL W p most A c l) (hok : LogOk most l) (ho : OpsAt W Ao n ops) (hs : ∀ o ∈ ops, o.name.size ≤ 9223372036854775807) (hl : l.length ≤ 500) (hn : n ≤ 400) (hmost : most ≤ 1000000) :
    Calls Tryz.prog 11 #[.pointer (some ⟨p, 0, none⟩), .slice Ao n co] W fun e w' => ∃ vc A' c', e = .returned (.tuple #[.int .i64 (putR most l ops).n, vc, .int .i64 (putR most l ops).e]) ∧ OwnRow (fun c xs => xs = chgC c) 76 7 w' W.heap.size vc (putR most l ops).chgs ∧ RL w' p most A' c' (putR most l ops).l ∧ Tr.Touch (fun b => b = p) W w' ∧ Orig W.heap.size w' A A' := by
  have HA := Lib.hid ho
  have HL := Lib.hid ho.1
  have HH := Lib.hid H
  have HOK := Lib.hid hok
  have HSZ := Lib.hid hs
  have c0 := blk_cell H.hp 0
  have c1 := blk_cell H.hp 1
  simp at c0 c1
  have hlt := blk_lt H.hp
  clear ho H hok hs
  go_enter Tryz.func11, Tryz.ntmps11
  go_wp2
  go_loopw [8] (fun vi V => ∃ i : Nat, vi = .int .i64 i ∧ i ≤ n ∧ Hid (∀ x ∈ ops.take i, opRight x = true) ∧ Hid (Below W.heap.size W V)) (fun vi _ => (n - (RowKit.intOf vi).toNat))
  case atStart => exact ⟨0, rfl, by omega, Lib.hid (by simp), Lib.hid (Below.refl _ _)⟩
  case round =>
    obtain ⟨i, rfl, hi, HRT, HB⟩ := hrel
    by_cases hlt2 : i < n
    · have hio : i < ops.length := by rw [HL.out]; exact hlt2
      obtain ⟨b, o, rfl, hcell⟩ := HA.out.2.2 (show 0 < n by omega)
      obtain ⟨m0, m1, m2, m3, m4⟩ := (hcell i hio).below HB.out
      have HR := Lib.hid (fun V => refright_calls ops[i] V (HSZ.out _ (List.getElem_mem hio)))
      have HSN := Lib.hid (show opRight ops[i] = true → ∀ x ∈ ops.take (i + 1), opRight x = true from fun h x hx => by
        rw [List.take_succ_eq_append_getElem hio, List.mem_append, List.mem_singleton] at hx
        exact hx.elim (HRT.out x) (fun e => e ▸ h))
      have HNO := Lib.hid (show opRight ops[i] = false → putR most l ops = ⟨0, [], 1, l⟩ from fun h => by
        unfold putR
        rw [if_neg (fun hh => by rw [List.all_eq_true.1 hh _ (List.getElem_mem hio)] at h; cases h)])
      have hi1 : (0 : Int) ≤ (i : Int) := by omega
      have hi2 : (i : Int) < (n : Int) := by omega
      generalize ops[i] = q at *
      simp only [opV] at HR
      clear hcell
      cases hq : opRight q with
      | false =>
        have HP := Lib.hid (HNO.out hq)
        rw [hq] at HR
        clear hq
        go_wp2_with (first
          | (go_at_call 37; (refine (HR.out _).mono ?_); rintro e w3 ⟨rfl, hb⟩; have HB3 := Lib.hid (below_step HB.out hb); clear hb m0 m1 m2 m3 m4)
          | (fail "no arm"))
        refine bodyPost_ret (results_tmp3 rfl _ _ _) rfl ?_
        rw [HP.out]
        exact ⟨_, _, _, rfl, OwnRow.none_ _ _ _ _ _, HH.out.below HB3.out, Tr.Touch.below HB3.out, .inl rfl⟩
      | true =>
        have HS2 := Lib.hid (HSN.out hq)
        rw [hq] at HR
        clear hq
        go_wp2_with (first
          | (go_at_call 37; (refine (HR.out _).mono ?_); rintro e w3 ⟨rfl, hb⟩; have HB3 := Lib.hid (below_step HB.out hb); clear hb m0 m1 m2 m3 m4)
          | (fail "no arm"))
        go_roundw
        case rel => exact ⟨i + 1, by go_num, by omega, HS2, HB3⟩
        case measure => simp [RowKit.intOf] <;> omega
    · obtain rfl : i = n := by omega
      have hall : ops.all opRight = true := by
        have := HRT.out
        rw [List.take_of_length_le (by rw [HL.out]; exact Nat.le_refl _)] at this
        exact List.all_eq_true.2 this
      have HALL := Lib.hid hall
      have HJN := Lib.hid (join_all_nil HOK.out.asc)
      have g0 := pw_cell_below HB.out c0
      have g1 := pw_cell_below HB.out c1
      have HB0 := HB
      clear HRT hall HB
      go_wp2
      go_loopw [7, 10] (fun v7 v10 V => ∃ (j m c7 : Nat) (A7 : Option Addr), v7 = .slice A7 m c7 ∧ v10 = .int .i64 j ∧ j ≤ i ∧ Hid (m = (joinO l (ops.take j)).length) ∧ Hid (OpsAt V A7 m (joinO l (ops.take j))) ∧ Hid (Orig W.heap.size V A A7) ∧ Hid (Below W.heap.size W V)) (fun _ v10 _ => (i - (RowKit.intOf v10).toNat))
      case atStart => exact ⟨0, _, _, _, rfl, rfl, by omega, Lib.hid (by rw [List.take_zero, HJN.out]), Lib.hid (by rw [List.take_zero, HJN.out]; exact HH.out.ops.below HB0.out), Lib.hid (.inl rfl), HB0⟩
      case round =>
        obtain ⟨j, m, c7, A7, rfl, rfl, hj, HM, HO7, HG7, HB⟩ := hrel
        have hjl : (joinO l (ops.take j)).length ≤ 900 := by
          rw [joinO_length]
          have := newOf_length l (ops.take j)
          rw [List.length_take] at this
          omega
        have hm9 : m ≤ 900 := by rw [HM.out]; exact hjl
        by_cases hlt3 : j < i
        · have hjo : j < ops.length := by rw [HL.out]; exact hlt3
          obtain ⟨b, o, rfl, hcell⟩ := HA.out.2.2 (show 0 < i by omega)
          obtain ⟨m0, m1, m2, m3, m4⟩ := (hcell j hjo).below HB.out
          have HW := Lib.hid (rwith_callsX A7 m c7 (joinO l (ops.take j)) ops[j] wr HO7.out (joinO_asc HOK.out.asc _) (by omega))
          rw [← join_step HOK.out.asc hjo] at HW
          have hj1 : (0 : Int) ≤ (j : Int) := by omega
          have hj2 : (j : Int) < (i : Int) := by omega
          generalize ops[j] = q at *
          simp only [opV] at HW
          clear hcell
          go_wp2_with (first
            | (go_at_call 38; (refine HW.out.mono ?_); rintro e w4 ⟨A8, c8, rfl, ho, hb, hg⟩; have HO8 := Lib.hid ho; have HB8 := Lib.hid (below_step HB.out hb); have HG8 := Lib.hid (HG7.out.step hg HB.out.size hb.size); clear ho hb hg m0 m1 m2 m3 m4)
            | (fail "no arm"))
          go_roundw
          case rel => exact ⟨j + 1, _, c8, A8, rfl, by go_num, by omega, Lib.hid rfl, HO8, HG8, HB8⟩
          case measure => simp [RowKit.intOf] <;> omega
        · obtain rfl : j = i := by omega
          have htk : ops.take j = ops := List.take_of_length_le (by rw [HL.out]; exact Nat.le_refl _)
          have hm := HM.out
          have ho7 := HO7.out
          rw [htk] at hm ho7
          have hjn := joinO_length l ops
          have hok2 := HOK.out.len
          have g0 := pw_cell_below HB.out c0
          have g1 := pw_cell_below HB.out c1
          have HO9 := Lib.hid ho7
          have hltw : p < wr.heap.size := cell_lt g0
          clear HM HO7 htk ho7
          by_cases hfull : most < (m : Int)
          · have HP := Lib.hid (put_full HALL.out (show most < (l.length : Int) + (newOf l ops).length by omega))
            have hgt : (l.length : Int) < (m : Int) := by omega
            clear hm hjn
            go_wp2
            refine bodyPost_ret (results_tmp3 rfl _ _ _) rfl ?_
            rw [HP.out]
            exact ⟨_, _, _, rfl, OwnRow.none_ _ _ _ _ _, HH.out.below HB.out, Tr.Touch.below HB.out, .inl rfl⟩
          · have HP := Lib.hid (put_ok HALL.out (show (l.length : Int) + (newOf l ops).length ≤ most by omega))
            have hnew : ((newOf l ops).length : Int) = (m : Int) - (l.length : Int) := by omega
            rw [hnew] at HP
            have hrj : ∀ o ∈ joinO l ops, opRight o = true := fun o ho => (mem_joinO.1 ho).elim (HOK.out.right o) (List.all_eq_true.1 HALL.out o)
            have HO1 := Lib.hid (rof_calls A l.length c l wr (HH.out.ops.below HB.out) (by omega) HOK.out.right)
            have HO2 := Lib.hid (fun V (hV : Below wr.heap.size wr V) => rof_calls A7 m c7 (joinO l ops) V (HO9.out.below hV) (by omega) hrj)
            have HMJ := Lib.hid hm
            have HRJ := Lib.hid hrj
            clear hm hjn hnew hrj
            have HBW := HB
            clear HB
            have hll : (treeO l).length ≤ 1000000 := Nat.le_trans (length_treeO l) (by omega)
            have hlj : (treeO (joinO l ops)).length ≤ 1000000 := Nat.le_trans (length_treeO _) (by rw [← HMJ.out]; omega)
            go_wp2_with (first
              | (go_at_call 20; (with_reducible refine Calls.mono HO1.out ?_); rintro e w4 ⟨p1, rfl, ht, hb⟩; have HT4 := Lib.hid ht; have HB4 := Lib.hid hb; have g2 := pw_cell_below hb g0; have g3 := pw_cell_below hb g1; clear HO1 ht hb)
              | (go_at_call 20; (with_reducible refine Calls.mono (HO2.out _ HB4.out) ?_); rintro e w5 ⟨p2, rfl, ht, hb⟩; have HT5 := Lib.hid ht; have HT4b := Lib.hid (HT4.out.below hb); have HB5 := Lib.hid (below_step HB4.out hb); have HP5 := Lib.hid (HH.out.below (below_step HBW.out HB5.out)).hp; have z5 := blk_frozen HP5.out 1; have y5 := blk_cell HP5.out 1; simp at y5; have hlt5 : p < w5.heap.size := blk_lt HP5.out; have HS4 := Lib.hid HB4.out.size; clear HT4 ht hb g2 g3)
              | (go_at_call 39; (with_reducible refine Calls.mono (rchanges_calls (w5.setCell ⟨p, 1, none⟩ (.slice A7 m c7)) wr.heap.size p1 (treeO l) l.length w4.heap.size p2 (treeO (joinO l ops)) m A7 m c7 (joinO l ops) (HT4b.out.set_ hltw _ _) (HT5.out.set_ (Nat.lt_of_lt_of_le hltw HS4.out) _ _) hll hlj (ops_set (HO9.out.below HB5.out) HP5.out _ _) (by omega) HRJ.out) ?_); rintro e w6 ⟨v6, rfl, ho, hb⟩; have HO6 := Lib.hid ho; have HB6 := Lib.hid hb; clear ho hb)
              | (fail "no arm"))
            refine bodyPost_ret (results_tmp3 rfl _ _ _) rfl ?_
            rw [HP.out]
            have hZ : Below W.heap.size W w5 := below_step HBW.out HB5.out
            refine ⟨v6, A7, c7, rfl, OwnRow.lower HO6.out (by have := hZ.size; simpa using this), ⟨blk_below (blk_put HP5.out 1 _ (by simp [HMJ.out])) HB6.out, ?_⟩, ?_, HG7.out.grow (Nat.le_trans HB5.out.size (by have := HB6.out.size; simpa using this))⟩
            · have := (ops_set (HO9.out.below HB5.out) HP5.out 1 (.slice A7 m c7)).below HB6.out
              rw [HMJ.out] at this ⊢
              exact this
            · exact ((Tr.Touch.below hZ).trans (Tr.Touch.set_ (F := fun b => b = p) rfl 1 _) (fun b _ e => e)).trans (Tr.Touch.below (F := fun _ => False) HB6.out) (fun _ _ e => e.elim)
theorem rput_calls (W : World) (p : Nat) (most : Int) (A : Option Addr) (c : Nat) (l ops : List OpR) (Ao : Option Addr) (n co : Nat) (H : RL W p most A c l) (hok : LogOk most l) (ho : OpsAt W Ao n ops) (hs : ∀ o ∈ ops, o.name.size ≤ 9223372036854775807) (hl : l.length ≤ 500) (hn : n ≤ 400) (hmost : most ≤ 1000000) :
    Calls Tryz.prog 11 #[.pointer (some ⟨p, 0, none⟩), .slice Ao n co] W fun e w' => ∃ vc A' c', e = .returned (.tuple #[.int .i64 (putR most l ops).n, vc, .int .i64 (putR most l ops).e]) ∧ OwnRow (fun c xs => xs = chgC c) 76 7 w' W.heap.size vc (putR most l ops).chgs ∧ RL w' p most A' c' (putR most l ops).l ∧ Tr.Touch (fun b => b = p) W w' :=
  (rput_callsX W p most A c l ops Ao n co H hok ho hs hl hn hmost).mono fun _ _ ⟨vc, A', c', e, h1, h2, h3, _⟩ => ⟨vc, A', c', e, h1, h2, h3⟩
end Go.Proofs.YtkmdmjlepmmejaaGreatDoor.Ol
/- The reference's log: Top, Same over changes; whether names are short. -/
namespace Go.Proofs.YtkmdmjlepmmejaaGreatDoor.Ol
open Go.RowKit Go.Sort Go.Proofs.YtkmdmjlepmmejaaGreatDoorW.PrintWords Go.Proofs.YtkmdmjlepmmejaaGreatDoorW.PrintLast Go.Proofs.YtkmdmjlepmmejaaGreatDoorW.PrintMore Tr
attribute [local go_sem high] eqSpot

theorem eqChgB (d : Nat) (w : World) (k : Int) (i : Bool) (t : Int) (nm : ByteArray) (j : Bool) (s : Int) (mm : ByteArray) :
    (Op.equalIn (d + 3) 76 (.agg #[.int .i64 k, .bool i, .int .i64 t, .string nm, .bool j, .int .i64 s, .string mm]) (.agg #[.int .i64 k, .bool i, .int .i64 t, .string nm, .bool j, .int .i64 s, .string mm])).run Tryz.prog w = .ok ((k == k) && (((i == i) && ((t == t) && (nm.toList == nm.toList))) && ((j == j) && ((s == s) && (mm.toList == mm.toList))))) w := by
  refine eqA_of Tryz.underlying76 (by kernel_rfl) ?_
  refine eqf_cons (by rfl) (by go_simp; rfl) (by go_simp; rfl) (by go_simp) ?_
  refine eqf_cons (by rfl) (by go_simp) (by go_simp) (eqSpot d w _ _ _ _ _ _) ?_
  exact eqf_last (by rfl) (by go_simp) (by go_simp) (eqSpot d w _ _ _ _ _ _)
theorem eqChg (d : Nat) (w : World) (k : Int) (i : Bool) (t : Int) (nm : ByteArray) (j : Bool) (s : Int) (mm : ByteArray) :
    (Op.equalIn (d + 3) 76 (.agg #[.int .i64 k, .bool i, .int .i64 t, .string nm, .bool j, .int .i64 s, .string mm]) (.agg #[.int .i64 k, .bool i, .int .i64 t, .string nm, .bool j, .int .i64 s, .string mm])).run Tryz.prog w = .ok true w := by
  rw [eqChgB]
  simp
attribute [local go_sem high] eqChg
attribute [local go_sem] max2_int max_two
/-- A list of changes lies behind A. -/
def ChgsAt (w : World) (A : Option Addr) (n : Nat) (cs : List ChgR) : Prop :=
  cs.length = n ∧ n ≤ 9223372036854775807 ∧ (0 < n → ∃ b o, A = some ⟨b, o, none⟩ ∧ ∀ (i : Nat) (hi : i < cs.length) (j : Nat) (u : Value), (chgC cs[i])[j]? = some u → w.cell? ⟨b, o + i * 7 + j, none⟩ = some u)
theorem ChgsAt.below {w w1 : World} {A : Option Addr} {n : Nat} {cs : List ChgR} (h : ChgsAt w A n cs) (hb : Below w.heap.size w w1) : ChgsAt w1 A n cs :=
  ⟨h.1, h.2.1, fun hn => by
    obtain ⟨b, o, e, hc⟩ := h.2.2 hn
    exact ⟨b, o, e, fun i hi j u hu => pw_cell_below hb (hc i hi j u hu)⟩⟩
theorem chgs_of_own {w : World} {B n c : Nat} {A : Option Addr} {cs : List ChgR} (h : OwnRow (fun c xs => xs = chgC c) 76 7 w B (.slice A n c) cs) : ChgsAt w A n cs := by
  obtain ⟨A', c', e, _, hr⟩ := OwnRow.reads h
  cases e
  refine ⟨hr.1, hr.2.1, fun hn => ?_⟩
  obtain ⟨ad, rfl, hc⟩ := hr.2.2 hn
  obtain ⟨c0, _, e0, h0⟩ := hc 0 cs[0] (List.getElem?_eq_getElem hn)
  have hz := h0 0 (.int .i64 cs[0].node) (by rw [e0]; rfl)
  have hs := spotO (show w.cell? ad = _ from hz)
  refine ⟨ad.block, ad.off, by rw [← hs], fun i hi j u hu => ?_⟩
  obtain ⟨c, _, e, hcell⟩ := hc i cs[i] (List.getElem?_eq_getElem hi)
  have := hcell j u (by rw [e]; exact hu)
  rw [hs, addO] at this
  rw [Nat.add_assoc]
  exact this
theorem chgC_form (c : ChgR) : ∃ i t nm j s mm, chgC c = [.int .i64 c.node, .bool i, .int .i64 t, .string nm, .bool j, .int .i64 s, .string mm] := by
  obtain ⟨i, t, nm, j, s, mm, h, _⟩ := chgC_cells c
  exact ⟨i, t, nm, j, s, mm, h⟩
set_option maxHeartbeats 2000000 in
theorem sameC_calls (A : Option Addr) (n c : Nat) (B : Option Addr) (d : Nat) (cs : List ChgR) (w : World) (ha : ChgsAt w A n cs) (hb : ChgsAt w B n cs) :
    Calls Tryz.prog 13 #[.slice A n c, .slice B n d] w fun e w' => e = .returned (.bool true) ∧ ∃ k, w' = w.drewN k := by
  have hn := ha.2.1
  have HA := Lib.hid ha
  have HB := Lib.hid hb
  clear ha hb
  go_enter Tryz.func13, Tryz.ntmps13
  go_wp2
  go_loopw [5] (fun vi W => ∃ i : Nat, vi = .int .i64 i ∧ i ≤ n ∧ Hid (∃ k, W = w.drewN k)) (fun vi _ => (n - (RowKit.intOf vi).toNat))
  case atStart => exact ⟨0, rfl, by omega, Lib.hid ⟨0, rfl⟩⟩
  case round =>
    obtain ⟨i, rfl, hi, HW⟩ := hrel
    obtain ⟨kw, rfl⟩ := HW.out
    by_cases hlt : i < n
    · have hl : i < cs.length := by rw [HA.out.1]; exact hlt
      obtain ⟨xb, xo, rfl, hca⟩ := HA.out.2.2 (by omega)
      obtain ⟨yb, yo, rfl, hcb⟩ := HB.out.2.2 (by omega)
      obtain ⟨i1, t1, n1, i2, t2, n2, hch⟩ := chgC_form cs[i]
      have hca := hca i hl
      have hcb := hcb i hl
      rw [hch] at hca hcb
      generalize cs[i].node = nd at *
      have a0 := hca 0 _ rfl
      have a1 := hca 1 _ rfl
      have a2 := hca 2 _ rfl
      have a3 := hca 3 _ rfl
      have a4 := hca 4 _ rfl
      have a5 := hca 5 _ rfl
      have a6 := hca 6 _ rfl
      have b0 := hcb 0 _ rfl
      have b1 := hcb 1 _ rfl
      have b2 := hcb 2 _ rfl
      have b3 := hcb 3 _ rfl
      have b4 := hcb 4 _ rfl
      have b5 := hcb 5 _ rfl
      have b6 := hcb 6 _ rfl
      rw [Nat.add_zero] at a0 b0
      have hi1 : (0 : Int) ≤ (i : Int) := by omega
      have hi2 : (i : Int) < (n : Int) := by omega
      clear hca hcb hch
      go_wp2
      go_quiet (fail)
      go_wp2
      go_roundw
      case rel => exact ⟨i + 1, by go_num, by omega, Lib.hid ⟨_, rfl⟩⟩
      case measure => simp [RowKit.intOf] <;> omega
    · obtain rfl : i = n := by omega
      go_wp2
      go_ret
      exact ⟨rfl, _, rfl⟩
set_option maxHeartbeats 2000000 in
theorem short_calls (A : Option Addr) (n c : Nat) (os : List OpR) (w : World) (h : OpsAt w A n os) (hsz : ∀ o ∈ os, o.name.size ≤ 9223372036854775807) :
    Calls Tryz.prog 9 #[.slice A n c] w fun e w' => ∃ b, e = .returned (.bool b) ∧ w' = w ∧ (b = true → ∀ o ∈ os, o.name.size ≤ 60) := by
  have hm := h.2.1
  have HA := Lib.hid h
  have HS := Lib.hid hsz
  clear h hsz
  go_enter Tryz.func9, Tryz.ntmps9
  go_wp2
  go_loopw [3] (fun vi V => ∃ i : Nat, vi = .int .i64 i ∧ i ≤ n ∧ Hid (∀ x ∈ os.take i, x.name.size ≤ 60) ∧ V = w) (fun vi _ => (n - (RowKit.intOf vi).toNat))
  case atStart => exact ⟨0, rfl, by omega, Lib.hid (by simp), rfl⟩
  case round =>
    obtain ⟨i, rfl, hi, HN, rfl⟩ := hrel
    by_cases hlt : i < n
    · have hl : i < os.length := by rw [HA.out.1]; exact hlt
      obtain ⟨b, p, rfl, hcell⟩ := HA.out.2.2 (show 0 < n by omega)
      obtain ⟨m0, m1, m2, m3, m4⟩ := hcell i hl
      have hq := HS.out _ (List.getElem_mem hl)
      have HSN := Lib.hid (show os[i].name.size ≤ 60 → ∀ x ∈ os.take (i + 1), x.name.size ≤ 60 from fun h x hx => by
        rw [List.take_succ_eq_append_getElem hl, List.mem_append, List.mem_singleton] at hx
        exact hx.elim (HN.out x) (fun e => by rw [e]; exact h))
      have hi1 : (0 : Int) ≤ (i : Int) := by omega
      have hi2 : (i : Int) < (n : Int) := by omega
      generalize os[i] = q at *
      clear hcell
      by_cases hs : q.name.size ≤ 60
      · have HS2 := Lib.hid (HSN.out hs)
        go_wp2
        go_roundw
        case rel => exact ⟨i + 1, by go_num, by omega, HS2, by trivial⟩
        case measure => simp [RowKit.intOf] <;> omega
      · have hs2 : 60 < q.name.size := by omega
        go_wp2
        go_ret
        exact ⟨false, rfl, rfl, fun h => by cases h⟩
    · obtain rfl : i = n := by omega
      have hall := HN.out
      rw [List.take_of_length_le (by rw [HA.out.1]; exact Nat.le_refl _)] at hall
      have HALL := Lib.hid hall
      clear hall
      go_wp2
      go_ret
      exact ⟨true, rfl, rfl, fun _ => HALL.out⟩
def maxI (a b : Int) : Int := if a < b then b else a
theorem maxI_le {a b m : Int} (ha : a ≤ m) (hb : b ≤ m) : maxI a b ≤ m := by unfold maxI; split <;> assumption
def topM (l : List OpR) : Int := l.foldl (fun m o => maxI m o.n) 0
theorem topM_snoc (l : List OpR) (o : OpR) : topM (l ++ [o]) = maxI (topM l) o.n := by simp [topM, List.foldl_append]
theorem topM_le : ∀ (l : List OpR) (m : Int), 0 ≤ m → (∀ o ∈ l, o.n ≤ m) → topM l ≤ m := by
  intro l m h0 h
  have key : ∀ (l : List OpR) (a : Int), a ≤ m → (∀ o ∈ l, o.n ≤ m) → l.foldl (fun m o => maxI m o.n) a ≤ m := by
    intro l
    induction l with
    | nil => intro a ha _; exact ha
    | cons o l ih => intro a ha h; exact ih _ (maxI_le ha (h o (List.mem_cons_self ..))) (fun q hq => h q (List.mem_cons_of_mem _ hq))
  exact key l 0 h0 h
theorem top_eq {l : List OpR} (ha : AscO l) (hr : ∀ o ∈ l, opRight o = true) : topM l = topO l := by
  rcases List.eq_nil_or_concat l with rfl | ⟨m, o, rfl⟩
  · rfl
  · rw [List.concat_eq_append] at *
    rw [topM_snoc, topO_snoc]
    have h1 : ∀ q ∈ m, q.n ≤ o.n := fun q hq => by
      have h2 := (List.pairwise_append.1 ha).2.2 q hq o (List.mem_singleton.2 rfl)
      apply Classical.byContradiction
      intro hlt
      have h3 : cmpT q.n q.r o.n o.r = 1 := by
        have : cmpI q.n o.n = 1 := by unfold cmpI; rw [if_neg (by omega), if_pos (by omega)]
        unfold cmpT
        rw [this]
        exact if_neg (by decide)
      unfold opCmp at h2
      rw [h3, if_neg (by decide)] at h2
      omega
    have h0 : 0 ≤ o.n := by
      have := hr o (List.mem_append.2 (.inr (List.mem_singleton.2 rfl)))
      unfold opRight stampR at this
      simp only [Bool.and_eq_true, decide_eq_true_eq] at this
      omega
    have h5 := topM_le m o.n h0 h1
    unfold maxI
    split <;> omega
set_option maxHeartbeats 2000000 in
theorem rtop_calls (W : World) (p : Nat) (most : Int) (A : Option Addr) (c : Nat) (l : List OpR) (H : RL W p most A c l) (hok : LogOk most l) (hl : l.length ≤ 1000) :
    Calls Tryz.prog 17 #[.pointer (some ⟨p, 0, none⟩)] W fun e w' => e = .returned (.int .i64 (topO l)) ∧ w' = W := by
  have HA := Lib.hid H.ops
  have HT := Lib.hid (top_eq hok.asc hok.right)
  have c1 := blk_cell H.hp 1
  simp at c1
  have hlt := blk_lt H.hp
  clear H
  go_enter Tryz.func17, Tryz.ntmps17
  go_wp2
  go_loopw [3, 4] (fun vm vi V => ∃ i : Nat, vm = .int .i64 (topM (l.take i)) ∧ vi = .int .i64 i ∧ i ≤ l.length ∧ V = W) (fun _ vi _ => (l.length - (RowKit.intOf vi).toNat))
  case atStart => exact ⟨0, by simp [topM], rfl, by omega, rfl⟩
  case round =>
    obtain ⟨i, rfl, rfl, hi, rfl⟩ := hrel
    by_cases hlt2 : i < l.length
    · obtain ⟨b, o, rfl, hcell⟩ := HA.out.2.2 (by omega)
      obtain ⟨m0, m1, m2, m3, m4⟩ := hcell i hlt2
      have HSN := Lib.hid (show topM (l.take (i + 1)) = maxI (topM (l.take i)) l[i].n by rw [List.take_succ_eq_append_getElem hlt2, topM_snoc])
      have hi1 : (0 : Int) ≤ (i : Int) := by omega
      have hi2 : (i : Int) < (l.length : Int) := by omega
      generalize l[i] = q at *
      clear hcell
      go_wp2
      go_roundw
      case rel => exact ⟨i + 1, by rw [HSN.out]; rfl, by go_num, by omega, by trivial⟩
      case measure => simp [RowKit.intOf] <;> omega
    · obtain rfl : i = l.length := by omega
      rw [List.take_of_length_le (Nat.le_refl _), HT.out]
      go_wp2
      go_ret
      exact ⟨rfl, rfl⟩
end Go.Proofs.YtkmdmjlepmmejaaGreatDoor.Ol
/- An operation as an argument. -/
namespace Go.Proofs.YtkmdmjlepmmejaaGreatDoor
open Go.RowKit Go.Proofs.YtkmdmjlepmmejaaGreatDoorW.Open Go.Proofs.YtkmdmjlepmmejaaGreatDoorW.PrintWords

abbrev OpT := (Int × Int) × (Int × (Int × ByteArray))
def opOf (x : OpT) : OpR := ⟨x.1.1, x.1.2, x.2.1, x.2.2.1, x.2.2.2⟩
def opCs (o : OpR) : Array Value := #[.int .i64 o.n, .int .i64 o.r, .int .i64 o.node, .int .i64 o.par, .string o.name]
abbrev opKd : Kd OpT := Kd.pair (Kd.pair (Kd.int .i64) (Kd.int .i64)) (Kd.pair (Kd.int .i64) (Kd.pair (Kd.int .i64) Kd.string))
abbrev opOk (x : OpT) : Prop := ((Lit.int .i64 x.1.1).wf = true ∧ (Lit.int .i64 x.1.2).wf = true) ∧ (Lit.int .i64 x.2.1).wf = true ∧ (Lit.int .i64 x.2.2.1).wf = true ∧ x.2.2.2.size ≤ maxLen
set_option maxRecDepth 100000 in
theorem stOpens : Opens Tryz.prog 48 (Kd.pair (Kd.int .i64) (Kd.int .i64)) (fun x => (Lit.int .i64 x.1).wf = true ∧ (Lit.int .i64 x.2).wf = true) :=
  Opens.struct Tryz.underlying48 (by kernel_rfl) (OpensF.cons (Opens.int Tryz.underlying3 (by kernel_rfl)) (OpensF.one (Opens.int Tryz.underlying3 (by kernel_rfl))) rfl)
set_option maxRecDepth 100000 in
theorem opOpens : Opens Tryz.prog 50 opKd opOk :=
  Opens.struct Tryz.underlying50 (by kernel_rfl)
    (OpensF.cons (ok := fun x : Int × Int => (Lit.int .i64 x.1).wf = true ∧ (Lit.int .i64 x.2).wf = true) stOpens
      (OpensF.cons (Opens.int Tryz.underlying3 (by kernel_rfl)) (OpensF.cons (Opens.int Tryz.underlying3 (by kernel_rfl)) (OpensF.one (Opens.string Tryz.underlying9 (by kernel_rfl))) rfl) rfl) rfl)
theorem opCs_of {W : World} {x : OpT} {cs : Array Value} (h : opKd.K W x (Value.cells (.agg cs)).toList) : cs = opCs (opOf x) := by
  obtain ⟨c1, c2, e, ⟨c3, c4, rfl, h1, h2⟩, ⟨c5, c6, rfl, h3, ⟨c7, c8, rfl, h4, h5⟩⟩⟩ := h
  have e1 : c3 = [.int .i64 x.1.1] := h1
  have e2 : c4 = [.int .i64 x.1.2] := h2
  have e3 : c5 = [.int .i64 x.2.1] := h3
  have e4 : c7 = [.int .i64 x.2.2.1] := h4
  have e5 : c8 = [.string x.2.2.2] := h5
  subst e1 e2 e3 e4 e5
  have : cs.toList = (opCs (opOf x)).toList := e
  exact Array.toList_inj.1 this
theorem opSize {x : OpT} (h : opOk x) : (opOf x).name.size ≤ 9223372036854775807 := by
  have := h.2.2.2
  unfold maxLen at this
  exact this
end Go.Proofs.YtkmdmjlepmmejaaGreatDoor
/- The walk of the law OplogPlays. -/
namespace Go.Proofs.YtkmdmjlepmmejaaGreatDoor.Ol
open Go.RowKit Go.Sort Go.Proofs.YtkmdmjlepmmejaaGreatDoorW.PrintWords Tr
/-- Lists of operations behind A. -/
def ListsAt (w : World) (A : Option Addr) (n : Nat) (ll : List (List OpR)) : Prop :=
  ll.length = n ∧ n ≤ 9223372036854775807 ∧ (0 < n → ∃ b o, A = some ⟨b, o, none⟩ ∧ ∀ (i : Nat) (hi : i < ll.length), ∃ Ai ci, w.cell? ⟨b, o + i, none⟩ = some (.slice Ai (ll[i].length) ci) ∧ OpsAt w Ai (ll[i].length) ll[i])
theorem ops_of_rowT {w : World} {A : Option Addr} {n : Nat} {xs : List OpT} (h : ReadsRow (opKd.K w) 5 w A n xs) : OpsAt w A n (xs.map opOf) := by
  refine ops_of_row ⟨by rw [List.length_map]; exact h.1, h.2.1, fun hn => ?_⟩
  obtain ⟨ad, e, hc⟩ := h.2.2 hn
  refine ⟨ad, e, fun i p hp => ?_⟩
  rw [List.getElem?_map, Option.map_eq_some_iff] at hp
  obtain ⟨x, hx, rfl⟩ := hp
  obtain ⟨cs, hl, hk, hcell⟩ := hc i x hx
  refine ⟨cs, hl, ?_, hcell⟩
  have h2 := congrArg Array.toList (opCs_of (cs := cs.toArray) hk)
  exact h2
abbrev opsKd : Kd (List OpT) := Kd.slice 50 opKd
theorem lists_of_row {w : World} {A : Option Addr} {n : Nat} {ll : List (List OpT)} (h : ReadsRow (opsKd.K w) 1 w A n ll) : ListsAt w A n (ll.map fun x => x.map opOf) := by
  refine ⟨by rw [List.length_map]; exact h.1, h.2.1, fun hn => ?_⟩
  obtain ⟨ad, rfl, hc⟩ := h.2.2 hn
  have hl : 0 < ll.length := by rw [h.1]; exact hn
  have key : ∀ (i : Nat) (hi : i < ll.length), ∃ Ai ci, w.cell? (ad.add (i * 1 + 0)) = some (.slice Ai (ll[i].length) ci) ∧ OpsAt w Ai (ll[i].length) (ll[i].map opOf) := by
    intro i hi
    obtain ⟨c, _, k, hcell⟩ := hc i ll[i] (List.getElem?_eq_getElem hi)
    obtain ⟨Ai, ci, rfl, _, hr⟩ := k
    exact ⟨Ai, ci, hcell 0 _ rfl, ops_of_rowT hr⟩
  obtain ⟨A0, c0, h0, _⟩ := key 0 hl
  have hs := spotO (show w.cell? ad = _ by rw [show ad.add (0 * 1 + 0) = ad from by unfold Addr.add; rfl] at h0; exact h0)
  refine ⟨ad.block, ad.off, by rw [← hs], fun i hi => ?_⟩
  rw [List.length_map] at hi
  obtain ⟨Ai, ci, h1, h2⟩ := key i hi
  rw [hs, addO] at h1
  refine ⟨Ai, ci, ?_, ?_⟩
  · rw [List.getElem_map, List.length_map]; simpa using h1
  · rw [List.getElem_map, List.length_map]; exact h2
theorem putl_len (most : Int) (l ops : List OpR) : (putR most l ops).l.length ≤ l.length + ops.length := by
  unfold putR
  split
  · split
    · show l.length ≤ _; omega
    · show (joinO l ops).length ≤ _
      rw [joinO_length]
      have := newOf_length l ops
      omega
  · show l.length ≤ _; omega
/-- How both logs stand ahead of a round. -/
structure PS (V W : World) (F : Nat → Prop) (p : Nat) (M : Int) (l : List OpR) (px : Nat) : Prop where
  bel : Below V.heap.size V W
  log : LogAt W F p M l
  f1 : ∀ b, F b → V.heap.size ≤ b
  ref : ∃ A c, RL W px M A c l ∧ ∀ a, A = some a → ¬ F a.block ∧ a.block < W.heap.size
  off : ¬ F px
  hx : V.heap.size ≤ px
  ok : LogOk M l
/-- Behind the log's Put. -/
structure PM (V W : World) (F : Nat → Prop) (p : Nat) (M : Int) (l l' : List OpR) (cs : List ChgR) (px : Nat) (v : Value) : Prop where
  bel : Below V.heap.size V W
  log : LogAt W F p M l'
  f1 : ∀ b, F b → V.heap.size ≤ b
  ref : ∃ A c, RL W px M A c l ∧ ∀ a, A = some a → ¬ F a.block ∧ a.block < W.heap.size
  off : ¬ F px
  hx : V.heap.size ≤ px
  ok : LogOk M l
  ok' : LogOk M l'
  row : ∃ B, OwnRow (fun c xs => xs = chgC c) 76 7 W B v cs ∧ px < B
/-- Behind both Puts. -/
structure PN (V W : World) (F : Nat → Prop) (p : Nat) (M : Int) (l : List OpR) (nl : Nat) (cs : List ChgR) (px : Nat) (A : Option Addr) (c : Nat) (Ac Ad : Option Addr) (nc : Nat) : Prop where
  bel : Below V.heap.size V W
  log : LogAt W F p M l
  f1 : ∀ b, F b → V.heap.size ≤ b
  ref : RL W px M A c l
  away : ∀ a, A = some a → ¬ F a.block ∧ a.block < W.heap.size
  off : ¬ F px
  hx : V.heap.size ≤ px
  ok : LogOk M l
  ca : ChgsAt W Ac nc cs
  cb : ChgsAt W Ad nc cs
  c0 : W.cell? ⟨px, 0, none⟩ = some (.int .i64 M)
  c1 : W.cell? ⟨px, 1, none⟩ = some (.slice A nl c)
  ops : OpsAt W A nl l
theorem PN.below {V W W' : World} {F : Nat → Prop} {p : Nat} {M : Int} {l : List OpR} {nl : Nat} {cs : List ChgR} {px : Nat} {A : Option Addr} {c : Nat} {Ac Ad : Option Addr} {nc : Nat} (h : PN V W F p M l nl cs px A c Ac Ad nc) (hb : Below W.heap.size W W') : PN V W' F p M l nl cs px A c Ac Ad nc :=
  ⟨below_step h.bel hb, h.log.below hb, h.f1, h.ref.below hb, fun a e => ⟨(h.away a e).1, Nat.lt_of_lt_of_le (h.away a e).2 hb.size⟩, h.off, h.hx, h.ok, h.ca.below hb, h.cb.below hb, pw_cell_below hb h.c0, pw_cell_below hb h.c1, h.ops.below hb⟩
theorem PN.ps {V W : World} {F : Nat → Prop} {p : Nat} {M : Int} {l : List OpR} {nl : Nat} {cs : List ChgR} {px : Nat} {A : Option Addr} {c : Nat} {Ac Ad : Option Addr} {nc : Nat} (h : PN V W F p M l nl cs px A c Ac Ad nc) : PS V W F p M l px := ⟨h.bel, h.log, h.f1, ⟨_, _, h.ref, h.away⟩, h.off, h.hx, h.ok⟩
theorem chgrow_base {W : World} {B : Nat} {v : Value} {cs : List ChgR} (h : OwnRow (fun c xs => xs = chgC c) 76 7 W B v cs) : ∀ b, v.ownBlock = some b → B ≤ b := fun b e => by
  obtain ⟨inner, hrow, _⟩ := h
  exact own_base hrow b e
theorem ops_touch {W W' : World} {A : Option Addr} {n : Nat} {l : List OpR} {F : Nat → Prop} (h : OpsAt W A n l) (ht : Tr.Touch F W W') (hn : ∀ a, A = some a → ¬ F a.block) : OpsAt W' A n l := by
  refine ⟨h.1, h.2.1, fun hp => ?_⟩
  obtain ⟨b, o, e, hc⟩ := h.2.2 hp
  have hne := hn _ e
  exact ⟨b, o, e, fun i hi => ⟨ht.cell (hc i hi).1 hne, ht.cell (hc i hi).2.1 hne, ht.cell (hc i hi).2.2.1 hne, ht.cell (hc i hi).2.2.2.1 hne, ht.cell (hc i hi).2.2.2.2 hne⟩⟩
theorem ps_put {V W : World} {F : Nat → Prop} {p : Nat} {M : Int} {l X : List OpR} {px : Nat} {Ai : Option Addr} {nX ci : Nat} {kn er : Int} {l' : List OpR} {cs : List ChgR} {nc : Nat} (hT : Tabs V) (ho : OpsAt V Ai nX X) (hs : ∀ o ∈ X, o.name.size ≤ 9223372036854775807) (h8 : nX ≤ 8) (hM : M ≤ 40) (hR : putR M l X = ⟨kn, cs, er, l'⟩) (hnc : cs.length = nc) (h : PS V W F p M l px) :
    Calls Tryz.prog 10 #[.pointer (some ⟨p, 0, none⟩), .slice Ai nX ci] W fun e w' => ∃ Ac cc F', e = .returned (.tuple #[.int .i64 kn, .slice Ac nc cc, .int .i64 er]) ∧ PM V w' F' p M l l' cs px (.slice Ac nc cc) := by
  have hlen := h.ok.len
  obtain ⟨A, c, hr, haw⟩ := h.ref
  have hlt := blk_lt hr.hp
  have hok' := h.ok.put X
  rw [hR] at hok'
  refine (put_eq V W F p M l X Ai nX ci kn cs er l' hR h.log h.ok (ho.below h.bel) hs hT h.bel h.f1 (by omega) (by omega)).mono ?_
  rw [hnc]
  rintro e w' ⟨Ac, cc, B, F', rfl, hrow, hB, hlog, hF, hF2, ht, hb⟩
  have hne : ¬ F px := h.off
  refine ⟨Ac, cc, F', rfl, hb, hlog, hF2, ⟨A, c, ⟨ht.blk hr.hp hne, ops_touch hr.ops ht fun a e => (haw a e).1⟩, fun a e => ⟨fun k => (hF _ k).1.elim (haw a e).1 (fun k => by have := (haw a e).2; omega), Nat.lt_of_lt_of_le (haw a e).2 ht.size⟩⟩, fun k => (hF px k).1.elim hne (fun k => by omega), h.hx, h.ok, hok', B, hrow, by omega⟩
theorem pm_put {V W : World} {F : Nat → Prop} {p : Nat} {M : Int} {l X : List OpR} {px : Nat} {Ai : Option Addr} {nX ci : Nat} {kn er : Int} {l' : List OpR} {cs : List ChgR} {nc nl : Nat} {Ac : Option Addr} {cc : Nat} (ho : OpsAt V Ai nX X) (hs : ∀ o ∈ X, o.name.size ≤ 9223372036854775807) (h8 : nX ≤ 8) (hM : M ≤ 40) (hR : putR M l X = ⟨kn, cs, er, l'⟩) (hnc : cs.length = nc) (hnl : l'.length = nl) (h : PM V W F p M l l' cs px (.slice Ac nc cc)) :
    Calls Tryz.prog 11 #[.pointer (some ⟨px, 0, none⟩), .slice Ai nX ci] W fun e w' => ∃ Ad cd A' c', e = .returned (.tuple #[.int .i64 kn, .slice Ad nc cd, .int .i64 er]) ∧ PN V w' F p M l' nl cs px A' c' Ac Ad nc := by
  have hlen := h.ok.len
  obtain ⟨A, c, hr, haw⟩ := h.ref
  have hlt := blk_lt hr.hp
  refine (rput_callsX W px M A c l X Ai nX ci hr h.ok (ho.below h.bel) hs (by omega) (by omega) (by omega)).mono ?_
  rw [hR]
  rintro e w' ⟨vc, A', c', rfl, hrow, hrl, ht, hg⟩
  obtain ⟨Ad, cd, e', _, _⟩ := OwnRow.reads hrow
  cases e'
  rw [hnc] at hrow
  obtain ⟨B, hrow0, hB⟩ := h.row
  have c0 := blk_cell hrl.hp 0
  have c1 := blk_cell hrl.hp 1
  simp at c0 c1
  have hops := hrl.ops
  simp only [hnl] at c1 hops
  refine ⟨Ad, cd, A', c', by rw [hnc], h.bel.trans (ht.toBelow h.bel.size fun b e => by rw [e]; exact h.hx), h.log.touch ht fun b e k => h.off (k ▸ e), h.f1, hrl, fun a e => ?_, h.off, h.hx, h.ok', ?_, chgs_of_own hrow, c0, c1, hops⟩
  · rcases hg with rfl | hg
    · exact ⟨(haw a e).1, Nat.lt_of_lt_of_le (haw a e).2 ht.size⟩
    · exact ⟨fun k => by have := h.log.lt _ k; have := (hg a e).1; omega, (hg a e).2⟩
  · exact chgs_of_own (ht.row hrow0 fun b e k => by have := chgrow_base hrow0 b e; omega)
set_option maxRecDepth 100000 in
set_option maxHeartbeats 8000000 in
theorem plays_walk (A : Option Addr) (n cc : Nat) (ll : List (List OpR)) (top : Int) (w : World) (h8 : n ≤ 8) (htop : 0 ≤ top ∧ top < 256) (ha : ListsAt w A n ll) (hs : ∀ os ∈ ll, ∀ o ∈ os, o.name.size ≤ 9223372036854775807) (hT : Tabs w) :
    Calls Tryz.prog 3 #[.slice A n cc, .int .u8 top] w fun e w' => e = .returned (.bool true) ∧ Below w.heap.size w w' := by
  have hM : 0 ≤ top % 41 ∧ top % 41 ≤ 40 := by omega
  have HT := Lib.hid hT
  have HR := Lib.hid ha
  have HS := Lib.hid hs
  have HL := Lib.hid ha.1
  have HM := Lib.hid hM.2
  have H0 := Lib.hid hM.1
  have HN := Lib.hid (fun W => log_new W (top % 41) hM.1)
  have HB := Lib.hid (Below.refl w.heap.size w)
  clear hT ha hs hM
  go_enter Tryz.func3, Tryz.ntmps3
  go_wp2_with (first
    | (go_at_call 7; (with_reducible refine Calls.mono (awake_calls _ HT.out) ?_); rintro e w1 ⟨rfl, hb⟩; have HBn := Lib.hid (below_step (by repeat (first | (with_reducible exact HB.out) | apply below_alloc | apply pw_below_drewN | apply below_drew1 | exact HB.out)) hb); clear hb HB; have HB := HBn; clear HBn)
    | (go_at_call 8; (with_reducible refine Calls.mono (HN.out _) ?_); rintro e w2 ⟨p, F, rfl, hlog, hF, hb⟩; have HLG := Lib.hid hlog; have HF := Lib.hid (fun b hb' => Nat.le_trans HB.out.size (hF b hb')); clear hlog hF; have HBn := Lib.hid (below_step (by repeat (first | (with_reducible exact HB.out) | apply below_alloc | apply pw_below_drewN | apply below_drew1 | exact HB.out)) hb); clear hb HB; have HB := HBn; clear HBn)
    | (fail "no arm"))
  generalize top % 41 = M at *
  have HPS := Lib.hid (show PS w (w2.alloc (Obj.cells #[.int .i64 M, .slice none 0 0] 29)) F p M [] w2.heap.size from
    ⟨(by repeat (first | (with_reducible exact HB.out) | apply below_alloc | apply pw_below_drewN | apply below_drew1 | exact HB.out)), HLG.out.below (below_alloc (Below.refl _ _) _), HF.out, ⟨none, 0, ⟨blk_new w2 _, OpsAt.nil _⟩, fun a e => by cases e⟩, fun k => Nat.lt_irrefl _ (HLG.out.lt _ k), HB.out.size, log0 H0.out⟩)
  generalize w2.alloc (Obj.cells #[.int .i64 M, .slice none 0 0] 29) = V0 at *
  generalize w2.heap.size = px at *
  clear HLG HF HB
  go_loopw [8] (fun vi W => ∃ (i : Nat) (l : List OpR) (F : Nat → Prop), vi = .int .i64 i ∧ i ≤ n ∧ Hid (PS w W F p M l px)) (fun vi _ => (n - (RowKit.intOf vi).toNat))
  case atStart => exact ⟨0, [], F, rfl, by omega, HPS⟩
  case round =>
    clear HPS HN
    obtain ⟨i, l, F1, rfl, hi, HPS⟩ := hrel
    by_cases hlt : i < n
    · have hlt2 : i < ll.length := by rw [HL.out]; exact hlt
      obtain ⟨b, o, rfl, hcell⟩ := HR.out.2.2 (show 0 < n by omega)
      obtain ⟨Ai, ci, hci, hti⟩ := hcell i hlt2
      have hsi := HS.out _ (List.getElem_mem hlt2)
      have hc0 := pw_cell_below HPS.out.bel hci
      have HCI := Lib.hid hci
      have hi1 : (0 : Int) ≤ (i : Int) := by omega
      have hi2 : (i : Int) < (n : Int) := by omega
      have hlx : ll[i].length ≤ 9223372036854775807 := hti.2.1
      generalize hR : putR M l ll[i] = R at *
      obtain ⟨kn, cs, er, l'⟩ := R
      generalize hnX : ll[i].length = nX at *
      generalize ll[i] = X at *
      clear hci hcell
      have hsh := fun (W : World) (h : Below w.heap.size w W) => short_calls Ai nX ci X W (hti.below h) hsi
      have HSH := Lib.hid hsh
      have HXN := Lib.hid hnX
      have hput := fun (W : World) (hx : nX ≤ 8) (h : PS w W F1 p M l px) => ps_put (ci := ci) HT.out hti hsi hx HM.out hR rfl h
      have hrput := fun (W : World) (F : Nat → Prop) (Ac : Option Addr) (cc : Nat) (hx : nX ≤ 8) (h : PM w W F p M l l' cs px (.slice Ac cs.length cc)) => pm_put (ci := ci) hti hsi hx HM.out hR rfl rfl h
      generalize hnc : cs.length = nc at *
      generalize hnl : l'.length = nl at *
      have HPUT := Lib.hid hput
      have HRPUT := Lib.hid hrput
      have HNC := Lib.hid hnc
      have HNL := Lib.hid hnl
      have HTI := Lib.hid hti
      clear hsh hput hrput hR hnX hnc hnl hti hsi
      go_upto_region 12 with (first
        | (go_at_call 9; (with_reducible refine Calls.mono (HSH.out _ HPS.out.bel) ?_); rintro e w3 ⟨few, rfl, rfl, hfew⟩; clear hfew)
        | (fail "no arm"))
      cases few
      · go_wp2
        go_ret
        exact ⟨rfl, HPS.out.bel⟩
      by_cases hx8 : nX ≤ 8
      case neg =>
        have hx9 : (8 : Int) < (nX : Int) := by omega
        go_wp2
        go_ret
        exact ⟨rfl, HPS.out.bel⟩
      have hx9 : (nX : Int) ≤ 8 := by omega
      go_upto_region 17 with (first
        | (go_at_call 10; (with_reducible refine Calls.mono (HPUT.out _ hx8 HPS.out) ?_); rintro e w4 ⟨Ac, cd, F2, rfl, hpm⟩; have HPM := Lib.hid hpm; have hc1 := pw_cell_below hpm.bel HCI.out; clear hpm hc0 HPS)
        | (go_at_call 11; (with_reducible refine Calls.mono (HRPUT.out _ F2 Ac cd hx8 HPM.out) ?_); rintro e w5 ⟨Ad, ce, A5, c5, rfl, hpn⟩; have HPN := Lib.hid hpn; clear hpn hc1 HPM)
        | (go_at_call 12; (with_reducible refine Calls.mono (log_tree _ F2 p M l' HPN.out.log (by have := HPN.out.ok.len; have := HM.out; omega)) ?_); rintro e w6 ⟨t, rfl, ht, hb⟩; have HTR := Lib.hid ht; have HPN6 := Lib.hid (HPN.out.below hb); clear ht hb HPN)
        | (fail "no arm"))
      have hk := HPN6.out.ok
      have hl40 : nl ≤ 40 := by have := hk.len; have := HM.out; have := HNL.out; omega
      have hsl := fun (A : Option Addr) (c : Nat) (B : Option Addr) (d : Nat) (W : World) (h : OpsAt W A nl l') (k : OpsAt W B nl l') => sameO_calls A _ c l' B _ d l' W h k
      rw [same_self] at hsl
      have HSL := Lib.hid hsl
      have HSC := Lib.hid (fun (Z : World) (h : ChgsAt Z Ac nc cs) (k : ChgsAt Z Ad nc cs) => sameC_calls Ac nc cd Ad ce cs Z h k)
      have HALL := Lib.hid (show ∀ (W : World), LogAt W F2 p M l' → Calls Tryz.prog 15 #[.pointer (some ⟨p, 0, none⟩)] W fun e w' => ∃ A c, e = .returned (.slice A nl c) ∧ OpsAt w' A nl l' ∧ Below W.heap.size W w' from fun W H =>
        (log_all W F2 p M l' H (by rw [HNL.out]; omega)).mono fun e w' ⟨v', he, ho, hb⟩ => by
          obtain ⟨A', c', rfl, _, hq⟩ := OwnO.ops ho
          rw [HNL.out] at he hq
          exact ⟨A', c', he, hq, hb⟩)
      have HTOP := Lib.hid (fun (W : World) (h : LogAt W F2 p M l') => log_top W F2 p M l' h (by rw [HNL.out]; omega))
      have HRTOP := Lib.hid (fun (W : World) (h : RL W px M A5 c5 l') => rtop_calls W px M A5 c5 l' h hk (by rw [HNL.out]; omega))
      have HTALL := Lib.hid (show ∀ (W : World) (F : Nat → Prop), TreeAt W F t l' → Calls Tryz.prog 19 #[.pointer (some ⟨t, 0, none⟩)] W fun e w' => ∃ A c, e = .returned (.slice A (treeO l').length c) ∧ KidsAt w' A (treeO l').length (srt kidCmp (treeO l')) ∧ Below W.heap.size W w' from fun W F H =>
        (treeall_calls W F t l' H hk.right (by rw [HNL.out]; omega)).mono fun e w' ⟨v', he, ho, hb⟩ => by
          obtain ⟨A', c', rfl, _, hk⟩ := OwnK.kids ho
          rw [srt_length] at he hk
          exact ⟨A', c', he, hk, hb⟩)
      have HOF := Lib.hid (show ∀ (W : World), OpsAt W A5 nl l' → Calls Tryz.prog 20 #[.slice A5 nl c5] W fun e w' => ∃ p, e = .returned (.pointer (some ⟨p, 0, none⟩)) ∧ (∃ B k, RT w' B p (treeO l') k) ∧ Below W.heap.size W w' from fun W h =>
        (rof_calls A5 nl c5 l' W h (by omega) hk.right).mono fun e w' ⟨p, he, ht, hb⟩ => ⟨p, he, ⟨_, _, ht⟩, hb⟩)
      have HRAL := Lib.hid (show ∀ (W : World) (p : Nat), (∃ B k, RT W B p (treeO l') k) → Calls Tryz.prog 21 #[.pointer (some ⟨p, 0, none⟩)] W fun e w' => ∃ A' c', e = .returned (.slice A' (treeO l').length c') ∧ KidsAt w' A' (treeO l').length (srt kidCmp (treeO l')) ∧ Below W.heap.size W w' from fun W p ⟨B, k, H⟩ =>
        rall_calls W B p (treeO l') k H (Nat.le_trans (length_treeO l') (by rw [HNL.out]; omega)) (tidy_nodup (tidy_run l')))
      have HSK := Lib.hid (show ∀ (A : Option Addr) (c : Nat) (B : Option Addr) (d : Nat) (W : World), KidsAt W A (treeO l').length (srt kidCmp (treeO l')) → KidsAt W B (treeO l').length (srt kidCmp (treeO l')) → Calls Tryz.prog 18 #[.slice A (treeO l').length c, .slice B (treeO l').length d] W fun e w' => e = .returned (.bool true) ∧ ∃ k, w' = W.drewN k from fun A c B d W h k => by
        have := sameK_calls A _ c (srt kidCmp (treeO l')) B _ d (srt kidCmp (treeO l')) W h k
        rw [samek_self] at this
        exact this)
      have HP := HPN6
      clear HPN6 hk hsl HPUT HRPUT HSH
      have HB := Lib.hid (Below.refl w6.heap.size w6)
      go_region_held3 (fun Y => Y.cell? ⟨px, 0, none⟩ = some (.int .i64 M) ∧ Y.cell? ⟨px, 1, none⟩ = some (.slice A5 nl c5))
        (exact ⟨pw_cell_below (by repeat (first | (with_reducible exact HB.out) | apply below_alloc | apply pw_below_drewN | apply below_drew1 | exact HB.out)) HP.out.c0, pw_cell_below (by repeat (first | (with_reducible exact HB.out) | apply below_alloc | apply pw_below_drewN | apply below_drew1 | exact HB.out)) HP.out.c1⟩)
        (first
          | (go_at_call 13; (with_reducible refine Calls.mono (HSC.out _ (HP.out.ca.below (by repeat (first | (with_reducible exact HB.out) | apply below_alloc | apply pw_below_drewN | apply below_drew1 | exact HB.out))) (HP.out.cb.below (by repeat (first | (with_reducible exact HB.out) | apply below_alloc | apply pw_below_drewN | apply below_drew1 | exact HB.out)))) ?_); rintro e y1 ⟨rfl, k1, rfl⟩)
          | (go_at_call 15; (with_reducible refine Calls.mono (HALL.out _ (HP.out.log.below (by repeat (first | (with_reducible exact HB.out) | apply below_alloc | apply pw_below_drewN | apply below_drew1 | exact HB.out)))) ?_); rintro e y2 ⟨A31, c31, rfl, ho, hb⟩; have R31 := Lib.hid ho; clear ho; have HBn := Lib.hid (below_step (by repeat (first | (with_reducible exact HB.out) | apply below_alloc | apply pw_below_drewN | apply below_drew1 | exact HB.out)) hb); clear hb HB; have HB := HBn; clear HBn)
          | (go_at_call 14; (with_reducible refine Calls.mono (HSL.out _ _ _ _ _ (R31.out.below (Below.refl _ _)) (HP.out.ops.below (by repeat (first | (with_reducible exact HB.out) | apply below_alloc | apply pw_below_drewN | apply below_drew1 | exact HB.out)))) ?_); rintro e y3 ⟨rfl, k3, rfl⟩; clear R31)
          | (go_at_call 16; (with_reducible refine Calls.mono (HTOP.out _ (HP.out.log.below (by repeat (first | (with_reducible exact HB.out) | apply below_alloc | apply pw_below_drewN | apply below_drew1 | exact HB.out)))) ?_); rintro e y4 ⟨rfl, hb⟩; have HBn := Lib.hid (below_step (by repeat (first | (with_reducible exact HB.out) | apply below_alloc | apply pw_below_drewN | apply below_drew1 | exact HB.out)) hb); clear hb HB; have HB := HBn; clear HBn)
          | (go_at_call 17; (with_reducible refine Calls.mono (HRTOP.out _ (HP.out.ref.below (by repeat (first | (with_reducible exact HB.out) | apply below_alloc | apply pw_below_drewN | apply below_drew1 | exact HB.out)))) ?_); rintro e y5 ⟨rfl, rfl⟩)
          | (fail "no arm"))
      have HP2 := Lib.hid (PN.below (W' := y5) HP.out (by repeat (first | (with_reducible exact HB.out) | apply below_alloc | apply pw_below_drewN | apply below_drew1 | exact HB.out)))
      have HTR2 := Lib.hid (HTR.out.below (by repeat (first | (with_reducible exact HB.out) | apply below_alloc | apply pw_below_drewN | apply below_drew1 | exact HB.out)))
      clear HP HTR HB HSC HTOP HRTOP HALL HSL
      go_upto_region 19 with fail
      have HB := Lib.hid (Below.refl y5.heap.size y5)
      go_region_held3 (fun Y => Y.cell? ⟨px, 0, none⟩ = some (.int .i64 M) ∧ Y.cell? ⟨px, 1, none⟩ = some (.slice A5 nl c5))
        (exact ⟨pw_cell_below (by repeat (first | (with_reducible exact HB.out) | apply below_alloc | apply pw_below_drewN | apply below_drew1 | exact HB.out)) HP2.out.c0, pw_cell_below (by repeat (first | (with_reducible exact HB.out) | apply below_alloc | apply pw_below_drewN | apply below_drew1 | exact HB.out)) HP2.out.c1⟩)
        (first
          | (go_at_call 19; (with_reducible refine Calls.mono (HTALL.out _ _ (HTR2.out.below (by repeat (first | (with_reducible exact HB.out) | apply below_alloc | apply pw_below_drewN | apply below_drew1 | exact HB.out)))) ?_); rintro e z5 ⟨A35, c35, rfl, hk, hb⟩; have K35 := Lib.hid hk; clear hk; have HBn := Lib.hid (below_step (by repeat (first | (with_reducible exact HB.out) | apply below_alloc | apply pw_below_drewN | apply below_drew1 | exact HB.out)) hb); clear hb HB; have HB := HBn; clear HBn)
          | (go_at_call 20; (with_reducible refine Calls.mono (HOF.out _ (HP2.out.ops.below (by repeat (first | (with_reducible exact HB.out) | apply below_alloc | apply pw_below_drewN | apply below_drew1 | exact HB.out)))) ?_); rintro e z6 ⟨p36, rfl, hk, hb⟩; have R36 := Lib.hid hk; have K36 := Lib.hid (K35.out.below (below_step (Below.refl _ _) hb)); clear hk K35; have HBn := Lib.hid (below_step (by repeat (first | (with_reducible exact HB.out) | apply below_alloc | apply pw_below_drewN | apply below_drew1 | exact HB.out)) hb); clear hb HB; have HB := HBn; clear HBn)
          | (go_at_call 21; (with_reducible refine Calls.mono (HRAL.out _ p36 R36.out) ?_); rintro e z7 ⟨A37, c37, rfl, hk, hb⟩; have K37 := Lib.hid hk; have K367 := Lib.hid (K36.out.below (below_step (Below.refl _ _) hb)); clear hk K36 R36; have HBn := Lib.hid (below_step (by repeat (first | (with_reducible exact HB.out) | apply below_alloc | apply pw_below_drewN | apply below_drew1 | exact HB.out)) hb); clear hb HB; have HB := HBn; clear HBn)
          | (go_at_call 18; (with_reducible refine Calls.mono (HSK.out _ _ _ _ _ (K367.out.below (Below.refl _ _)) (K37.out.below (Below.refl _ _))) ?_); rintro e z8 ⟨rfl, k38, rfl⟩; clear K367 K37)
          | (fail "no arm"))
      have HP := Lib.hid (PN.below (W' := z7.drewN k38) HP2.out (by repeat (first | (with_reducible exact HB.out) | apply below_alloc | apply pw_below_drewN | apply below_drew1 | exact HB.out)))
      clear HP2 HTR2 HB HTALL HOF HRAL HSK
      go_upto_region 21 with fail
      generalize z7.drewN k38 = Z at *
      have hk := HP.out.ok
      have HHAS := Lib.hid (fun (q : OpR) (W : World) (h : LogAt W F2 p M l') => log_has W F2 p M l' q h hk.asc (by rw [HNL.out]; omega))
      have HRHAS := Lib.hid (fun (q : OpR) (W : World) (h : OpsAt W A5 nl l') => rhas_calls A5 nl c5 l' q W h (by omega))
      simp only [opV] at HHAS HRHAS
      clear hk
      go_wp2
      go_loopw [17] (fun vk W => ∃ k : Nat, vk = .int .i64 k ∧ k ≤ nX ∧ Hid (Below Z.heap.size Z W)) (fun vk _ => (nX - (RowKit.intOf vk).toNat))
      case atStart => exact ⟨0, rfl, by omega, Lib.hid (Below.refl _ _)⟩
      case round =>
        obtain ⟨k, rfl, hk, HZ⟩ := hrel
        have HPZ := Lib.hid (HP.out.below HZ.out)
        have hc2 := pw_cell_below HPZ.out.bel HCI.out
        by_cases hkn : k < nX
        · have hkx : k < X.length := by rw [HXN.out]; exact hkn
          obtain ⟨bi, oi, rfl, hcx⟩ := HTI.out.2.2 (show 0 < nX by omega)
          have HM5 := Lib.hid ((hcx k hkx).below HPZ.out.bel)
          have HC2 := Lib.hid hc2
          have hk1 : (0 : Int) ≤ (k : Int) := by omega
          have hk2 : (k : Int) < (nX : Int) := by omega
          clear hcx
          generalize X[k] = q at *
          go_upto_region 24 with fail
          have HB := Lib.hid (Below.refl wr.heap.size wr)
          clear hc2
          go_region_held3 (fun Y => Y.cell? ⟨b, o + i, none⟩ = some (.slice (some ⟨bi, oi, none⟩) nX ci) ∧ Y.cell? ⟨px, 1, none⟩ = some (.slice A5 nl c5) ∧ Y.cell? ⟨bi, oi + k * 5, none⟩ = some (.int .i64 q.n) ∧ Y.cell? ⟨bi, oi + k * 5 + 1, none⟩ = some (.int .i64 q.r) ∧ Y.cell? ⟨bi, oi + k * 5 + 2, none⟩ = some (.int .i64 q.node) ∧ Y.cell? ⟨bi, oi + k * 5 + 3, none⟩ = some (.int .i64 q.par) ∧ Y.cell? ⟨bi, oi + k * 5 + 4, none⟩ = some (.string q.name))
            (exact ⟨pw_cell_below (by repeat (first | (with_reducible exact HB.out) | apply below_alloc | apply pw_below_drewN | apply below_drew1 | exact HB.out)) HC2.out, pw_cell_below (by repeat (first | (with_reducible exact HB.out) | apply below_alloc | apply pw_below_drewN | apply below_drew1 | exact HB.out)) HPZ.out.c1, pw_cell_below (by repeat (first | (with_reducible exact HB.out) | apply below_alloc | apply pw_below_drewN | apply below_drew1 | exact HB.out)) HM5.out.1, pw_cell_below (by repeat (first | (with_reducible exact HB.out) | apply below_alloc | apply pw_below_drewN | apply below_drew1 | exact HB.out)) HM5.out.2.1, pw_cell_below (by repeat (first | (with_reducible exact HB.out) | apply below_alloc | apply pw_below_drewN | apply below_drew1 | exact HB.out)) HM5.out.2.2.1, pw_cell_below (by repeat (first | (with_reducible exact HB.out) | apply below_alloc | apply pw_below_drewN | apply below_drew1 | exact HB.out)) HM5.out.2.2.2.1, pw_cell_below (by repeat (first | (with_reducible exact HB.out) | apply below_alloc | apply pw_below_drewN | apply below_drew1 | exact HB.out)) HM5.out.2.2.2.2⟩)
            (first
              | (go_at_call 22; (refine Calls.mono (HHAS.out q _ (HPZ.out.log.below (by repeat (first | (with_reducible exact HB.out) | apply below_alloc | apply pw_below_drewN | apply below_drew1 | exact HB.out)))) ?_); rintro e x1 ⟨rfl, hb⟩; have HBn := Lib.hid (below_step (by repeat (first | (with_reducible exact HB.out) | apply below_alloc | apply pw_below_drewN | apply below_drew1 | exact HB.out)) hb); clear hb HB; have HB := HBn; clear HBn)
              | (go_at_call 23; (refine Calls.mono (HRHAS.out q _ (HPZ.out.ops.below (by repeat (first | (with_reducible exact HB.out) | apply below_alloc | apply pw_below_drewN | apply below_drew1 | exact HB.out)))) ?_); rintro e x2 ⟨rfl, hb⟩; have HBn := Lib.hid (below_step (by repeat (first | (with_reducible exact HB.out) | apply below_alloc | apply pw_below_drewN | apply below_drew1 | exact HB.out)) hb); clear hb HB; have HB := HBn; clear HBn)
              | (fail "no arm"))
          go_wp2
          go_roundw
          case rel => exact ⟨k + 1, by go_num, by omega, Lib.hid (below_step HZ.out (by repeat (first | (with_reducible exact HB.out) | apply below_alloc | apply pw_below_drewN | apply below_drew1 | exact HB.out)))⟩
          case measure => simp [RowKit.intOf] <;> omega
        · obtain rfl : k = nX := by omega
          go_wp2
          go_roundw
          case rel => exact ⟨i + 1, l', F2, by go_num, by omega, Lib.hid HPZ.out.ps⟩
          case measure => simp [RowKit.intOf] <;> omega
    · obtain rfl : i = n := by omega
      go_wp2
      go_ret
      exact ⟨rfl, HPS.out.bel⟩
theorem plays_far (A : Option Addr) (n cc : Nat) (top : Int) (w : World) (hT : Tabs w) (h : 8 < n) (hm : n ≤ 9223372036854775807) :
    Calls Tryz.prog 3 #[.slice A n cc, .int .u8 top] w fun e w' => e = .returned (.bool true) ∧ Below w.heap.size w w' := by
  have HT := Lib.hid hT
  have HB := Lib.hid (Below.refl w.heap.size w)
  clear hT
  go_enter Tryz.func3, Tryz.ntmps3
  go_wp2_with (first
    | (go_at_call 7; (with_reducible refine Calls.mono (awake_calls _ HT.out) ?_); rintro e w1 ⟨rfl, hb⟩; have HBn := Lib.hid (below_step (by repeat (first | (with_reducible exact HB.out) | apply below_alloc | apply pw_below_drewN | apply below_drew1 | exact HB.out)) hb); clear hb HB; have HB := HBn; clear HBn)
    | (fail "no arm"))
  all_goals (go_ret; exact ⟨rfl, (by repeat (first | (with_reducible exact HB.out) | apply below_alloc | apply pw_below_drewN | apply below_drew1 | exact HB.out))⟩)
end Go.Proofs.YtkmdmjlepmmejaaGreatDoor.Ol
namespace Go.Proofs.YtkmdmjlepmmejaaGreatDoor
open Go.RowKit Go.Proofs.YtkmdmjlepmmejaaGreatDoorW.PrintWords Ol Tr
theorem oplogPlays_walk (A : Option Addr) (c : Nat) (ll : List (List OpT)) (top : Int) (W : World) (h0 : ReadsRow (opsKd.K W) 1 W A ll.length ll) (_ : ll.length ≤ c) (k0 : ll.length ≤ maxLen ∧ ∀ x ∈ ll, x.length ≤ maxLen ∧ ∀ y ∈ x, opOk y) (w1 : (Lit.int .u8 top).wf = true) (hT : Tabs W) :
    Calls Tryz.prog 3 #[.slice A ll.length c, .int .u8 top] W fun e w' => e = .returned (.bool true) ∧ Below W.heap.size W w' := by
  have ha := lists_of_row h0
  have ht := byte_wf w1
  by_cases c1 : ll.length ≤ 8
  · exact plays_walk A _ c _ top W c1 ht ha (fun os ho q hq => by
      obtain ⟨x, hx, rfl⟩ := List.mem_map.1 ho
      obtain ⟨y, hy, rfl⟩ := List.mem_map.1 hq
      exact opSize ((k0.2 x hx).2 y hy)) hT
  · exact plays_far A _ c top W hT (by omega) ha.2.1
end Go.Proofs.YtkmdmjlepmmejaaGreatDoor
/- The row and the card of the law OplogPlays, out of its walk. -/
namespace Go.Proofs.YtkmdmjlepmmejaaGreatDoor.oplogPlays
open Go.ChangeShapes Go.WideShapes Go.ChangeAt Go.RowKit Go.Lib
open Go.ChangeMaps (open_string shut_string)
open Go.Proofs.YtkmdmjlepmmejaaGreatDoorW.Open Go.Proofs.YtkmdmjlepmmejaaGreatDoorW.PrintWords
theorem own : ownKnob Tryz.prog.godebug = none := by kernel_rfl
theorem laidOut : laidOutB Tryz.prog = true := by kernel_rfl
theorem op0 : Opens Tryz.prog 22 (Kd.slice 27 (Kd.slice 50 opKd)) (fun xs => xs.length ≤ maxLen ∧ ∀ x ∈ xs, x.length ≤ maxLen ∧ ∀ y ∈ x, opOk y) := Opens.slice Tryz.underlying22 (by kernel_rfl) (Opens.slice Tryz.underlying27 (by kernel_rfl) opOpens)
theorem witness_row (os : Os) {H : Type} (enc : TypeId × Value → H) :
    (OpenSpec.ofChange Rows.oplogPlaysSpec).preRow enc Tryz.prog Tryz.f3 Rows.oplogPlaysRow.domain false Rows.oplogPlaysRow.laid ((laidWorld os).forCall (fun _ _ => 0) ⟨#[], #[.slice none 0 0, .int .u8 0], []⟩).memory #[.slice none 0 0, .int .u8 0] := by
  have hw : (DataW.whole enc Tryz.prog ((laidWorld os).forCall (fun _ _ => 0) ⟨#[], #[.slice none 0 0, .int .u8 0], []⟩).memory Tryz.f3.params.toList (OpenSpec.ofChange Rows.oplogPlaysSpec).vars false (#[.slice none 0 0, .int .u8 0] : Array Value).toList 8).map (fun x => (x.1, x.2.1)) =
      some ([.nil, .lit (.int .u8 0)], []) := by kernel_rfl
  obtain ⟨⟨x1, x2, x3⟩, hx, hx1⟩ := Option.map_eq_some_iff.1 hw
  simp only [Prod.mk.injEq] at hx1
  obtain ⟨rfl, rfl⟩ := hx1
  exact OpenSpec.preRow_of_cond 8 hx (by kernel_rfl) (fun k hk => by cases hk) (by kernel_rfl) (laid_met os _)
set_option maxRecDepth 100000 in
set_option maxHeartbeats 2000000 in
theorem lifted (os : Os) (started : os.Started) (H : Type) (enc : TypeId × Value → H) (F : Stop.Interp) :
    ReturnsInHanded {} Tryz.checked os 3 .any ((OpenSpec.ofChange Rows.oplogPlaysSpec).preRow enc Tryz.prog Tryz.f3 Rows.oplogPlaysRow.domain false Rows.oplogPlaysRow.laid) (((OpenSpec.ofChange Rows.oplogPlaysSpec).at F).post enc Tryz.prog Tryz.f3 false true false false) := by
  refine returnsInHanded_of_row (C := Tryz.checked) (s := OpenSpec.ofChange Rows.oplogPlaysSpec) own started (by kernel_rfl) Tryz.func3
    (witness_row_atRef (enc := enc) (C := Tryz.checked) false (laidWorld os) #[.slice none 0 0, .int .u8 0] rfl (by kernel_rfl) (by kernel_rfl) (by kernel_rfl) (witness_row os enc)) ?_
  intro W base args ds gs before hval0 hW _ _ _ hL _ _
  have hval : ∀ (j : Nat) t v, Tryz.f3.params[j]? = some t → args[j]? = some v → Value.okWide Tryz.prog W .any base t v := hval0
  have hW' := hW
  obtain ⟨p, q, hA0, hV, rfl, hfz, hnd⟩ := hW
  have hA : DataW.TrodAll enc Tryz.prog W 0 (fun _ => true) true Tryz.f3.params.toList args.toList ds p := hA0
  rw [Tryz.params3] at hA hval
  obtain ⟨v0, vs0, d0, ds0, p0, q0, hargs, rfl, rfl, h0, r0⟩ := trodAll_cons hA
  obtain ⟨v1, vs1, d1, ds1, p1, q1, rfl, rfl, rfl, h1, r1⟩ := trodAll_cons r0
  obtain ⟨rfl, rfl, rfl⟩ := trodAll_nil r1
  obtain rfl : args = #[v0, v1] := by cases args; simp_all
  obtain ⟨rfl, rfl⟩ := trodVars_none hV
  have k0 := h0
  have lt0 : ∀ x ∈ p0, x.block < W.heap.size := by obtain ⟨m, hm⟩ := k0; exact DataW.trod_lt m _ _ _ hm
  obtain ⟨a0, len0, cap0, rfl⟩ := okWide_slice Tryz.underlying22 (hval 0 22 v0 rfl rfl)
  obtain ⟨l0, hK0, ok0⟩ := Opens.arg op0 h0
  obtain ⟨A0, c0, e0, hc0, hr0⟩ := hK0
  simp only [Value.cells, List.cons.injEq, Value.slice.injEq, and_true] at e0
  obtain ⟨rfl, rfl, rfl⟩ := e0
  obtain ⟨a1, rfl, rfl, rfl, w1⟩ := open_int Tryz.underlying5 (hval 1 5 v1 rfl rfl) h1
  clear hA0 hval0
  have htab : Tabs W := tabs_of (Lib.laidMet.reads hL (.tail _ (.head _))) (Lib.laidMet.reads hL (.head _))
  refine (oplogPlays_walk a0 cap0 l0 a1 W hr0 hc0 ok0 w1 htab).mono fun e W' ⟨he, bel⟩ => ?_
  subst he
  exact ⟨_, rfl, _, _, _, [], _, [], hW', trodAll_mk1 (shut_bool Tryz.underlying4 _), (trodAll_cons_mk (Below.trod laidOut (by kernel_rfl) (of_decide_eq_true (by kernel_rfl)) k0 bel lt0) (trodAll_cons_mk (shut_int Tryz.underlying5 w1) trodAll_mk0)), rfl, bel.frame _, fun h => by cases h⟩
theorem row_holds : Rows.OplogPlaysSaid :=
  OpenClaim.holds_of_cond 3 Tryz.f3 rfl rfl rfl rfl rfl rfl rfl ⟨rfl, rfl, rfl, rfl, rfl⟩ rfl rfl rfl rfl rfl (by kernel_rfl) Tryz.func3 (by kernel_rfl)
    (of_decide_eq_true (by kernel_rfl)) (by unfold Func.isWrapper; first | (rw [if_pos (by decide +kernel)]; kernel_rfl) | (rw [if_neg (by decide +kernel)]; exact ⟨rfl, rfl⟩))
    (fun os started H enc _ F0 => by rw [OpenClaim.pre_eq_preRow]; exact lifted os started H enc F0)
end Go.Proofs.YtkmdmjlepmmejaaGreatDoor.oplogPlays
namespace Go.Proofs.YtkmdmjlepmmejaaGreatDoor
open Go
theorem oplogPlays_holds : Rows.OplogPlaysCardSaid :=
  Claim7.holds_tied_plain_at .later [] [.data, .pinned] true (true, "acf5eca2cb5093371479f917fe907b11aa1863b483ffc0a3005077727b692803") true
    oplogPlays.row_holds (fun _ h => by cases h) (by kernel_rfl) (fun _ h => by cases h) oplogPlays_row_tie rfl ⟨rfl, rfl⟩ (by kernel_rfl) rfl
    (fun f fn hf hfn => by
      obtain rfl : f = 3 := Option.some.inj ((show Tryz.prog.funcNamed "holt/holtlaw08.OplogPlays" = some 3 by kernel_rfl).symm.trans hf) |>.symm
      obtain rfl : fn = Tryz.f3 := (Option.some.inj (Tryz.func3.symm.trans hfn)).symm
      exact ⟨by kernel_rfl, fun j t ht => by
        have hm : t ∈ Tryz.f3.params.toList := List.mem_of_getElem? (by rw [Array.getElem?_toList]; exact ht)
        rw [Tryz.params3] at hm
        have hall : (Tryz.f3.params.toList.all fun t => !Tryz.prog.wantsStandIn t) = true := by kernel_rfl
        rw [Tryz.params3] at hall
        have := List.all_eq_true.1 hall t hm
        have h2 : Tryz.prog.wantsStandIn t = false := by simpa using this
        exact h2⟩)
    (by kernel_rfl)
#print axioms oplogPlays_holds
end Go.Proofs.YtkmdmjlepmmejaaGreatDoor
